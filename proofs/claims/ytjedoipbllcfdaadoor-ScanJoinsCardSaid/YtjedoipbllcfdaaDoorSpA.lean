/-
  PLAIN LEAN, no program in sight: bytes as lists. The model's decoding of UTF-8 on lists, and its laws.
-/
import Derived.Lib.DecodeN
import Derived.Lib.DecodeNEq
import Derived.Lib.RuneBytes
import Derived.Lib.Strings
set_option linter.unusedVariables false
set_option linter.unusedSimpArgs false
namespace Go.Proofs.YtjedoipbllcfdaaDoor
namespace Sp

/-- Byte k of a list, as a number; 0 behind its end. -/
def bt (l : List UInt8) (k : Nat) : Nat := (l.getD k 0).toNat
theorem bt_lt (l : List UInt8) (k : Nat) : bt l k < 256 := (l.getD k 0).toNat_lt
theorem bt_take (l : List UInt8) (p k : Nat) : bt (l.take p) k = if k < p then bt l k else 0 := by
  unfold bt
  by_cases h : k < p
  · rw [if_pos h, List.getD_eq_getElem?_getD, List.getD_eq_getElem?_getD, List.getElem?_take, if_pos h]
  · rw [if_neg h, List.getD_eq_getElem?_getD, List.getElem?_take, if_neg h]; rfl
theorem bt_append (a b : List UInt8) (k : Nat) : bt (a ++ b) k = if k < a.length then bt a k else bt b (k - a.length) := by
  unfold bt
  by_cases h : k < a.length
  · rw [if_pos h, List.getD_eq_getElem?_getD, List.getD_eq_getElem?_getD, List.getElem?_append_left h]
  · rw [if_neg h, List.getD_eq_getElem?_getD, List.getD_eq_getElem?_getD, List.getElem?_append_right (by omega)]
theorem bt_none (l : List UInt8) (k : Nat) (h : l.length ≤ k) : bt l k = 0 := by
  unfold bt
  rw [List.getD_eq_getElem?_getD, List.getElem?_eq_none h]; rfl
theorem bt_drop (l : List UInt8) (i k : Nat) : bt (l.drop i) k = bt l (i + k) := by
  unfold bt
  rw [List.getD_eq_getElem?_getD, List.getD_eq_getElem?_getD, List.getElem?_drop]
theorem bt_cons0 (c : UInt8) (r : List UInt8) : bt (c :: r) 0 = c.toNat := rfl

/-- The character at a list's beginning: its number and its bytes (65533, 1: a loose byte). -/
def dec (l : List UInt8) : Nat × Nat := Lib.decodeN l.length (bt l 0) (bt l 1) (bt l 2) (bt l 3)
def looseB (l : List UInt8) : Bool := (dec l).1 == 65533 && (dec l).2 == 1

theorem get_bt (s : ByteArray) (i k : Nat) : (s.get! (i + k)).toNat = bt (s.data.toList.drop i) k := by
  rw [bt_drop]
  unfold bt
  by_cases h : i + k < s.size
  · have h2 : i + k < s.data.toList.length := by rw [← Lib.size_eq]; exact h
    rw [List.getD_eq_getElem?_getD, List.getElem?_eq_getElem h2]
    have h3 : i + k < s.data.size := h
    show (s.data[i + k]!).toNat = _
    rw [getElem!_pos s.data (i + k) h3]
    simp
  · have h2 : ¬ i + k < s.data.toList.length := by rw [← Lib.size_eq]; exact h
    rw [List.getD_eq_getElem?_getD, List.getElem?_eq_none (by omega)]
    have h3 : ¬ i + k < s.data.size := h
    show (s.data[i + k]!).toNat = _
    rw [getElem!_neg s.data (i + k) h3]
    rfl

theorem dec_at (s : ByteArray) (i : Nat) : Utf8.decode s i = dec (s.data.toList.drop i) := by
  rw [Lib.decode_at]
  have e0 := get_bt s i 0
  rw [Nat.add_zero] at e0
  rw [e0, get_bt s i 1, get_bt s i 2, get_bt s i 3]
  unfold dec
  rw [List.length_drop, ← Lib.size_eq]

/-- The four shapes of a character: its bytes lie in the list; or it is a loose byte. -/
theorem dec_cases (l : List UInt8) (hl : l ≠ []) :
    (bt l 0 < 128 ∧ dec l = (bt l 0, 1)) ∨
    (bt l 0 / 32 = 6 ∧ 1 < l.length ∧ bt l 1 / 64 = 2 ∧ 128 ≤ bt l 0 % 32 * 64 + bt l 1 % 64 ∧ dec l = (bt l 0 % 32 * 64 + bt l 1 % 64, 2)) ∨
    (bt l 0 / 16 = 14 ∧ 2 < l.length ∧ bt l 1 / 64 = 2 ∧ bt l 2 / 64 = 2 ∧ 2048 ≤ bt l 0 % 16 * 4096 + bt l 1 % 64 * 64 + bt l 2 % 64 ∧
      (bt l 0 % 16 * 4096 + bt l 1 % 64 * 64 + bt l 2 % 64 < 55296 ∨ 57344 ≤ bt l 0 % 16 * 4096 + bt l 1 % 64 * 64 + bt l 2 % 64) ∧
      dec l = (bt l 0 % 16 * 4096 + bt l 1 % 64 * 64 + bt l 2 % 64, 3)) ∨
    (bt l 0 / 8 = 30 ∧ 3 < l.length ∧ bt l 1 / 64 = 2 ∧ bt l 2 / 64 = 2 ∧ bt l 3 / 64 = 2 ∧
      65536 ≤ bt l 0 % 8 * 262144 + bt l 1 % 64 * 4096 + bt l 2 % 64 * 64 + bt l 3 % 64 ∧ bt l 0 % 8 * 262144 + bt l 1 % 64 * 4096 + bt l 2 % 64 * 64 + bt l 3 % 64 ≤ 1114111 ∧
      dec l = (bt l 0 % 8 * 262144 + bt l 1 % 64 * 4096 + bt l 2 % 64 * 64 + bt l 3 % 64, 4)) ∨
    (128 ≤ bt l 0 ∧ dec l = (65533, 1)) := by
  have h0 := bt_lt l 0; have h1 := bt_lt l 1; have h2 := bt_lt l 2; have h3 := bt_lt l 3
  unfold dec Lib.decodeN
  generalize bt l 0 = b0 at *
  generalize bt l 1 = b1 at *
  generalize bt l 2 = b2 at *
  generalize bt l 3 = b3 at *
  repeat' split
  · left; exact ⟨by assumption, rfl⟩
  · right; left; exact ⟨by omega, by omega, by omega, by omega, rfl⟩
  · right; right; right; right; exact ⟨by omega, rfl⟩
  · right; right; left; exact ⟨by omega, by omega, by omega, by omega, by omega, by omega, rfl⟩
  · right; right; right; right; exact ⟨by omega, rfl⟩
  · right; right; right; left; exact ⟨by omega, by omega, by omega, by omega, by omega, by omega, by omega, rfl⟩
  · right; right; right; right; exact ⟨by omega, rfl⟩
  · right; right; right; right; exact ⟨by omega, rfl⟩

theorem dec_pos (l : List UInt8) (hl : l ≠ []) : 1 ≤ (dec l).2 := by
  rcases dec_cases l hl with h | h | h | h | h <;> simp [h]
theorem dec_le4 (l : List UInt8) (hl : l ≠ []) : (dec l).2 ≤ 4 := by
  rcases dec_cases l hl with h | h | h | h | h <;> simp [h]
theorem dec_len (l : List UInt8) (hl : l ≠ []) : (dec l).2 ≤ l.length := by
  have : 0 < l.length := List.length_pos_iff.2 hl
  rcases dec_cases l hl with h | h | h | h | h
  · rw [h.2]; exact this
  · rw [h.2.2.2.2]; have := h.2.1; exact this
  · rw [h.2.2.2.2.2.2]; have := h.2.1; exact this
  · rw [h.2.2.2.2.2.2.2]; have := h.2.1; exact this
  · rw [h.2]; exact this
theorem dec_ascii (c : UInt8) (r : List UInt8) (h : c.toNat < 128) : dec (c :: r) = (c.toNat, 1) := by
  have e := bt_cons0 c r
  rcases dec_cases (c :: r) (by simp) with g | g | g | g | g <;> rw [e] at g
  · exact g.2
  all_goals (exfalso; omega)
theorem dec_high (c : UInt8) (r : List UInt8) (h : 128 ≤ c.toNat) : 128 ≤ (dec (c :: r)).1 := by
  have e := bt_cons0 c r
  rcases dec_cases (c :: r) (by simp) with g | g | g | g | g <;> rw [e] at g
  · exfalso; omega
  · rw [g.2.2.2.2]; show 128 ≤ _; omega
  · rw [g.2.2.2.2.2.2]; show 128 ≤ _; omega
  · rw [g.2.2.2.2.2.2.2]; show 128 ≤ _; omega
  · rw [g.2]; decide
theorem dec_max (l : List UInt8) (hl : l ≠ []) : (dec l).1 ≤ 1114111 := by
  have h0 := bt_lt l 0
  rcases dec_cases l hl with g | g | g | g | g
  · rw [g.2]; show _ ≤ 1114111; omega
  · rw [g.2.2.2.2]; show _ ≤ 1114111; omega
  · rw [g.2.2.2.2.2.2]; show _ ≤ 1114111; omega
  · rw [g.2.2.2.2.2.2.2]; show _ ≤ 1114111; omega
  · rw [g.2]; decide
/-- A character that is no loose byte is a rune. -/
theorem dec_valid (l : List UInt8) (hl : l ≠ []) : (dec l).1 < 55296 ∨ 57343 < (dec l).1 := by
  have h0 := bt_lt l 0
  rcases dec_cases l hl with g | g | g | g | g
  · rw [g.2]; show _ < 55296 ∨ _; omega
  · rw [g.2.2.2.2]; show _ < 55296 ∨ _; omega
  · rw [g.2.2.2.2.2.2]; show _ < 55296 ∨ 57343 < _; omega
  · rw [g.2.2.2.2.2.2.2]; show _ ∨ 57343 < _; omega
  · rw [g.2]; decide

/-- What lies behind a character does not count: cut anywhere behind it, it is the same. -/
theorem dec_take (l : List UInt8) (hl : l ≠ []) (p : Nat) (hp : (dec l).2 ≤ p) : dec (l.take p) = dec l := by
  have hpos := dec_pos l hl
  have h0 := bt_lt l 0; have h1 := bt_lt l 1; have h2 := bt_lt l 2; have h3 := bt_lt l 3
  have hlen : 0 < l.length := List.length_pos_iff.2 hl
  have e0 : bt (l.take p) 0 = bt l 0 := by rw [bt_take, if_pos (by omega)]
  rcases dec_cases l hl with g | g | g | g | g
  · unfold dec Lib.decodeN
    rw [e0]
    rw [if_pos g.1, if_pos g.1]
  · have e : (dec l).2 = 2 := by rw [g.2.2.2.2]
    have e1 : bt (l.take p) 1 = bt l 1 := by rw [bt_take, if_pos (by omega)]
    rw [g.2.2.2.2]
    unfold dec Lib.decodeN
    rw [e0, e1, List.length_take]
    rw [if_neg (by omega), if_pos (by omega), if_pos (by omega)]
  · have e : (dec l).2 = 3 := by rw [g.2.2.2.2.2.2]
    have e1 : bt (l.take p) 1 = bt l 1 := by rw [bt_take, if_pos (by omega)]
    have e2 : bt (l.take p) 2 = bt l 2 := by rw [bt_take, if_pos (by omega)]
    rw [g.2.2.2.2.2.2]
    unfold dec Lib.decodeN
    rw [e0, e1, e2, List.length_take]
    rw [if_neg (by omega), if_neg (by omega), if_pos (by omega), if_pos (by omega)]
  · have e : (dec l).2 = 4 := by rw [g.2.2.2.2.2.2.2]
    have e1 : bt (l.take p) 1 = bt l 1 := by rw [bt_take, if_pos (by omega)]
    have e2 : bt (l.take p) 2 = bt l 2 := by rw [bt_take, if_pos (by omega)]
    have e3 : bt (l.take p) 3 = bt l 3 := by rw [bt_take, if_pos (by omega)]
    rw [g.2.2.2.2.2.2.2]
    unfold dec Lib.decodeN
    rw [e0, e1, e2, e3, List.length_take]
    rw [if_neg (by omega), if_neg (by omega), if_neg (by omega), if_pos (by omega), if_pos (by omega)]
  · have hloose := g.2
    have hne : l.take p ≠ [] := by
      intro hh
      have := congrArg List.length hh
      rw [List.length_take] at this
      simp only [List.length_nil] at this
      omega
    have g1 := g.1
    rcases dec_cases (l.take p) hne with k | k | k | k | k
    · rw [e0] at k; have k1 := k.1; exfalso; omega
    · rw [List.length_take] at k
      have e1 : bt (l.take p) 1 = bt l 1 := by rw [bt_take, if_pos (by omega)]
      rw [e0, e1] at k
      exfalso
      unfold dec Lib.decodeN at hloose
      rw [if_neg (by omega), if_pos (by omega), if_pos (by omega)] at hloose
      simp at hloose
    · rw [List.length_take] at k
      have e1 : bt (l.take p) 1 = bt l 1 := by rw [bt_take, if_pos (by omega)]
      have e2 : bt (l.take p) 2 = bt l 2 := by rw [bt_take, if_pos (by omega)]
      rw [e0, e1, e2] at k
      exfalso
      unfold dec Lib.decodeN at hloose
      rw [if_neg (by omega), if_neg (by omega), if_pos (by omega), if_pos (by omega)] at hloose
      simp at hloose
    · rw [List.length_take] at k
      have e1 : bt (l.take p) 1 = bt l 1 := by rw [bt_take, if_pos (by omega)]
      have e2 : bt (l.take p) 2 = bt l 2 := by rw [bt_take, if_pos (by omega)]
      have e3 : bt (l.take p) 3 = bt l 3 := by rw [bt_take, if_pos (by omega)]
      rw [e0, e1, e2, e3] at k
      exfalso
      unfold dec Lib.decodeN at hloose
      rw [if_neg (by omega), if_neg (by omega), if_neg (by omega), if_pos (by omega), if_pos (by omega)] at hloose
      simp at hloose
    · rw [k.2, hloose]

/-- In front of what is no continuation byte a text's characters are the same. -/
theorem dec_append (a b : List UInt8) (ha : a ≠ []) (hb : bt b 0 / 64 ≠ 2) : dec (a ++ b) = dec a := by
  have hne : a ++ b ≠ [] := by simp [ha]
  have hl : 0 < a.length := List.length_pos_iff.2 ha
  have key : (dec (a ++ b)).2 ≤ a.length := by
    have h0 := bt_lt (a ++ b) 0
    have n1 : a.length = 1 → bt (a ++ b) 1 / 64 ≠ 2 := by
      intro h; rw [bt_append, if_neg (by omega), h]; exact hb
    have n2 : a.length = 2 → bt (a ++ b) 2 / 64 ≠ 2 := by
      intro h; rw [bt_append, if_neg (by omega), h]; exact hb
    have n3 : a.length = 3 → bt (a ++ b) 3 / 64 ≠ 2 := by
      intro h; rw [bt_append, if_neg (by omega), h]; exact hb
    rcases dec_cases (a ++ b) hne with g | g | g | g | g
    · rw [g.2]; exact hl
    · rw [g.2.2.2.2]; show 2 ≤ _
      rcases Nat.lt_or_ge a.length 2 with h | h
      · exact absurd g.2.2.1 (n1 (by omega))
      · exact h
    · rw [g.2.2.2.2.2.2]; show 3 ≤ _
      rcases Nat.lt_or_ge a.length 3 with h | h
      · rcases Nat.lt_or_ge a.length 2 with h' | h'
        · exact absurd g.2.2.1 (n1 (by omega))
        · exact absurd g.2.2.2.1 (n2 (by omega))
      · exact h
    · rw [g.2.2.2.2.2.2.2]; show 4 ≤ _
      rcases Nat.lt_or_ge a.length 4 with h | h
      · rcases Nat.lt_or_ge a.length 3 with h' | h'
        · rcases Nat.lt_or_ge a.length 2 with h'' | h''
          · exact absurd g.2.2.1 (n1 (by omega))
          · exact absurd g.2.2.2.1 (n2 (by omega))
        · exact absurd g.2.2.2.2.1 (n3 (by omega))
      · exact h
    · rw [g.2]; exact hl
  have e := dec_take (a ++ b) hne a.length key
  rw [List.take_left] at e
  exact e.symm

theorem toU8 (c : UInt8) : ((c.toNat : Int).toNat).toUInt8 = c := by
  simp
theorem bt_get (l : List UInt8) (k : Nat) (h : k < l.length) : bt l k = (l[k]'h).toNat := by
  unfold bt
  rw [List.getD_eq_getElem?_getD, List.getElem?_eq_getElem h]; rfl
theorem u8_of {n : Int} {c : UInt8} (h : n = (c.toNat : Int)) : n.toNat.toUInt8 = c := by
  rw [h]; exact toU8 c
/-- A well-formed character's bytes are those that its number has. -/
theorem enc_dec (l : List UInt8) (hl : l ≠ []) (hg : looseB l = false) : Lib.encodeRune ((dec l).1 : Nat) = l.take (dec l).2 := by
  have h0 := bt_lt l 0; have h1 := bt_lt l 1; have h2 := bt_lt l 2; have h3 := bt_lt l 3
  rcases l with _ | ⟨a, l⟩
  · exact absurd rfl hl
  have ea : bt (a :: l) 0 = a.toNat := rfl
  rcases dec_cases (a :: l) hl with g | g | g | g | g
  · rw [g.2]
    rw [ea] at g ⊢
    show Lib.encodeRune ((a.toNat : Nat) : Int) = (a :: l).take 1
    rw [Lib.encodeRune, Lib.encodeRuneZ_one (by omega) (by omega)]
    simp
  · rcases l with _ | ⟨b, l⟩
    · simp at g
    have eb : bt (a :: b :: l) 1 = b.toNat := rfl
    rw [g.2.2.2.2]
    rw [ea, eb] at g ⊢
    rw [ea] at h0; rw [eb] at h1
    show Lib.encodeRune ((_ : Nat) : Int) = (a :: b :: l).take 2
    rw [Lib.encodeRune, Lib.encodeRuneZ_two (by omega) (by omega)]
    simp only [List.map_cons, List.map_nil, List.take_succ_cons, List.take_zero]
    rw [u8_of (c := a) (by omega), u8_of (c := b) (by omega)]
  · rcases l with _ | ⟨b, _ | ⟨c, l⟩⟩
    · simp at g
    · simp at g
    have eb : bt (a :: b :: c :: l) 1 = b.toNat := rfl
    have ec : bt (a :: b :: c :: l) 2 = c.toNat := rfl
    rw [g.2.2.2.2.2.2]
    rw [ea, eb, ec] at g ⊢
    rw [ea] at h0; rw [eb] at h1; rw [ec] at h2
    show Lib.encodeRune ((_ : Nat) : Int) = (a :: b :: c :: l).take 3
    rw [Lib.encodeRune, Lib.encodeRuneZ_three (by omega)]
    simp only [List.map_cons, List.map_nil, List.take_succ_cons, List.take_zero]
    rw [u8_of (c := a) (by omega), u8_of (c := b) (by omega), u8_of (c := c) (by omega)]
  · rcases l with _ | ⟨b, _ | ⟨c, _ | ⟨d, l⟩⟩⟩
    · simp at g
    · simp at g
    · simp at g
    have eb : bt (a :: b :: c :: d :: l) 1 = b.toNat := rfl
    have ec : bt (a :: b :: c :: d :: l) 2 = c.toNat := rfl
    have ed : bt (a :: b :: c :: d :: l) 3 = d.toNat := rfl
    rw [g.2.2.2.2.2.2.2]
    rw [ea, eb, ec, ed] at g ⊢
    rw [ea] at h0; rw [eb] at h1; rw [ec] at h2; rw [ed] at h3
    show Lib.encodeRune ((_ : Nat) : Int) = (a :: b :: c :: d :: l).take 4
    rw [Lib.encodeRune, Lib.encodeRuneZ_four (by omega) (by omega)]
    simp only [List.map_cons, List.map_nil, List.take_succ_cons, List.take_zero]
    rw [u8_of (c := a) (by omega), u8_of (c := b) (by omega), u8_of (c := c) (by omega), u8_of (c := d) (by omega)]
  · exfalso
    simp [looseB, g.2] at hg

end Sp
end Go.Proofs.YtjedoipbllcfdaaDoor
