/-
  Ids as text and back: the plain law. No program in sight.
  No conditions.
-/
import Derived.Test.YtbmfinobafcmiaaDoorDigS
namespace Go.Dig
open Go.Sx
theorem hexV_get (id : List UInt8) (i : Nat) (h : i < id.length) : (hexV id).getD (2 * i) 0 = hexD ((id.getD i 0).toNat / 16) ∧ (hexV id).getD (2 * i + 1) 0 = hexD ((id.getD i 0).toNat % 16) := by
  induction id generalizing i with
  | nil => cases h
  | cons b r ih =>
    have e : hexV (b :: r) = hexD (b.toNat / 16) :: hexD (b.toNat % 16) :: hexV r := rfl
    rw [e]
    cases i with
    | zero => exact ⟨rfl, rfl⟩
    | succ i =>
      have := ih i (by simpa using h)
      rw [show 2 * (i + 1) = 2 * i + 1 + 1 from by omega]
      simpa using this
theorem digitV_hexD (n : Nat) (h : n < 16) : digitV (hexD n) = n := by
  have : ∀ i : Fin 16, digitV (hexD i.val) = (i.val : Int) := by decide +kernel
  exact this ⟨n, h⟩
theorem okHex_hexV (id : List UInt8) (h : id.length = 32) : okHex (hexV id) = true := by
  apply okHex_yes _ (by rw [hexV_length, h])
  intro i hi
  have hb := (id.getD (i / 2) 0).toNat_lt
  have := hexV_get id (i / 2) (by omega)
  rcases Nat.mod_two_eq_zero_or_one i with h2 | h2
  · rw [show i = 2 * (i / 2) by omega, this.1, digitV_hexD _ (by omega)]; omega
  · rw [show i = 2 * (i / 2) + 1 by omega, this.2, digitV_hexD _ (by omega)]; omega
theorem ofInt_byte (b : UInt8) : UInt8.ofInt (((b.toNat / 16 : Nat) : Int) * 16 + ((b.toNat % 16 : Nat) : Int)) = b := by
  apply UInt8.toNat.inj
  have hb := b.toNat_lt
  rw [show ∀ n : Int, UInt8.ofInt n = UInt8.ofNat (n % 2 ^ 8).toNat from fun _ => rfl, UInt8.toNat_ofNat']
  omega
theorem unhexV_hexV (id : List UInt8) (h : id.length = 32) : unhexV (hexV id) = id := by
  unfold unhexV
  rw [okHex_hexV id h, if_pos rfl]
  apply List.ext_getElem
  · simp [bytesL, h]
  intro i h1 h2
  have hi : i < 32 := by omega
  have := hexV_get id i (by omega)
  have hb := (id.getD i 0).toNat_lt
  simp only [bytesL, List.getElem_map, List.getElem_range]
  rw [this.1, this.2, digitV_hexD _ (by omega), digitV_hexD _ (by omega), ofInt_byte]
  simp [List.getD_eq_getElem?_getD, h, hi]
theorem hexD_digitV (c : UInt8) (h : 0 ≤ digitV c) : hexD (digitV c).toNat = c := by
  have key : ∀ n : Fin 256, 0 ≤ digitV (UInt8.ofNat n.val) → hexD (digitV (UInt8.ofNat n.val)).toNat = UInt8.ofNat n.val := by decide +kernel
  have hb : UInt8.ofNat c.toNat = c := by simp
  have := key ⟨c.toNat, c.toNat_lt⟩
  simp only [hb] at this
  exact this h
theorem okHex_get (l : List UInt8) (h : okHex l = true) (i : Nat) (hi : i < 64) : l.length = 64 ∧ 0 ≤ digitV (l.getD i 0) := by
  unfold okHex at h
  rw [Bool.and_eq_true, List.all_eq_true] at h
  have hl : l.length = 64 := by simpa using h.1
  refine ⟨hl, ?_⟩
  have hm : l.getD i 0 ∈ l := by
    rw [List.getD_eq_getElem?_getD, List.getElem?_eq_getElem (by omega)]
    exact List.getElem_mem _
  simpa using h.2 _ hm
theorem unhexV_length (l : List UInt8) : (unhexV l).length = 32 := by
  unfold unhexV; split <;> simp [bytesL]
theorem ofInt_two (a b : Int) (ha : 0 ≤ a ∧ a ≤ 15) (hb : 0 ≤ b ∧ b ≤ 15) : (UInt8.ofInt (a * 16 + b)).toNat = (a * 16 + b).toNat := by
  rw [show ∀ n : Int, UInt8.ofInt n = UInt8.ofNat (n % 2 ^ 8).toNat from fun _ => rfl, UInt8.toNat_ofNat']
  omega
theorem hexV_unhexV (l : List UInt8) (h : okHex l = true) : hexV (unhexV l) = l := by
  have hl := (okHex_get l h 0 (by omega)).1
  have hu := unhexV_length l
  apply List.ext_getElem
  · rw [hexV_length, hu, hl]
  intro i h1 h2
  have hi : i < 64 := by omega
  have hg : ∀ k, k < 32 → (unhexV l).getD k 0 = UInt8.ofInt (digitV (l.getD (2 * k) 0) * 16 + digitV (l.getD (2 * k + 1) 0)) := by
    intro k hk
    unfold unhexV
    rw [h, if_pos rfl]
    simp [bytesL, List.getD_eq_getElem?_getD, hk]
  have hv := hexV_get (unhexV l) (i / 2) (by omega)
  have ha := okHex_get l h (2 * (i / 2)) (by omega)
  have hb := okHex_get l h (2 * (i / 2) + 1) (by omega)
  have ha' := digitV_bd (l.getD (2 * (i / 2)) 0)
  have hb' := digitV_bd (l.getD (2 * (i / 2) + 1) 0)
  have e := ofInt_two (digitV (l.getD (2 * (i / 2)) 0)) (digitV (l.getD (2 * (i / 2) + 1) 0)) ⟨ha.2, ha'.2⟩ ⟨hb.2, hb'.2⟩
  have hx : ∀ (m : List UInt8) (hm : i < m.length), m[i] = m.getD i 0 := by
    intro m hm
    simp [List.getD_eq_getElem?_getD, hm]
  rw [hx _ h1, hx _ h2]
  rcases Nat.mod_two_eq_zero_or_one i with h2' | h2'
  · have hi2 : i = 2 * (i / 2) := by omega
    generalize i / 2 = k at *
    subst hi2
    rw [hv.1, hg _ (by omega), e]
    have : (digitV (l.getD (2 * k) 0) * 16 + digitV (l.getD (2 * k + 1) 0)).toNat / 16 = (digitV (l.getD (2 * k) 0)).toNat := by omega
    rw [this, hexD_digitV _ ha.2]
  · have hi2 : i = 2 * (i / 2) + 1 := by omega
    generalize i / 2 = k at *
    subst hi2
    rw [hv.2, hg _ (by omega), e]
    have : (digitV (l.getD (2 * k) 0) * 16 + digitV (l.getD (2 * k + 1) 0)).toNat % 16 = (digitV (l.getD (2 * k + 1) 0)).toNat := by omega
    rw [this, hexD_digitV _ hb.2]
end Go.Dig
