/-
  THE PLAIN LAW: what the hash answers is what the document answers. No program in sight.
  No conditions.
-/
import Derived.Test.YtbmfinobafcmiaaDoorDigR
namespace Go.Dig
open Go.Sx
structure Inv (s : Hs) (p : List UInt8) : Prop where
  ok : s.Ok
  st : s.st = comps initL p (p.length / 64)
  many : s.many = p.length % 64
  rest : s.rest.take s.many = p.drop (64 * (p.length / 64))
theorem Inv.put {s : Hs} {p : List UInt8} (h : Inv s p) (x : UInt8) : Inv (hput s x) (p ++ [x]) := by
  obtain ⟨hok, hst, hmany, hrest⟩ := h
  have hk := hput_ok x hok
  have hm64 := hok.many
  have hrl := hok.rest
  have hle : 64 * (p.length / 64) ≤ p.length := by omega
  have htake : (s.rest.set s.many x).take (s.many + 1) = p.drop (64 * (p.length / 64)) ++ [x] := by
    rw [List.take_add_one, List.take_set, ← hrest]
    congr 1
    · rw [List.set_eq_of_length_le (by simp only [List.length_take]; exact Nat.min_le_left _ _)]
    · simp [hrl, hm64]
  have hlen : (p ++ [x]).length = p.length + 1 := by simp
  have hc : comps initL (p ++ [x]) (p.length / 64) = comps initL p (p.length / 64) := comps_append _ _ _ _ hle
  by_cases h64 : s.many + 1 = 64
  · have e : hput s x = ⟨comp s.st (s.rest.set s.many x), s.rest.set s.many x, 0⟩ := by unfold hput; rw [if_pos h64]
    have hd : (p.length + 1) / 64 = p.length / 64 + 1 := by omega
    have hr : (s.rest.set s.many x) = p.drop (64 * (p.length / 64)) ++ [x] := by
      rw [← htake, h64, List.take_of_length_le (by simp [hrl])]
    refine ⟨hk, ?_, ?_, ?_⟩
    · rw [e, hlen, hd]
      show comp s.st _ = comp (comps initL (p ++ [x]) (p.length / 64)) _
      rw [hc, ← hst, hr, List.drop_append_of_le_length hle, List.take_of_length_le (by simp; omega)]
    · rw [e, hlen]; show 0 = _; omega
    · rw [e, hlen]
      show List.take 0 _ = _
      rw [List.take_zero, List.drop_of_length_le (by rw [hlen]; omega)]
  · have e : hput s x = ⟨s.st, s.rest.set s.many x, s.many + 1⟩ := by unfold hput; rw [if_neg h64]
    have hd : (p.length + 1) / 64 = p.length / 64 := by omega
    refine ⟨hk, ?_, ?_, ?_⟩
    · rw [e, hlen, hd, hc]; exact hst
    · rw [e, hlen]; show s.many + 1 = _; omega
    · rw [e, hlen, hd]
      show List.take (s.many + 1) (s.rest.set s.many x) = _
      rw [htake, List.drop_append_of_le_length hle]
theorem Inv.puts {s : Hs} {p : List UInt8} (h : Inv s p) (l : List UInt8) : Inv (hputs s l) (p ++ l) := by
  induction l generalizing s p with
  | nil => rw [List.append_nil]; exact h
  | cons x r ih =>
    have := ih (h.put x)
    rw [List.append_assoc] at this
    exact this
theorem Inv.zero : Inv H0 [] := ⟨H0_ok, rfl, rfl, rfl⟩
theorem hputs_st (p : List UInt8) : (hputs H0 p).st = comps initL p (p.length / 64) := (Inv.zero.puts p).st
theorem takenL_eq (l : List (List UInt8)) (n : Nat) : takenL (UInt64.ofNat n) l = UInt64.ofNat (n + l.flatten.length) := by
  induction l generalizing n with
  | nil => rfl
  | cons a r ih =>
    show takenL (UInt64.ofNat n + UInt64.ofNat a.length) r = _
    rw [← UInt64.ofNat_add, ih, List.flatten_cons, List.length_append, Nat.add_assoc]
theorem hsum_eq (m : List UInt8) : hsum (hputs H0 m) (UInt64.ofNat m.length) = shaR m := by
  unfold hsum shaR
  rw [← hputs_st]
  suffices h : padded (hputs H0 m) (UInt64.ofNat m.length) = hputs H0 (padR m) by rw [h]
  have hmany : (hput (hputs H0 m) 128).many = (m.length + 1) % 64 := by
    have := ((Inv.zero.puts m).put 128).many
    rw [this]; simp
  unfold padded padR
  rw [hmany, hputs_append, hputs_append, hputs_append, show hputs (hputs H0 m) [128] = hput (hputs H0 m) 128 from rfl]
theorem sumV_eq (l : List (List UInt8)) : sumV l = shaR l.flatten := by
  unfold sumV
  have := takenL_eq l 0
  rw [Nat.zero_add] at this
  rw [show (0 : UInt64) = UInt64.ofNat 0 from rfl, this, hsum_eq]
end Go.Dig
