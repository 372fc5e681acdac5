/- Plain: first answers the code point of its encoding, whatever follows. -/
import Derived.Test.YtefncnmahimgpaaUInv
namespace Go.Proofs.Ytefncnmahimgpaa
open Go.RowKit

theorem u8n (v : Nat) (h : v < 256) : (UInt8.ofNat v).toNat = v := by simp; omega
theorem begins_of (t : List UInt8) (n r : Nat) (hp : psz (byt t 0) = n) (h1 : 1 ≤ n) (hl : t.length = n) (hA : AllC t) (hr : loF t (modOf n) (n - 1) = r) (hmn : rLeast n ≤ r) (hmx : r ≤ rMost n) (hsur : r < 55296 ∨ 57343 < r) :
    (pBegins t).2 = true := by
  rw [pBegins_uni t (by omega) (by omega), hp]
  dsimp only
  unfold okB
  rw [Bool.and_eq_true]
  refine ⟨fst1_isNone.2 ((cont_all t n (by omega)).2 hA), ?_⟩
  have hv := lo_v t (modOf n) hA (n - 1) (by omega)
  rw [hv.2, ← hv.1, hr]
  simp [rangeB]
  omega
theorem first_of (t rest : List UInt8) (n r : Nat) (hp : psz (byt t 0) = n) (h1 : 1 ≤ n) (hl : t.length = n) (hA : AllC t) (hr : loF t (modOf n) (n - 1) = r) (hmn : rLeast n ≤ r) (hmx : r ≤ rMost n) (hsur : r < 55296 ∨ 57343 < r) :
    pFirst (t ++ rest) = (r, n, 0) := by
  have hb := begins_of t n r hp h1 hl hA hr hmn hmx hsur
  have ht : (t ++ rest).take n = t := by rw [List.take_append_of_le_length (by omega), List.take_of_length_le (by omega)]
  have hb0 : byt (t ++ rest) 0 = byt t 0 := by rw [← byt_take0 (t ++ rest) n h1, ht]
  have hlf := loF_take (t ++ rest) (modOf n) n (by rw [List.length_append]; omega) h1 (n - 1) (by omega)
  rw [ht, hr] at hlf
  unfold pFirst
  dsimp only
  rw [hb0, hp, if_neg (by omega), if_neg (by rw [List.length_append]; omega), ht, if_pos hb, ← hlf]

theorem first_enc (r : Nat) (hs : r ≤ 1114111) (hsur : r < 55296 ∨ 57343 < r) (rest : List UInt8) : pFirst (encL r ++ rest) = (r, (encL r).length, 0) := by
  by_cases h1 : r ≤ 127
  · have e : encL r = [UInt8.ofNat r] := by rw [encL, encN, if_pos h1]; rfl
    rw [e]
    refine first_of _ rest 1 r ?_ (by omega) rfl (fun j h1 hj => ?_) ?_ (by show 0 ≤ r; omega) (by show r ≤ 127; omega) hsur
    · show psz (UInt8.ofNat r).toNat = 1
      rw [u8n _ (by omega)]
      unfold psz; rw [if_pos h1]
    · simp at hj; omega
    · show (UInt8.ofNat r).toNat % 128 = r
      rw [u8n _ (by omega)]; omega
  · by_cases h2 : r ≤ 2047
    · have e : encL r = [UInt8.ofNat (192 + r / 64), UInt8.ofNat (128 + r % 64)] := by rw [encL, encN, if_neg h1, if_pos h2]; rfl
      rw [e]
      refine first_of _ rest 2 r ?_ (by omega) rfl (fun j h1 hj => ?_) ?_ (by show 128 ≤ r; omega) (by show r ≤ 2047; omega) hsur
      · show psz (UInt8.ofNat (192 + r / 64)).toNat = 2
        rw [u8n _ (by omega)]
        unfold psz; rw [if_neg (by omega), if_pos (by omega)]
      · obtain rfl : j = 1 := by simp at hj; omega
        show 128 ≤ (UInt8.ofNat (128 + r % 64)).toNat ∧ (UInt8.ofNat (128 + r % 64)).toNat ≤ 191
        rw [u8n _ (by omega)]; omega
      · show (UInt8.ofNat (192 + r / 64)).toNat % 32 * 64 + (UInt8.ofNat (128 + r % 64)).toNat % 64 = r
        rw [u8n _ (by omega), u8n _ (by omega)]; omega
    · by_cases h3 : r ≤ 65535
      · have e : encL r = [UInt8.ofNat (224 + r / 4096), UInt8.ofNat (128 + r / 64 % 64), UInt8.ofNat (128 + r % 64)] := by rw [encL, encN, if_neg h1, if_neg h2, if_pos h3]; rfl
        rw [e]
        refine first_of _ rest 3 r ?_ (by omega) rfl (fun j h1 hj => ?_) ?_ (by show 2048 ≤ r; omega) (by show r ≤ 65535; omega) hsur
        · show psz (UInt8.ofNat (224 + r / 4096)).toNat = 3
          rw [u8n _ (by omega)]
          unfold psz; rw [if_neg (by omega), if_neg (by omega), if_pos (by omega)]
        · obtain rfl | rfl : j = 1 ∨ j = 2 := by simp at hj; omega
          · show 128 ≤ (UInt8.ofNat (128 + r / 64 % 64)).toNat ∧ (UInt8.ofNat (128 + r / 64 % 64)).toNat ≤ 191
            rw [u8n _ (by omega)]; omega
          · show 128 ≤ (UInt8.ofNat (128 + r % 64)).toNat ∧ (UInt8.ofNat (128 + r % 64)).toNat ≤ 191
            rw [u8n _ (by omega)]; omega
        · show ((UInt8.ofNat (224 + r / 4096)).toNat % 16 * 64 + (UInt8.ofNat (128 + r / 64 % 64)).toNat % 64) * 64 + (UInt8.ofNat (128 + r % 64)).toNat % 64 = r
          rw [u8n _ (by omega), u8n _ (by omega), u8n _ (by omega)]; omega
      · have e : encL r = [UInt8.ofNat (240 + r / 262144), UInt8.ofNat (128 + r / 4096 % 64), UInt8.ofNat (128 + r / 64 % 64), UInt8.ofNat (128 + r % 64)] := by rw [encL, encN, if_neg h1, if_neg h2, if_neg h3]; rfl
        rw [e]
        refine first_of _ rest 4 r ?_ (by omega) rfl (fun j h1 hj => ?_) ?_ (by show 65536 ≤ r; omega) (by show r ≤ 1114111; omega) hsur
        · show psz (UInt8.ofNat (240 + r / 262144)).toNat = 4
          rw [u8n _ (by omega)]
          unfold psz; rw [if_neg (by omega), if_neg (by omega), if_neg (by omega), if_pos (by omega)]
        · obtain rfl | rfl | rfl : j = 1 ∨ j = 2 ∨ j = 3 := by simp at hj; omega
          · show 128 ≤ (UInt8.ofNat (128 + r / 4096 % 64)).toNat ∧ (UInt8.ofNat (128 + r / 4096 % 64)).toNat ≤ 191
            rw [u8n _ (by omega)]; omega
          · show 128 ≤ (UInt8.ofNat (128 + r / 64 % 64)).toNat ∧ (UInt8.ofNat (128 + r / 64 % 64)).toNat ≤ 191
            rw [u8n _ (by omega)]; omega
          · show 128 ≤ (UInt8.ofNat (128 + r % 64)).toNat ∧ (UInt8.ofNat (128 + r % 64)).toNat ≤ 191
            rw [u8n _ (by omega)]; omega
        · show (((UInt8.ofNat (240 + r / 262144)).toNat % 8 * 64 + (UInt8.ofNat (128 + r / 4096 % 64)).toNat % 64) * 64 + (UInt8.ofNat (128 + r / 64 % 64)).toNat % 64) * 64 + (UInt8.ofNat (128 + r % 64)).toNat % 64 = r
          rw [u8n _ (by omega), u8n _ (by omega), u8n _ (by omega), u8n _ (by omega)]; omega
theorem encL_len (r : Nat) : 1 ≤ (encL r).length ∧ (encL r).length ≤ 4 := by
  unfold encL encN
  (repeat' split) <;> simp
end Go.Proofs.Ytefncnmahimgpaa
