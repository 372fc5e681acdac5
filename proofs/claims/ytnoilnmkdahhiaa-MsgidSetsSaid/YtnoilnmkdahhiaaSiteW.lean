/- Contracts: the small predicates of ascii and msgid, msgid.Site and the reference's Site. -/
import Derived.Test.YtnoilnmkdahhiaaRows
import Derived.Test.YtnoilnmkdahhiaaBase
import Derived.WalkKit
import Derived.WalkSpells
import Derived.WalkLawsBesides
import Derived.Lib.Hide
namespace Go.Proofs.Ytnoilnmkdahhiaa
open Go.RowKit

def isLow (c : Int) : Bool := decide (97 ≤ c) && decide (c ≤ 122)
def isDig (c : Int) : Bool := decide (48 ≤ c) && decide (c ≤ 57)
def isPerm (c : Int) : Bool := isLow c || isDig c || c == 45 || c == 46

set_option maxHeartbeats 400000 in
theorem isLower_any (c : Int) (w : World) :
    Calls Try.prog 44 #[.int .u8 c] w fun e w' => e = .returned (.bool (isLow c)) ∧ w = w' := by
  by_cases h1 : 97 ≤ c
  · have e1 : isLow c = decide (c ≤ 122) := by simp [isLow, h1]
    rw [e1]
    have hd : decide (97 ≤ c) = true := by simpa using h1
    go_enter Try.func44, Try.ntmps44
    go_wp2
    go_ret
    exact ⟨rfl, rfl⟩
  · have e1 : isLow c = false := by simp [isLow, h1]
    rw [e1]
    have hd : decide (97 ≤ c) = false := by simpa using h1
    go_enter Try.func44, Try.ntmps44
    go_wp2
    go_ret
    exact ⟨rfl, rfl⟩

set_option maxHeartbeats 400000 in
theorem isDigit_any (c : Int) (w : World) :
    Calls Try.prog 45 #[.int .u8 c] w fun e w' => e = .returned (.bool (isDig c)) ∧ w = w' := by
  by_cases h1 : 48 ≤ c
  · have e1 : isDig c = decide (c ≤ 57) := by simp [isDig, h1]
    rw [e1]
    have hd : decide (48 ≤ c) = true := by simpa using h1
    go_enter Try.func45, Try.ntmps45
    go_wp2
    go_ret
    exact ⟨rfl, rfl⟩
  · have e1 : isDig c = false := by simp [isDig, h1]
    rw [e1]
    have hd : decide (48 ≤ c) = false := by simpa using h1
    go_enter Try.func45, Try.ntmps45
    go_wp2
    go_ret
    exact ⟨rfl, rfl⟩

set_option maxHeartbeats 400000 in
theorem permitted_any (c : Int) (w : World) :
    Calls Try.prog 34 #[.int .u8 c] w fun e w' => e = .returned (.bool (isPerm c)) ∧ w = w' := by
  unfold isPerm
  cases h1 : isLow c <;> cases h2 : isDig c
  all_goals
    go_enter Try.func34, Try.ntmps34
    go_wp2_with (first | (go_at_call 44; refine (isLower_any _ _).mono ?_; rintro e w' ⟨rfl, rfl⟩) | (go_at_call 45; refine (isDigit_any _ _).mono ?_; rintro e w' ⟨rfl, rfl⟩))
    all_goals
      go_ret
      exact ⟨by simp [*], rfl⟩

/-- what msgid.misplaced says of place k of a text -/
def misB (l : List UInt8) (k : Nat) : Bool :=
  if k = 0 then !(isLow (byt l k))
  else if byt l k = 46 ∧ byt l (k-1) = 46 then true
  else decide (k + 1 = l.length) && (byt l k == 45 || byt l k == 46)

set_option maxHeartbeats 400000 in
theorem misplaced_any (s : ByteArray) (k : Nat) (hk : k < s.size) (hs : s.size ≤ maxLen) (w : World) :
    Calls Try.prog 35 #[.string s, .int .i64 k] w fun e w' => e = .returned (.bool (misB s.data.toList k)) ∧ w = w' := by
  unfold maxLen at hs
  by_cases h0 : k = 0
  · subst h0
    go_enter Try.func35, Try.ntmps35
    go_wp2_with (first | (go_at_call 44; refine (isLower_any _ _).mono ?_; rintro e w' ⟨rfl, rfl⟩) )
    go_ret
    exact ⟨by simp [misB, byt_at s 0 hk], rfl⟩
  · have hk0 : ((k : Int) == 0) = false := by simp; omega
    have e1 := byt_at s k hk
    have hk1 : k - 1 < s.size := by omega
    have e2 := byt_at s (k-1) hk1
    have hl : s.data.toList.length = s.size := by simp
    have hf : misB s.data.toList k = if (s[k]'hk).toNat = 46 ∧ (s[k-1]'hk1).toNat = 46 then true
      else decide (k + 1 = s.size) && ((s[k]'hk).toNat == 45 || (s[k]'hk).toNat == 46) := by
      simp only [misB, if_neg h0, e1, e2, hl]
    have HF := Lib.hid hf
    have H0 := Lib.hid h0
    clear hf h0 e1 e2 hl
    have hp1 : (1 : Int) ≤ (k : Int) := by have := H0.out; omega
    go_enter Try.func35, Try.ntmps35
    go_wp2
    all_goals
      go_ret
      refine ⟨ret_bool ?_, rfl⟩
      rw [HF.out, Bool.eq_iff_iff]
      have := H0.out
      simp at *
      omega
/-- the answer of Site: the offset and the kind of the first error -/
def siteE (l : List UInt8) : Nat × Nat :=
  if l.length = 0 then (0, 4)
  else if 30 < l.length then (30, 5)
  else match fst1 (fun i => !isPerm (byt l i)) l.length with
    | some i => (i, 6)
    | none => match fst1 (misB l) l.length with
      | some i => (i, 12)
      | none => (0, 0)
def sitePair (l : List UInt8) : Value := .tuple #[.int .i64 (siteE l).1, .int .i64 (siteE l).2]
theorem sitePair_of {l : List UInt8} {a b : Nat} {x y : Int} (h : siteE l = (a, b)) (hx : x = a) (hy : y = b) : Ending.returned (.tuple #[.int .i64 x, .int .i64 y]) = .returned (sitePair l) := by
  unfold sitePair; rw [h, hx, hy]

set_option maxHeartbeats 400000 in
theorem site_any (s : ByteArray) (hs : s.size ≤ maxLen) (w : World) :
    Calls Try.prog 19 #[.string s] w fun e w' => e = .returned (sitePair s.data.toList) ∧ w = w' := by
  have hsm := hs
  unfold maxLen at hs
  have hl : s.data.toList.length = s.size := by simp
  by_cases h0 : s.size = 0
  · have hE : siteE s.data.toList = (0, 4) := by simp [siteE, hl, h0]
    have HE := Lib.hid hE
    have hq := isEmpty_true h0
    clear hl hE h0
    go_enter Try.func19, Try.ntmps19
    go_wp2
    go_ret2
    exact ⟨sitePair_of HE.out rfl rfl, rfl⟩
  · have hq := isEmpty_false h0
    by_cases h30 : 30 < s.size
    · have hE : siteE s.data.toList = (30, 5) := by simp [siteE, hl, h0, h30]
      have HE := Lib.hid hE
      clear hl hE
      go_enter Try.func19, Try.ntmps19
      go_wp2
      go_ret2
      exact ⟨sitePair_of HE.out rfl rfl, rfl⟩
    · have h30' : s.size ≤ 30 := by omega
      have HL := Lib.hid hl
      clear hl
      go_enter Try.func19, Try.ntmps19
      go_wp2
      go_loop [15] (fun i => ∃ k : Nat, k ≤ s.size ∧ i = .int .i64 k ∧ NoneBelow (fun i => !isPerm (byt s.data.toList i)) k) (fun i => s.size - (intOf i).toNat)
      case atStart => exact ⟨0, Nat.zero_le _, rfl, NoneBelow.zero _⟩
      case round =>
        obtain ⟨k, hk, rfl, hn⟩ := hrel
        by_cases hlt : k < s.size
        · have hb := byt_at s k hlt
          cases hp : isPerm (byt s.data.toList k)
          · have HE : Hid (siteE s.data.toList = (k, 6)) := by
              apply Lib.hid
              rw [siteE, HL.out, if_neg h0, if_neg h30, fst1_some hlt hn (by simp [hp])]
            rw [hb] at hp
            clear hb
            go_wp2_with (first | (go_at_call 34; refine (permitted_any _ _).mono ?_; rintro e w' ⟨rfl, rfl⟩))
            go_ret2
            exact ⟨sitePair_of HE.out rfl rfl, rfl⟩
          · have hn' := hn.succ (k := k) (by simp [hp])
            rw [hb] at hp
            clear hb hn
            go_wp2_with (first | (go_at_call 34; refine (permitted_any _ _).mono ?_; rintro e w' ⟨rfl, rfl⟩))
            go_round
            case rel => exact ⟨k + 1, by omega, by go_num, hn'⟩
            case measure => simp [intOf]; omega
        · have hke : k = s.size := by omega
          subst hke
          go_wp2
          go_loop [27] (fun i => ∃ k : Nat, k ≤ s.size ∧ i = .int .i64 k ∧ NoneBelow (misB s.data.toList) k) (fun i => s.size - (intOf i).toNat)
          case atStart => exact ⟨0, Nat.zero_le _, rfl, NoneBelow.zero _⟩
          case round =>
            obtain ⟨k, hk, rfl, hm⟩ := hrel
            by_cases hlt : k < s.size
            · cases hp : misB s.data.toList k
              · have hm' := hm.succ (k := k) hp
                clear hm
                go_wp2_with (first | (go_at_call 35; refine (misplaced_any _ _ hlt hsm _).mono ?_; rintro e w' ⟨rfl, rfl⟩))
                go_round
                case rel => exact ⟨k + 1, by omega, by go_num, hm'⟩
                case measure => simp [intOf]; omega
              · have HE : Hid (siteE s.data.toList = (k, 12)) := by
                  apply Lib.hid
                  rw [siteE, HL.out, if_neg h0, if_neg h30, fst1_none hn, fst1_some hlt hm hp]
                go_wp2_with (first | (go_at_call 35; refine (misplaced_any _ _ hlt hsm _).mono ?_; rintro e w' ⟨rfl, rfl⟩))
                go_ret2
                exact ⟨sitePair_of HE.out rfl rfl, rfl⟩
            · have hke : k = s.size := by omega
              subst hke
              have HE : Hid (siteE s.data.toList = (0, 0)) := by
                apply Lib.hid
                rw [siteE, HL.out, if_neg h0, if_neg h30, fst1_none hn, fst1_none hm]
              go_wp2
              go_ret2
              exact ⟨sitePair_of HE.out rfl rfl, rfl⟩
end Go.Proofs.Ytnoilnmkdahhiaa
