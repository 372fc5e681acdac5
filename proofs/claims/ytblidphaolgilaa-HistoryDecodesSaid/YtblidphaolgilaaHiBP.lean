/- The encoding of a history as bytes, and which bytes are encodings. Plain. -/
import Derived.Test.YtblidphaolgilaaHiP
import Derived.Test.YtblidphaolgilaaRowK
import Derived.Test.YtblidphaolgilaaBase
namespace Go.Proofs.Ytblidphaolgilaa
open Go.RowKit Go.Lib Go.Sort

/-- a byte as cells -/
def b1 (u : UInt8) : List Value := [.int .u8 (u.toNat : Int)]
theorem b1_len (u : UInt8) : (b1 u).length = 1 := rfl
theorem b1_one (u : UInt8) : ∀ v ∈ b1 u, v.oneCell' = true := by intro v hv; simp only [b1, List.mem_singleton] at hv; subst hv; rfl
theorem rcs_b1 : ∀ l : List UInt8, rcs b1 l = Lib.byteCells l
  | [] => rfl
  | a :: l => by
    have := rcs_b1 l
    unfold rcs Lib.byteCells at *
    rw [List.flatMap_cons, this]; rfl

/-- a number in four bytes -/
def f4 (n : Nat) : List UInt8 := [UInt8.ofNat (n / 16777216), UInt8.ofNat (n / 65536 % 256), UInt8.ofNat (n / 256 % 256), UInt8.ofNat (n % 256)]
theorem f4_len (n : Nat) : (f4 n).length = 4 := rfl
/-- the number that begins at a place -/
def num4 (b : List UInt8) (k : Nat) : Nat := byt b k * 16777216 + byt b (k + 1) * 65536 + byt b (k + 2) * 256 + byt b (k + 3)
theorem num4_lt (b : List UInt8) (k : Nat) : num4 b k < 4294967296 := by
  unfold num4
  have := byt_lt b k; have := byt_lt b (k + 1); have := byt_lt b (k + 2); have := byt_lt b (k + 3)
  omega
theorem byt_append_right (a c : List UInt8) (k : Nat) : byt (a ++ c) (a.length + k) = byt c k := by
  unfold byt
  rw [List.getD_eq_getElem?_getD, List.getD_eq_getElem?_getD, List.getElem?_append_right (by omega)]
  congr 3; omega
theorem byt_append_left (a c : List UInt8) {k : Nat} (h : k < a.length) : byt (a ++ c) k = byt a k := by
  unfold byt
  rw [List.getD_eq_getElem?_getD, List.getD_eq_getElem?_getD, List.getElem?_append_left h]
theorem byt_drop (a : List UInt8) (m k : Nat) : byt (a.drop m) k = byt a (m + k) := by
  unfold byt
  rw [List.getD_eq_getElem?_getD, List.getD_eq_getElem?_getD, List.getElem?_drop]
theorem byt_take (a : List UInt8) {m k : Nat} (h : k < m) : byt (a.take m) k = byt a k := by
  unfold byt
  rw [List.getD_eq_getElem?_getD, List.getD_eq_getElem?_getD, List.getElem?_take_of_lt h]
theorem num4_drop (a : List UInt8) (m k : Nat) : num4 (a.drop m) k = num4 a (m + k) := by
  unfold num4; simp only [byt_drop, Nat.add_assoc]
theorem num4_take (a : List UInt8) {m k : Nat} (h : k + 3 < m) : num4 (a.take m) k = num4 a k := by
  unfold num4; rw [byt_take _ (by omega), byt_take _ (by omega), byt_take _ (by omega), byt_take _ (by omega)]
theorem num4_f4 {n : Nat} (h : n < 4294967296) (c : List UInt8) : num4 (f4 n ++ c) 0 = n := by
  unfold num4 f4 byt
  simp
  omega
theorem f4_num4 (b : List UInt8) (k : Nat) (h : k + 4 ≤ b.length) : f4 (num4 b k) = (b.drop k).take 4 := by
  have hb : ∀ j, j < 4 → (b.drop k)[j]? = some (UInt8.ofNat (byt b (k + j))) := by
    intro j hj
    rw [List.getElem?_drop, List.getElem?_eq_getElem (by omega)]
    unfold byt
    rw [List.getD_eq_getElem?_getD, List.getElem?_eq_getElem (by omega)]
    simp
  have h0 := byt_lt b k; have h1 := byt_lt b (k + 1); have h2 := byt_lt b (k + 2); have h3 := byt_lt b (k + 3)
  apply List.ext_getElem?
  intro j
  by_cases hj : j < 4
  · rw [List.getElem?_take_of_lt hj, hb j hj]
    have e0 : num4 b k / 16777216 = byt b k := by unfold num4; omega
    have e1 : num4 b k / 65536 % 256 = byt b (k + 1) := by unfold num4; omega
    have e2 : num4 b k / 256 % 256 = byt b (k + 2) := by unfold num4; omega
    have e3 : num4 b k % 256 = byt b (k + 3) := by unfold num4; omega
    unfold f4
    rw [e0, e1, e2, e3]
    match j, hj with
    | 0, _ => rfl
    | 1, _ => rfl
    | 2, _ => rfl
    | 3, _ => rfl
  · rw [List.getElem?_eq_none (by rw [f4_len]; omega), List.getElem?_eq_none (by rw [List.length_take]; omega)]

/-- an entry in 41 bytes -/
def lastB (x : Ent) : UInt8 := UInt8.ofNat (x.st.1.toNat + if x.perm then 2 else 0)
def encB (x : Ent) : List UInt8 := x.id.1 ++ (f4 x.arr.1.toNat ++ (f4 x.dat.1.toNat ++ [lastB x]))
theorem encB_len (x : Ent) : (encB x).length = 41 := by simp [encB, f4_len, x.id.2]
/-- the encoding of a history -/
def encH (rows : List Ent) (cut : Int) : List UInt8 := f4 cut.toNat ++ rows.flatMap encB
theorem flatB_len : ∀ rows : List Ent, (rows.flatMap encB).length = rows.length * 41
  | [] => rfl
  | a :: l => by rw [List.flatMap_cons, List.length_append, flatB_len l, encB_len, List.length_cons]; omega
theorem encH_len (rows : List Ent) (cut : Int) : (encH rows cut).length = 4 + rows.length * 41 := by
  rw [encH, List.length_append, flatB_len, f4_len]

/-- the entry that 41 bytes say -/
def pId (b : List UInt8) : I32 := if h : (b.take 32).length = 32 then ⟨b.take 32, h⟩ else default
def pE (b : List UInt8) : Ent := ⟨pId b, ⟨(num4 b 32 : Int), by have := num4_lt b 32; omega⟩, ⟨(num4 b 36 : Int), by have := num4_lt b 36; omega⟩, ⟨((byt b 40 % 2 : Nat) : Int), by omega⟩, decide (byt b 40 / 2 % 2 = 1)⟩
def okB (b : List UInt8) : Bool := decide (byt b 40 < 4) && decide (chk (pE b) = 0)
/-- one part more -/
def stepB (acc : List Ent) (b : List UInt8) : Option (List Ent) := if okB b && (acc.getLast?.all fun y => ltI y.id (pE b).id) then some (acc ++ [pE b]) else none
def foldB : List Ent → List (List UInt8) → Option (List Ent)
  | acc, [] => some acc
  | acc, b :: bs => match stepB acc b with
    | some acc' => foldB acc' bs
    | none => none
theorem foldB_app : ∀ (acc : List Ent) (l m : List (List UInt8)), foldB acc (l ++ m) = (foldB acc l).bind (fun a => foldB a m)
  | acc, [], m => rfl
  | acc, b :: l, m => by
    show (match stepB acc b with | some acc' => foldB acc' (l ++ m) | none => none) = Option.bind (match stepB acc b with | some acc' => foldB acc' l | none => none) (fun a => foldB a m)
    cases stepB acc b with
    | none => rfl
    | some a => exact foldB_app a l m
theorem foldB_snoc (acc : List Ent) (l : List (List UInt8)) (b : List UInt8) : foldB acc (l ++ [b]) = (foldB acc l).bind (fun a => stepB a b) := by
  rw [foldB_app]
  congr 1
  funext a
  simp only [foldB]
  cases stepB a b <;> rfl
/-- the part of a number -/
def part (b : List UInt8) (i : Nat) : List UInt8 := (b.drop (4 + i * 41)).take 41
def parts (b : List UInt8) (n : Nat) : List (List UInt8) := (List.range n).map (part b)
theorem parts_succ (b : List UInt8) (n : Nat) : parts b (n + 1) = parts b n ++ [part b n] := by simp [parts, List.range_succ]
/-- the history that bytes encode -/
def decB (b : List UInt8) : Option (List Ent × Int) :=
  if b.length < 4 ∨ (b.length - 4) % 41 ≠ 0 ∨ minB (num4 b 0) = false then none
  else (foldB [] (parts b ((b.length - 4) / 41))).map fun r => (r, (num4 b 0 : Int))

theorem stepB_some {acc acc' : List Ent} {b : List UInt8} (h : stepB acc b = some acc') : okB b = true ∧ (∀ y, acc.getLast? = some y → ltI y.id (pE b).id = true) ∧ acc' = acc ++ [pE b] := by
  unfold stepB at h
  split at h
  · rename_i hc
    rw [Bool.and_eq_true] at hc
    refine ⟨hc.1, fun y hy => ?_, (Option.some.inj h).symm⟩
    have := hc.2
    rw [hy] at this
    exact this
  · cases h
theorem SE.snoc {l : List Ent} {x : Ent} (h : SE l) (hx : ∀ y, l.getLast? = some y → ltI y.id x.id = true) : SE (l ++ [x]) := by
  unfold SE at *
  rw [List.pairwise_append]
  refine ⟨h, List.pairwise_singleton _ _, fun a ha c hc => ?_⟩
  rw [List.mem_singleton] at hc
  subst hc
  obtain ⟨z, hz⟩ : ∃ z, l.getLast? = some z := by
    cases hg : l.getLast? with
    | none => rw [List.getLast?_eq_none_iff] at hg; subst hg; simp at ha
    | some z => exact ⟨z, rfl⟩
  have h1 := hx z hz
  obtain ⟨l', rfl⟩ : ∃ l', l = l' ++ [z] := List.getLast?_eq_some_iff.1 hz
  rcases List.mem_append.1 ha with ha | ha
  · exact ltI_trans ((List.pairwise_append.1 h).2.2 a ha z (by simp)) h1
  · rw [List.mem_singleton] at ha; subst ha; exact h1
theorem encB_pE (b : List UInt8) (hl : b.length = 41) (h4 : byt b 40 < 4) : encB (pE b) = b := by
  have hid : (pE b).id.1 = b.take 32 := by
    show (pId b).1 = _
    unfold pId
    rw [dif_pos (by rw [List.length_take]; omega)]
  have e1 : f4 (pE b).arr.1.toNat = (b.drop 32).take 4 := by
    have : (pE b).arr.1.toNat = num4 b 32 := by show ((num4 b 32 : Nat) : Int).toNat = _; omega
    rw [this, f4_num4 b 32 (by omega)]
  have e2 : f4 (pE b).dat.1.toNat = (b.drop 36).take 4 := by
    have : (pE b).dat.1.toNat = num4 b 36 := by show ((num4 b 36 : Nat) : Int).toNat = _; omega
    rw [this, f4_num4 b 36 (by omega)]
  have e3 : [lastB (pE b)] = b.drop 40 := by
    have h1 : lastB (pE b) = UInt8.ofNat (byt b 40) := by
      unfold lastB
      congr 1
      show ((byt b 40 % 2 : Nat) : Int).toNat + (if decide (byt b 40 / 2 % 2 = 1) = true then 2 else 0) = byt b 40
      by_cases h : byt b 40 / 2 % 2 = 1
      · simp [h]; omega
      · simp [h]; omega
    rw [h1]
    have h2 : b.drop 40 = [b[40]] := by
      rw [List.drop_eq_getElem_cons (by omega), List.drop_of_length_le (by omega)]
    rw [h2]
    unfold byt
    rw [List.getD_eq_getElem?_getD, List.getElem?_eq_getElem (by omega)]
    simp
  unfold encB
  rw [hid, e1, e2, e3]
  have h36 : b.drop 36 = (b.drop 36).take 4 ++ b.drop 40 := by
    have := (List.take_append_drop 4 (b.drop 36)).symm
    rwa [List.drop_drop] at this
  have h32 : b.drop 32 = (b.drop 32).take 4 ++ b.drop 36 := by
    have := (List.take_append_drop 4 (b.drop 32)).symm
    rwa [List.drop_drop] at this
  rw [← h36, ← h32, List.take_append_drop]
theorem pE_encB (x : Ent) (hc : chk x = 0) (t : List UInt8) : pE (encB x ++ t) = x ∧ byt (encB x ++ t) 40 < 4 := by
  unfold chk at hc
  split at hc
  · rename_i hm
    split at hc
    · rename_i hs
      simp only [minB, Bool.and_eq_true, decide_eq_true_eq] at hm
      obtain ⟨⟨a0, a1⟩, d0, d1⟩ := hm
      have hid : (encB x ++ t).take 32 = x.id.1 := by
        unfold encB
        rw [List.append_assoc, List.take_append_of_le_length (by rw [x.id.2]; omega), List.take_of_length_le (by rw [x.id.2]; omega)]
      have key : ∀ k, byt (encB x ++ t) (32 + k) = byt (f4 x.arr.1.toNat ++ (f4 x.dat.1.toNat ++ ([lastB x] ++ t))) k := by
        intro k
        have : encB x ++ t = x.id.1 ++ (f4 x.arr.1.toNat ++ (f4 x.dat.1.toNat ++ ([lastB x] ++ t))) := by simp [encB]
        rw [this]
        have h := byt_append_right x.id.1 (f4 x.arr.1.toNat ++ (f4 x.dat.1.toNat ++ ([lastB x] ++ t))) k
        rwa [x.id.2] at h
      have key2 : ∀ k, byt (encB x ++ t) (36 + k) = byt (f4 x.dat.1.toNat ++ ([lastB x] ++ t)) k := by
        intro k
        rw [show 36 + k = 32 + (4 + k) by omega, key]
        exact byt_append_right (f4 x.arr.1.toNat) _ k
      have key3 : byt (encB x ++ t) 40 = (lastB x).toNat := by
        have h := byt_append_right (f4 x.dat.1.toNat) ([lastB x] ++ t) 0
        rw [f4_len] at h
        exact (key2 4).trans h
      have n1 : num4 (encB x ++ t) 32 = x.arr.1.toNat := by
        have h := num4_f4 (n := x.arr.1.toNat) (by omega) (f4 x.dat.1.toNat ++ ([lastB x] ++ t))
        unfold num4 at h ⊢
        rw [key 0, show 32 + 1 = 32 + 1 from rfl, key 1, key 2, key 3]
        exact h
      have n2 : num4 (encB x ++ t) 36 = x.dat.1.toNat := by
        have h := num4_f4 (n := x.dat.1.toNat) (by omega) ([lastB x] ++ t)
        unfold num4 at h ⊢
        rw [key2 0, key2 1, key2 2, key2 3]
        exact h
      have hl : (lastB x).toNat = x.st.1.toNat + (if x.perm then 2 else 0) := by
        unfold lastB
        rw [UInt8.toNat_ofNat']
        apply Nat.mod_eq_of_lt
        rcases hs with h | h <;> rw [h] <;> cases x.perm <;> decide
      refine ⟨?_, ?_⟩
      · have i1 : pId (encB x ++ t) = x.id := by
          unfold pId
          rw [dif_pos (by rw [hid]; exact x.id.2)]
          exact Subtype.ext hid
        unfold pE
        obtain ⟨id, arr, dat, st, perm⟩ := x
        simp only at *
        congr 1
        · exact Subtype.ext (by show ((num4 _ 32 : Nat) : Int) = _; rw [n1]; omega)
        · exact Subtype.ext (by show ((num4 _ 36 : Nat) : Int) = _; rw [n2]; omega)
        · refine Subtype.ext ?_
          show ((byt _ 40 % 2 : Nat) : Int) = _
          rw [key3, hl]
          rcases hs with h | h <;> rw [h] <;> cases perm <;> simp
        · rw [key3, hl]
          rcases hs with h | h <;> rw [h] <;> cases perm <;> simp
      · rw [key3, hl]
        rcases hs with h | h <;> rw [h] <;> cases x.perm <;> decide
    · cases hc
  · cases hc

/-- what has been read is encoded as it stood -/
theorem foldB_spec (b : List UInt8) : ∀ (n : Nat), 4 + n * 41 ≤ b.length → ∀ acc, foldB [] (parts b n) = some acc → acc.flatMap encB = (b.drop 4).take (n * 41) ∧ SE acc ∧ acc.length = n ∧ ∀ x ∈ acc, chk x = 0
  | 0, _, acc, h => by
    simp only [parts, List.range_zero, List.map_nil, foldB, Option.some.injEq] at h
    subst h
    exact ⟨by simp, SE.nil, rfl, by simp⟩
  | n + 1, hn, acc, h => by
    rw [parts_succ, foldB_snoc] at h
    cases hf : foldB [] (parts b n) with
    | none => rw [hf] at h; cases h
    | some a =>
      rw [hf] at h
      simp only [Option.bind_some] at h
      obtain ⟨h1, h2, h3, h4⟩ := foldB_spec b n (by rw [Nat.succ_mul] at hn; omega) a hf
      obtain ⟨k1, k2, rfl⟩ := stepB_some h
      unfold okB at k1
      simp only [Bool.and_eq_true, decide_eq_true_eq] at k1
      have hp : (part b n).length = 41 := by unfold part; rw [List.length_take, List.length_drop]; rw [Nat.succ_mul] at hn; omega
      refine ⟨?_, h2.snoc k2, by simp [h3], ?_⟩
      · rw [List.flatMap_append, List.flatMap_singleton, encB_pE _ hp k1.1, h1, Nat.succ_mul, List.take_add, List.drop_drop]
        rfl
      · intro x hx
        rcases List.mem_append.1 hx with hx | hx
        · exact h4 x hx
        · rw [List.mem_singleton] at hx; subst hx; exact k1.2
/-- the bytes of a history that was read are its encoding -/
theorem decB_enc {b : List UInt8} {rows : List Ent} {cut : Int} (h : decB b = some (rows, cut)) : encH rows cut = b ∧ SE rows ∧ rows.length = (b.length - 4) / 41 ∧ 0 ≤ cut ∧ cut ≤ 105190559 ∧ ∀ x ∈ rows, chk x = 0 := by
  unfold decB at h
  split at h
  · cases h
  · rename_i hc
    simp only [not_or, Nat.not_lt, ne_eq, Decidable.not_not, Bool.not_eq_false] at hc
    obtain ⟨hl, hm, hmin⟩ := hc
    cases hf : foldB [] (parts b ((b.length - 4) / 41)) with
    | none => rw [hf] at h; cases h
    | some a =>
      rw [hf] at h
      simp only [Option.map_some, Option.some.injEq, Prod.mk.injEq] at h
      obtain ⟨rfl, rfl⟩ := h
      have hd : (b.length - 4) / 41 * 41 = b.length - 4 := by omega
      obtain ⟨h1, h2, h3, h4⟩ := foldB_spec b _ (by omega) a hf
      simp only [minB, Bool.and_eq_true, decide_eq_true_eq] at hmin
      refine ⟨?_, h2, h3, hmin.1, hmin.2, h4⟩
      unfold encH
      rw [h1, hd, show ((num4 b 0 : Nat) : Int).toNat = num4 b 0 by omega, f4_num4 b 0 (by omega), List.drop_zero, List.take_of_length_le (l := b.drop 4) (by rw [List.length_drop]; omega), List.take_append_drop]
theorem foldB_enc : ∀ (rows acc : List Ent), SE (acc ++ rows) → (∀ x ∈ rows, chk x = 0) → foldB acc (rows.map encB) = some (acc ++ rows)
  | [], acc, _, _ => by simp [foldB]
  | x :: rows, acc, hs, hc => by
    obtain ⟨h1, h2⟩ := pE_encB x (hc x (by simp)) []
    rw [List.append_nil] at h1 h2
    have hst : stepB acc (encB x) = some (acc ++ [x]) := by
      unfold stepB okB
      have h3 : (acc.getLast?.all fun y => ltI y.id (pE (encB x)).id) = true := by
        cases hl : acc.getLast? with
        | none => rfl
        | some y =>
          rw [h1]
          obtain ⟨l', rfl⟩ : ∃ l', acc = l' ++ [y] := List.getLast?_eq_some_iff.1 hl
          show ltI y.id x.id = true
          exact (List.pairwise_append.1 hs).2.2 y (by simp) x (by simp)
      rw [h3, h1, hc x (by simp)]
      simp [h2]
    rw [List.map_cons, foldB, hst]
    have := foldB_enc rows (acc ++ [x]) (by simpa using hs) (fun y hy => hc y (by simp [hy]))
    simpa using this
theorem parts_enc (rows : List Ent) (cut : Int) : parts (encH rows cut) rows.length = rows.map encB := by
  unfold parts
  apply List.ext_getElem (by simp)
  intro i h1 h2
  simp only [List.getElem_map, List.getElem_range]
  have hi : i < rows.length := by simpa using h2
  unfold part encH
  rw [show 4 + i * 41 = (f4 cut.toNat).length + i * 41 by rw [f4_len], List.drop_append, List.drop_of_length_le (by omega), List.nil_append, Nat.add_sub_cancel_left]
  have key : ∀ (l : List Ent) (i : Nat) (hi : i < l.length), ((l.flatMap encB).drop (i * 41)).take 41 = encB l[i] := by
    intro l
    induction l with
    | nil => intro i hi; simp at hi
    | cons a r ih =>
      intro i hi
      cases i with
      | zero => rw [List.flatMap_cons, Nat.zero_mul, List.drop_zero, List.take_append_of_le_length (by rw [encB_len]; omega), List.take_of_length_le (by rw [encB_len]; omega)]; rfl
      | succ i =>
        rw [List.flatMap_cons, show (i + 1) * 41 = (encB a).length + i * 41 by rw [encB_len]; omega, List.drop_append, List.drop_of_length_le (by omega), List.nil_append, Nat.add_sub_cancel_left]
        exact ih i (by simpa using hi)
  exact key rows i hi
/-- the encoding of a history is read as that history -/
theorem decB_of_enc {rows : List Ent} {cut : Int} (hs : SE rows) (hc : ∀ x ∈ rows, chk x = 0) (h0 : 0 ≤ cut) (h1 : cut ≤ 105190559) : decB (encH rows cut) = some (rows, cut) := by
  have hn : num4 (encH rows cut) 0 = cut.toNat := num4_f4 (by omega) _
  have hl := encH_len rows cut
  have hd : (4 + rows.length * 41 - 4) / 41 = rows.length := by omega
  have hm : (4 + rows.length * 41 - 4) % 41 = 0 := by omega
  have hmin : minB (cut.toNat : Int) = true := by simp only [minB, Bool.and_eq_true, decide_eq_true_eq]; omega
  unfold decB
  rw [hl, hn, hd, hm, hmin, if_neg (by simp), parts_enc, foldB_enc rows [] (by simpa using hs) hc]
  simp only [Option.map_some, List.nil_append, Option.some.injEq, Prod.mk.injEq, true_and]
  omega
end Go.Proofs.Ytblidphaolgilaa
