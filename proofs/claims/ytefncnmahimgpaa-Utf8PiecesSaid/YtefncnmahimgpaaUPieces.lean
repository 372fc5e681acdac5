/- For every valid text of up to 200 bytes, cut anywhere, a Decoder answers this text, and Close goes through. No condition. -/
import Derived.Test.YtefncnmahimgpaaRows
import Derived.Test.YtefncnmahimgpaaUKnown
import Derived.Test.YtefncnmahimgpaaUPre
import Derived.Test.YtefncnmahimgpaaUDec
import Derived.Test.YtefncnmahimgpaaUShort
import Derived.WalkKit
import Derived.OwnWalk
import Derived.WalkSpells
import Derived.WalkLawsBesides
import Derived.ProofKit
import Derived.OpenShut
import Derived.ShutString
import Derived.ChangeOld
import Derived.ChangeSlices
import Derived.Below
import Derived.Lib.Hide
import Derived.Lib.ConvBytes
import Derived.Laws.IdiomStrings
import Derived.Deep.MidRow
import Derived.Deep.QuietTactic
import Derived.BigQuiet
import Derived.Outline
namespace Go.Proofs.Ytefncnmahimgpaa.pieces
open Go.ChangeShapes Go.WideShapes Go.ChangeAt Go.RowKit
open Go.ChangeMaps (open_string shut_string)

theorem bytes_below (W : World) (bs : ByteArray) : Below W.heap.size W (Lib.bytesWorld W 5 bs) :=
  ⟨rfl, rfl, rfl, by rw [Lib.bytesWorld_size]; omega, fun j hj => Lib.bytesWorld_at_old W _ _ j hj⟩
theorem write_conv (D : Nat) (p bs t : ByteArray) (ht : p ++ bs = t) (at' e : Nat) (hq : (pAll t.data.toList 0).2 = (at', e)) (W : World) (h : DecAt D p false W) (hs : t.size ≤ 1000000) :
    Calls Try.prog 31 #[.pointer (some ⟨D, 0, none⟩), .slice (some ⟨W.heap.size, 0, none⟩) bs.size (grownCap W bs.size 0 5)] (Lib.bytesWorld W 5 bs) fun r w' =>
      (e = 0 ∧ r = .returned (.tuple #[.string t, .int .i64 0]) ∧ DecAt D ⟨#[]⟩ false w' ∧ Below D W w') ∨
      (e = 23 ∧ r = .returned (.tuple #[.string (t.extract 0 at'), .int .i64 0]) ∧ DecAt D (t.extract at' t.size) false w' ∧ Below D W w') ∨
      (e ≠ 0 ∧ e ≠ 23 ∧ r = .returned (.tuple #[.string ⟨#[]⟩, .int .i64 e]) ∧ DecAt D p false w' ∧ Below D W w') := by
  have hD : D < W.heap.size := (Array.getElem?_eq_some_iff.1 h).1
  have hb := (bytes_below W bs).mono (Nat.le_of_lt hD)
  have h' : DecAt D p false (Lib.bytesWorld W 5 bs) := (Lib.bytesWorld_at_old W _ bs D hD).trans h
  refine (write_open D p bs t ht at' e hq _ _ h' (fun n => ?_) hs).mono ?_
  · have hl : bs.data.toList.length = bs.size := by simp
    have hback := run_convert_bytes_back (P := Try.prog) ((Lib.bytesWorld W 5 bs).drewN n) 38 9 5 ⟨W.heap.size, 0, none⟩ (grownCap W bs.size 0 5) bs.data.toList Try.underlying38 Try.underlying5 Try.underlying9 (fun j hj => by
      rw [Addr.add_mid, Nat.zero_add]
      have := Lib.bytesWorld_cell W 5 bs j (by rw [← hl]; exact hj)
      rw [List.getD_eq_getElem?_getD, List.getElem?_eq_getElem hj] at this
      exact this)
    rw [hl, ← ba_of bs] at hback
    exact hback
  · rintro r w' (⟨a1, a2, a3, a4⟩ | ⟨a1, a2, a3, a4⟩ | ⟨a1, a2, a3, a4, a5⟩)
    · exact Or.inl ⟨a1, a2, a3, hb.trans a4⟩
    · exact Or.inr (Or.inl ⟨a1, a2, a3, hb.trans a4⟩)
    · exact Or.inr (Or.inr ⟨a1, a2, a3, a4, hb.trans a5⟩)

/-- the bytes of a slice from without -/
def U8s (v : Value) (W : World) : Prop := ∃ ao len cap, v = .slice ao len cap ∧ len ≤ maxLen ∧ ∀ i, i < len → ∃ g o n : Nat, ao = some ⟨g, o, none⟩ ∧ W.cell? ⟨g, o + i, none⟩ = some (.int .u8 (n : Int)) ∧ n ≤ 255 ∧ g < W.heap.size

theorem open_u8s {H : Type} {enc : TypeId × Value → H} {P : Program} {W : World} {base : Nat} {T e : TypeId} {v : Value} {d : DataW H} {p : List MemPlace} (ht : P.underlying T = some (.slice e)) (he : P.underlying e = some (.int .u8)) (hc : P.cellsOf e = 1)
    (hval : Value.okWide P W .any base T v) (h : DataW.Trod enc P W 0 (fun _ => true) true T v d p) : U8s v W := by
  obtain ⟨a1, len, cap, rfl⟩ := okWide_slice ht hval
  obtain ⟨fuel, hf⟩ := h
  rcases open_ints ht he hc hf with ⟨hcs, _⟩ | ⟨a, len', cap', zs, hcs, _, hl, hm, hz, _, hcell, hwz⟩
  · simp [Value.cells] at hcs
    obtain ⟨rfl, rfl, rfl⟩ := hcs
    exact ⟨none, 0, 0, rfl, Nat.zero_le _, fun i hi => absurd hi (Nat.not_lt_zero _)⟩
  · simp [Value.cells] at hcs
    obtain ⟨rfl, rfl, rfl⟩ := hcs
    simp only [if_true] at hz
    refine ⟨some a, len, cap, rfl, by omega, fun i hi => ?_⟩
    obtain ⟨ab, ao, spot⟩ := a
    have hspot : spot = none := by simpa [Addr.add] using World.cell?_spot (hcell 0 (by omega))
    subst hspot
    have hc := hcell i (by omega)
    rw [Addr.add_mid] at hc
    have hmem : zs.getD i 0 ∈ zs := by
      rw [List.getD_eq_getElem?_getD, List.getElem?_eq_getElem (by omega)]
      exact List.getElem_mem _
    have hb := bounds_u8 (hwz _ hmem)
    refine ⟨ab, ao, (zs.getD i 0).toNat, rfl, ?_, by omega, World.block_lt_of_cell? W _ hc⟩
    rw [hc, Int.toNat_of_nonneg hb.1]

set_option maxRecDepth 100000 in
set_option maxHeartbeats 1600000 in
theorem pieces_walk (s : ByteArray) (hs : s.size ≤ maxLen) (v : Value) (w : World) (hv : U8s v w) :
    Calls Try.prog 10 #[.string s, v] w fun e w' => e = .returned (.bool true) ∧ Below w.heap.size w w' := by
  have hz := take_size s 200
  have hx : (s.extract 0 (min s.size 200)).size ≤ 200 := by omega
  have HS := Lib.hid (short_any s 200 hs (by omega))
  go_enter Try.func10, Try.ntmps10
  go_wp2_with fail
  refine (HS.out _).mono ?_
  rintro e w1 ⟨rfl, c1⟩
  clear HS hz
  generalize s.extract 0 (min s.size 200) = t at *
  have HV := Lib.hid (valid_any t (by unfold maxLen; omega))
  go_wp2_with fail
  refine (known_any _).mono ?_
  rintro e w2 ⟨rfl, b2⟩
  have c2 := c1.trans (b2.mono c1.size)
  clear c1 b2
  go_wp2_with fail
  refine (HV.out _).mono ?_
  rintro e w3 ⟨rfl, b3⟩
  have c3 := c2.trans (b3.mono c2.size)
  clear c2 b3 HV
  cases hok : okAll t.data.toList
  · go_wp2_with fail
    refine (known_any _).mono ?_
    rintro e w4 ⟨rfl, b4⟩
    have c4 := c3.trans (b4.mono c3.size)
    go_wp2
    go_ret
    exact ⟨rfl, c4⟩
  · have hval : (pAll t.data.toList 0).2.2 = 0 := by unfold okAll at hok; simpa using hok
    go_wp2_with fail
    refine (newDec _).mono ?_
    rintro e w4 ⟨rfl, hd, b4⟩
    have c4 := c3.trans (b4.mono c3.size)
    obtain ⟨ao, len, cap, rfl, hlen, hcut⟩ := hv
    have HCUT := Lib.hid hcut
    have HVAL : Hid ((⟨#[]⟩ : ByteArray).data.toList ++ (⟨#[]⟩ : ByteArray).data.toList ++ t.data.toList = t.data.toList) := Lib.hid (by simp)
    have HV0 : Hid ((pAll ((⟨#[]⟩ : ByteArray).data.toList ++ t.data.toList) 0).2.2 = 0) := Lib.hid (by simpa using hval)
    have hD3 := c3.size
    generalize w3.heap.size = D at *
    clear hcut hval hok c3 b4
    unfold maxLen at hlen
    go_wp2_with fail
    go_loopw [6, 7, 8] (fun al re i wr => ∃ (k : Nat) (A p R : ByteArray), k ≤ 40 ∧ i = .int .i64 k ∧ al = .string A ∧ re = .string R ∧ Hid (A.data.toList ++ p.data.toList ++ R.data.toList = t.data.toList) ∧ Hid ((pAll (p.data.toList ++ R.data.toList) 0).2.2 = 0) ∧ DecAt D p false wr ∧ Below w.heap.size w wr) (fun _ _ i _ => 40 - (intOf i).toNat)
    case atStart => exact ⟨0, ⟨#[]⟩, ⟨#[]⟩, t, by omega, rfl, rfl, rfl, HVAL, HV0, hd, c4⟩
    case round =>
      obtain ⟨k, A, p, R, hk, rfl, rfl, rfl, HA, HVV, hd', hB⟩ := hrel
      clear hd c4 HVAL HV0
      have hsum : A.size + p.size + R.size = t.size := by
        have := congrArg List.length HA.out
        simp at this
        omega
      by_cases hgo : k < len ∧ k < 40
      · obtain ⟨hkl, hk40⟩ := hgo
        have hkli : (k : Int) < (len : Int) := by omega
        have hk40i : (k : Int) < 40 := by omega
        obtain ⟨g, o, c, rfl, hcell, hc, hg⟩ := HCUT.out k hkl
        have hcell' : wr.cell? ⟨g, o + k, none⟩ = some (.int .u8 (c : Int)) := by rw [hB.cell hg]; exact hcell
        obtain ⟨n, hn⟩ : ∃ n, n = min c R.size := ⟨_, rfl⟩
        have hmin : min (c : Int) (R.size : Int) = (n : Int) := by omega
        have hnR : n ≤ R.size := by omega
        have hPs : (R.extract 0 n).size = n := by rw [ByteArray.size_extract]; omega
        have hconv := Lib.run_convert_string_bytes (P := Try.prog) wr 9 38 5 (R.extract 0 n) Try.underlying9 Try.underlying38 Try.underlying5
        clear hcell hn
        have hTl : (p ++ R.extract 0 n).data.toList = p.data.toList ++ R.data.toList.take n := by simp [ByteArray.data_append]
        have hTs : (p ++ R.extract 0 n).size = p.size + n := by rw [ByteArray.size_append, hPs]
        have hRl : (R.extract n R.size).data.toList = R.data.toList.drop n := drop_list R n
        have hLl : p.data.toList ++ R.data.toList = (p.data.toList ++ R.data.toList.take n) ++ R.data.toList.drop n := by rw [List.append_assoc, List.take_append_drop]
        have hpl : p.data.toList.length = p.size := by simp
        have hRlen : R.data.toList.length = R.size := by simp
        have hjl : (p.data.toList ++ R.data.toList.take n).length = p.size + n := by rw [List.length_append, List.length_take]; omega
        have htk : (p.data.toList ++ R.data.toList).take (p.size + n) = p.data.toList ++ R.data.toList.take n := by rw [hLl, List.take_append_of_le_length (by omega), List.take_of_length_le (by omega)]
        have hdr : (p.data.toList ++ R.data.toList).drop (p.size + n) = R.data.toList.drop n := by rw [hLl, ← hjl, List.drop_left]
        have hpre := pre_valid _ (p.data.toList ++ R.data.toList) (Nat.le_refl _) HVV.out (p.size + n) (by rw [List.length_append]; omega)
        rw [htk, hdr, ← hTl] at hpre
        have hAll : A.data.toList ++ (p ++ R.extract 0 n).data.toList ++ (R.extract n R.size).data.toList = t.data.toList := by
          rw [hTl, hRl, List.append_assoc, List.append_assoc, List.take_append_drop, ← List.append_assoc]; exact HA.out
        have hLT : p.data.toList ++ R.data.toList = (p ++ R.extract 0 n).data.toList ++ (R.extract n R.size).data.toList := by rw [hTl, hRl]; exact hLl
        rw [hLT, ← hRl] at hpre
        have hAT := pAll_at (p ++ R.extract 0 n).data.toList
        have hTlen : (p ++ R.extract 0 n).data.toList.length = (p ++ R.extract 0 n).size := by simp
        obtain ⟨⟨a', e'⟩, hq⟩ : ∃ q, q = (pAll (p ++ R.extract 0 n).data.toList 0).2 := ⟨_, rfl⟩
        have HW := write_conv D p (R.extract 0 n) (p ++ R.extract 0 n) rfl a' e' hq.symm wr hd' (by omega)
        rw [hPs] at HW
        rw [← hq] at hpre hAT
        have HW' := Lib.hid HW
        have HPRE := Lib.hid hpre
        have HALL := Lib.hid hAll
        have HTL := Lib.hid hTlen
        have HAT := Lib.hid hAT
        clear HW hpre hAll hLT hTlen hq hdr htk hjl hRlen hpl hLl hTl hRl hAT HVV HA
        have hTle : (p ++ R.extract 0 n).size ≤ 200 := by omega
        generalize p ++ R.extract 0 n = T at *
        go_wp2_with fail
        refine HW'.out.mono ?_
        rintro e w5 (⟨rfl, rfl, hd5, b5⟩ | ⟨rfl, rfl, hd5, b5⟩ | ⟨x0, x23, _⟩)
        · have c5 := hB.trans (b5.mono hD3)
          have HA5 : Hid ((A ++ T).data.toList ++ (⟨#[]⟩ : ByteArray).data.toList ++ (R.extract n R.size).data.toList = t.data.toList) := Lib.hid (by rw [← HALL.out]; simp [ByteArray.data_append])
          have HV5 : Hid ((pAll ((⟨#[]⟩ : ByteArray).data.toList ++ (R.extract n R.size).data.toList) 0).2.2 = 0) := by
            refine Lib.hid ?_
            rcases HPRE.out with ⟨_, h⟩ | ⟨h, _⟩
            · exact h
            · exact absurd h (by simp)
          clear HPRE HALL HW' hB b5
          go_wp2_with fail
          go_quiet (fail)
          go_wp2
          go_roundw
          case rel => exact ⟨k + 1, A ++ T, ⟨#[]⟩, R.extract n R.size, by omega, by go_num, rfl, rfl, HA5, HV5, hd5, below_drewN c5⟩
          case measure => simp [intOf]; omega
        · have c5 := hB.trans (b5.mono hD3)
          have hsp : T.data.toList = (T.extract 0 a').data.toList ++ (T.extract a' T.size).data.toList := by rw [take_list, drop_list, List.take_append_drop]
          have HA5 : Hid ((A ++ T.extract 0 a').data.toList ++ (T.extract a' T.size).data.toList ++ (R.extract n R.size).data.toList = t.data.toList) := Lib.hid (by rw [← HALL.out, hsp]; simp [ByteArray.data_append])
          have HV5 : Hid ((pAll ((T.extract a' T.size).data.toList ++ (R.extract n R.size).data.toList) 0).2.2 = 0) := by
            refine Lib.hid ?_
            rcases HPRE.out with ⟨h, _⟩ | ⟨_, _, h⟩
            · exact absurd h (by simp)
            · rw [List.drop_append_of_le_length (by exact HAT.out)] at h
              rw [drop_list]
              exact h
          clear HPRE HALL HW' hB b5 hsp
          have hxs : (T.extract 0 a').size ≤ 200 := by rw [ByteArray.size_extract]; omega
          generalize T.extract 0 a' = X at *
          go_wp2_with fail
          go_quiet (fail)
          go_wp2
          go_roundw
          case rel => exact ⟨k + 1, A ++ X, T.extract a' T.size, R.extract n R.size, by omega, by go_num, rfl, rfl, HA5, HV5, hd5, below_drewN c5⟩
          case measure => simp [intOf]; omega
        · exfalso
          rcases HPRE.out with ⟨h, _⟩ | ⟨h, _⟩
          · exact x0 h
          · exact x23 h
      · by_cases hkl : k < len
        · have hkli : (k : Int) < (len : Int) := by omega
          have hk40i : ¬ (k : Int) < 40 := by omega
          have hconv := Lib.run_convert_string_bytes (P := Try.prog) wr 9 38 5 R Try.underlying9 Try.underlying38 Try.underlying5
          have hTl : (p ++ R).data.toList = p.data.toList ++ R.data.toList := by simp [ByteArray.data_append]
          have hTs : (p ++ R).size = p.size + R.size := ByteArray.size_append
          have hq : (pAll (p ++ R).data.toList 0).2 = ((pAll (p ++ R).data.toList 0).2.1, 0) := by
            refine Prod.ext rfl ?_
            show (pAll (p ++ R).data.toList 0).2.2 = 0
            rw [hTl]; exact HVV.out
          have HW := Lib.hid (write_conv D p R (p ++ R) rfl _ 0 hq wr hd' (by omega))
          have hfin : A ++ (p ++ R) = t := by
            apply ByteArray.ext
            rw [← Array.toList_inj]
            have h1 : (A ++ (p ++ R)).data.toList = A.data.toList ++ (p.data.toList ++ R.data.toList) := by simp [ByteArray.data_append]
            rw [h1, ← List.append_assoc]; exact HA.out
          clear hq hTl
          generalize p ++ R = T at *
          go_wp2_with fail
          refine HW.out.mono ?_
          rintro e w5 (⟨_, rfl, hd5, b5⟩ | ⟨x, _⟩ | ⟨x, _⟩)
          rotate_left
          · exact absurd x (by omega)
          · exact absurd rfl x
          have c5 := hB.trans (b5.mono hD3)
          clear hB b5 HW
          go_wp2_with fail
          refine (close_ok D ⟨#[]⟩ _ hd5 rfl).mono ?_
          rintro e w6 ⟨rfl, hd6, b6⟩
          have c6 := c5.trans (b6.mono hD3)
          go_wp2
          go_ret
          exact ⟨ret_bool (by simp), c6⟩
        · have hkli : ¬ (k : Int) < (len : Int) := by omega
          have hconv := Lib.run_convert_string_bytes (P := Try.prog) wr 9 38 5 R Try.underlying9 Try.underlying38 Try.underlying5
          have hTl : (p ++ R).data.toList = p.data.toList ++ R.data.toList := by simp [ByteArray.data_append]
          have hTs : (p ++ R).size = p.size + R.size := ByteArray.size_append
          have hq : (pAll (p ++ R).data.toList 0).2 = ((pAll (p ++ R).data.toList 0).2.1, 0) := by
            refine Prod.ext rfl ?_
            show (pAll (p ++ R).data.toList 0).2.2 = 0
            rw [hTl]; exact HVV.out
          have HW := Lib.hid (write_conv D p R (p ++ R) rfl _ 0 hq wr hd' (by omega))
          have hfin : A ++ (p ++ R) = t := by
            apply ByteArray.ext
            rw [← Array.toList_inj]
            have h1 : (A ++ (p ++ R)).data.toList = A.data.toList ++ (p.data.toList ++ R.data.toList) := by simp [ByteArray.data_append]
            rw [h1, ← List.append_assoc]; exact HA.out
          clear hq hTl
          generalize p ++ R = T at *
          go_wp2_with fail
          refine HW.out.mono ?_
          rintro e w5 (⟨_, rfl, hd5, b5⟩ | ⟨x, _⟩ | ⟨x, _⟩)
          rotate_left
          · exact absurd x (by omega)
          · exact absurd rfl x
          have c5 := hB.trans (b5.mono hD3)
          clear hB b5 HW
          go_wp2_with fail
          refine (close_ok D ⟨#[]⟩ _ hd5 rfl).mono ?_
          rintro e w6 ⟨rfl, hd6, b6⟩
          have c6 := c5.trans (b6.mono hD3)
          go_wp2
          go_ret
          exact ⟨ret_bool (by simp), c6⟩


theorem own : ownKnob Try.prog.godebug = none := by kernel_rfl
theorem laidOut : laidOutB Try.prog = true := by kernel_rfl

set_option maxRecDepth 100000 in
theorem lifted (os : Os) (started : os.Started) (H : Type) (enc : TypeId × Value → H) :
    ReturnsInHanded {} Try.checked os 10 .any (Rows.utf8PiecesSpec.pre6 enc Try.prog Try.f10 Rows.utf8PiecesRow.domain false) (Rows.utf8PiecesSpec.post enc Try.prog Try.f10 false true false false) := by
  refine returnsInHanded_of_change (C := Try.checked) own started (by kernel_rfl) Try.func10
    (ChangeSpec.witness6 (enc := enc) (C := Try.checked) false ⟨#[], #[.string ByteArray.empty, .slice none 0 0], []⟩ 8 (by kernel_rfl) (by kernel_rfl) (by kernel_rfl) (by kernel_rfl)) ?_
  intro W base args ds gs before hval0 hW hcnd _
  have hval : ∀ (j : Nat) t v, Try.f10.params[j]? = some t → args[j]? = some v → Value.okWide Try.prog W .any base t v := hval0
  have hW' := hW
  obtain ⟨p, q, hA0, hV, rfl, hfz, hnd⟩ := hW
  have hA : DataW.TrodAll enc Try.prog W 0 (fun _ => true) true Try.f10.params.toList args.toList ds p := hA0
  rw [Try.params10] at hA hval
  obtain ⟨v0, vs0, d0, ds0, p0, q0, hargs, rfl, rfl, h0, r0⟩ := trodAll_cons hA
  obtain ⟨v1, vs1, d1, ds1, p1, q1, rfl, rfl, rfl, h1, r1⟩ := trodAll_cons r0
  obtain ⟨rfl, rfl, rfl⟩ := trodAll_nil r1
  obtain rfl : args = #[v0, v1] := by cases args; simp_all
  obtain ⟨rfl, rfl⟩ := trodVars_none hV
  have k0 := h0
  have lt0 : ∀ x ∈ p0, x.block < W.heap.size := by obtain ⟨m, hm⟩ := k0; exact DataW.trod_lt m _ _ _ hm
  have k1 := h1
  have lt1 : ∀ x ∈ p1, x.block < W.heap.size := by obtain ⟨m, hm⟩ := k1; exact DataW.trod_lt m _ _ _ hm
  obtain ⟨a0, rfl, rfl, rfl, w0⟩ := open_string Try.underlying9 (hval 0 9 v0 rfl rfl) h0
  have w1 : U8s v1 W := open_u8s Try.underlying38 Try.underlying5 (by kernel_rfl) (hval 1 38 v1 rfl rfl) h1
  clear hA0 hval0
  refine (pieces_walk a0 w0 v1 W w1).mono fun e W' ⟨he, bel⟩ => ?_
  subst he
  exact ⟨_, rfl, _, _, _, [], _, [], hW', trodAll_mk1 (shut_bool Try.underlying4 _), (trodAll_cons_mk (Below.trod laidOut (by kernel_rfl) (of_decide_eq_true (by kernel_rfl)) k0 bel lt0) (trodAll_cons_mk (Below.trod laidOut (by kernel_rfl) (of_decide_eq_true (by kernel_rfl)) k1 bel lt1) trodAll_mk0)), rfl, bel.frame _, fun h => by cases h⟩

theorem over : Rows.utf8PiecesRow.holds Try.pinned (OpenSpec.ofChange Rows.utf8PiecesSpec) :=
  OpenClaim.holds_of_wide 10 Try.f10 rfl rfl rfl rfl rfl rfl rfl ⟨rfl, rfl, rfl, rfl, rfl⟩ rfl rfl rfl rfl rfl (by kernel_rfl) Try.func10 (by kernel_rfl)
    (of_decide_eq_true (by kernel_rfl)) (by unfold Func.isWrapper; first | (rw [if_pos (by decide +kernel)]; kernel_rfl) | (rw [if_neg (by decide +kernel)]; exact ⟨rfl, rfl⟩))
    (fun os started H enc _ => lifted os started H enc)

/-- the statement -/
theorem proved : Rows.Utf8PiecesSaid := over
#print axioms proved

end Go.Proofs.Ytefncnmahimgpaa.pieces
