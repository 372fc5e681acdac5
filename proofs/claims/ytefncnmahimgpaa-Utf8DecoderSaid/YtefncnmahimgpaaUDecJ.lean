/- For any up to 12 pieces of up to 40 bytes and any list of truth values: a Decoder answers as the reference does after each Write and Close, and errors change nothing. No condition. -/
import Derived.Test.YtefncnmahimgpaaRows
import Derived.Test.YtefncnmahimgpaaUDecW
import Derived.WalkKit
import Derived.OwnWalk
import Derived.WalkSpells
import Derived.WalkLawsBesides
import Derived.ProofKit
import Derived.OpenShut
import Derived.ShutString
import Derived.ChangeOld
import Derived.Below
import Derived.Lib.Hide
import Derived.Deep.Matrix
import Derived.Deep.Grids
import Derived.Deep.MidRow
namespace Go.Proofs.Ytefncnmahimgpaa.decj
open Go.ChangeShapes Go.WideShapes Go.ChangeAt Go.RowKit
open Go.ChangeMaps (open_string shut_string)
open Go.Deep

theorem open_pieces {H : Type} {enc : TypeId × Value → H} {P : Program} {W : World} {base : Nat} {T e q : TypeId} {v : Value} {d : DataW H} {p : List MemPlace} (ht : P.underlying T = some (.slice e)) (he : P.underlying e = some (.slice q)) (hq : P.underlying q = some (.int .u8)) (ce : P.cellsOf e = 1) (cq : P.cellsOf q = 1)
    (hval : Value.okWide P W .any base T v) (h : DataW.Trod enc P W 0 (fun _ => true) true T v d p) : Pieces v W := by
  obtain ⟨a1, len, cap, rfl⟩ := okWide_slice ht hval
  obtain ⟨fuel, hf⟩ := h
  rcases open_int_rows ht he hq ce cq hf with ⟨hcs, _⟩ | ⟨a, len', cap', A, L, C, Z, hcs, _, hl, hm, _, hr⟩
  · simp [Value.cells] at hcs
    obtain ⟨rfl, rfl, rfl⟩ := hcs
    exact ⟨none, 0, 0, rfl, Nat.zero_le _, fun i hi => absurd hi (Nat.not_lt_zero _)⟩
  · simp [Value.cells] at hcs
    obtain ⟨rfl, rfl, rfl⟩ := hcs
    refine ⟨some a, len, cap, rfl, by omega, fun i hi => ?_⟩
    obtain ⟨ab, ao, spot⟩ := a
    have hspot : spot = none := by simpa [Addr.add] using World.cell?_spot (hr 0 (by omega)).1
    subst hspot
    obtain ⟨hc, h1, h2, h3, h4, h5, h6⟩ := hr i (by omega)
    rw [Addr.add_mid] at hc
    refine ⟨ab, ao, _, rfl, World.block_lt_of_cell? W _ hc, hc, A i, L i, C i, rfl, h1, h2, fun hn => ⟨by have := h5 hn; omega, h5 hn⟩, ((Z i).take (L i)).map (fun n => UInt8.ofNat n.toNat), by simp; omega, fun ad had => ?_⟩
    obtain ⟨_, hcell⟩ := h6 ad had
    intro j hj
    refine ⟨?_, ?_⟩
    · simp only [List.length_map, List.length_take] at hj
      have := World.block_lt_of_cell? W _ (hcell j (by omega))
      rwa [add_block] at this
    · simp only [List.length_map, List.length_take] at hj
      rw [hcell j (by omega)]
      have hjz : j < (Z i).length := by omega
      have hmem : (Z i).getD j 0 ∈ Z i := by
        rw [List.getD_eq_getElem?_getD, List.getElem?_eq_getElem hjz]
        exact List.getElem_mem _
      have hb := bounds_u8 (h4 _ hmem)
      have e1 : (Z i).getD j 0 = (Z i)[j] := by rw [List.getD_eq_getElem?_getD, List.getElem?_eq_getElem hjz]; rfl
      rw [e1] at hb ⊢
      rw [List.getElem_map, List.getElem_take, UInt8.toNat_ofNat', Nat.mod_eq_of_lt (by omega), Int.toNat_of_nonneg hb.1]
theorem open_bools' {H : Type} {enc : TypeId × Value → H} {P : Program} {W : World} {base : Nat} {T e : TypeId} {v : Value} {d : DataW H} {p : List MemPlace} (ht : P.underlying T = some (.slice e)) (he : P.underlying e = some .bool) (hc : P.cellsOf e = 1)
    (hval : Value.okWide P W .any base T v) (h : DataW.Trod enc P W 0 (fun _ => true) true T v d p) : Bools v W := by
  obtain ⟨a1, len, cap, rfl⟩ := okWide_slice ht hval
  obtain ⟨fuel, hf⟩ := h
  rcases open_bools ht he hc hf with ⟨hcs, _⟩ | ⟨a, len', cap', B, hcs, _, hl, hm, _, hr⟩
  · simp [Value.cells] at hcs
    obtain ⟨rfl, rfl, rfl⟩ := hcs
    exact ⟨none, 0, 0, rfl, Nat.zero_le _, fun i hi => absurd hi (Nat.not_lt_zero _)⟩
  · simp [Value.cells] at hcs
    obtain ⟨rfl, rfl, rfl⟩ := hcs
    refine ⟨some a, len, cap, rfl, by omega, fun i hi => ?_⟩
    obtain ⟨ab, ao, spot⟩ := a
    have hspot : spot = none := by simpa [Addr.add] using World.cell?_spot (hr 0 (by omega))
    subst hspot
    have hc := hr i (by omega)
    rw [Addr.add_mid] at hc
    exact ⟨ab, ao, B i, rfl, World.block_lt_of_cell? W _ hc, hc⟩
theorem own : ownKnob Try.prog.godebug = none := by kernel_rfl
theorem laidOut : laidOutB Try.prog = true := by kernel_rfl

set_option maxRecDepth 100000 in
theorem lifted (os : Os) (started : os.Started) (H : Type) (enc : TypeId × Value → H) :
    ReturnsInHanded {} Try.checked os 12 .any (Rows.utf8DecoderSpec.pre6 enc Try.prog Try.f12 Rows.utf8DecoderRow.domain false) (Rows.utf8DecoderSpec.post enc Try.prog Try.f12 false true false false) := by
  refine returnsInHanded_of_change (C := Try.checked) own started (by kernel_rfl) Try.func12
    (ChangeSpec.witness6 (enc := enc) (C := Try.checked) false ⟨#[], #[.slice none 0 0, .slice none 0 0], []⟩ 8 (by kernel_rfl) (by kernel_rfl) (by kernel_rfl) (by kernel_rfl)) ?_
  intro W base args ds gs before hval0 hW hcnd _
  have hval : ∀ (j : Nat) t v, Try.f12.params[j]? = some t → args[j]? = some v → Value.okWide Try.prog W .any base t v := hval0
  have hW' := hW
  obtain ⟨p, q, hA0, hV, rfl, hfz, hnd⟩ := hW
  have hA : DataW.TrodAll enc Try.prog W 0 (fun _ => true) true Try.f12.params.toList args.toList ds p := hA0
  rw [Try.params12] at hA hval
  obtain ⟨v0, vs0, d0, ds0, p0, q0, hargs, rfl, rfl, h0, r0⟩ := trodAll_cons hA
  obtain ⟨v1, vs1, d1, ds1, p1, q1, rfl, rfl, rfl, h1, r1⟩ := trodAll_cons r0
  obtain ⟨rfl, rfl, rfl⟩ := trodAll_nil r1
  obtain rfl : args = #[v0, v1] := by cases args; simp_all
  obtain ⟨rfl, rfl⟩ := trodVars_none hV
  have k0 := h0
  have lt0 : ∀ x ∈ p0, x.block < W.heap.size := by obtain ⟨m, hm⟩ := k0; exact DataW.trod_lt m _ _ _ hm
  have k1 := h1
  have lt1 : ∀ x ∈ p1, x.block < W.heap.size := by obtain ⟨m, hm⟩ := k1; exact DataW.trod_lt m _ _ _ hm
  have w0 : Pieces v0 W := open_pieces Try.underlying53 Try.underlying38 Try.underlying5 (by kernel_rfl) (by kernel_rfl) (hval 0 53 v0 rfl rfl) h0
  have w1 : Bools v1 W := open_bools' Try.underlying54 Try.underlying4 (by kernel_rfl) (hval 1 54 v1 rfl rfl) h1
  clear hA0 hval0
  refine (decoder_walk v0 v1 W w0 w1).mono fun e W' ⟨he, bel⟩ => ?_
  subst he
  exact ⟨_, rfl, _, _, _, [], _, [], hW', trodAll_mk1 (shut_bool Try.underlying4 _), (trodAll_cons_mk (Below.trod laidOut (by kernel_rfl) (of_decide_eq_true (by kernel_rfl)) k0 bel lt0) (trodAll_cons_mk (Below.trod laidOut (by kernel_rfl) (of_decide_eq_true (by kernel_rfl)) k1 bel lt1) trodAll_mk0)), rfl, bel.frame _, fun h => by cases h⟩

theorem over : Rows.utf8DecoderRow.holds Try.pinned (OpenSpec.ofChange Rows.utf8DecoderSpec) :=
  OpenClaim.holds_of_wide 12 Try.f12 rfl rfl rfl rfl rfl rfl rfl ⟨rfl, rfl, rfl, rfl, rfl⟩ rfl rfl rfl rfl rfl (by kernel_rfl) Try.func12 (by kernel_rfl)
    (of_decide_eq_true (by kernel_rfl)) (by unfold Func.isWrapper; first | (rw [if_pos (by decide +kernel)]; kernel_rfl) | (rw [if_neg (by decide +kernel)]; exact ⟨rfl, rfl⟩))
    (fun os started H enc _ => lifted os started H enc)

/-- the statement -/
theorem proved : Rows.Utf8DecoderSaid := over
#print axioms proved
end Go.Proofs.Ytefncnmahimgpaa.decj
