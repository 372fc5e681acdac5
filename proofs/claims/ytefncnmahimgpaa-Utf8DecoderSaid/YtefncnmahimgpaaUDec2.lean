/- The Decoder's Write as a function, the reference's Write; an append of bytes from without. -/
import Derived.Test.YtefncnmahimgpaaRows
import Derived.Test.YtefncnmahimgpaaBase
import Derived.Test.YtefncnmahimgpaaRow
import Derived.Test.YtefncnmahimgpaaUCheck
import Derived.Test.YtefncnmahimgpaaUDec
import Derived.Test.YtefncnmahimgpaaURefAll
import Derived.Test.YtefncnmahimgpaaRowAt
import Derived.WalkKit
import Derived.OwnWalk
import Derived.WalkSpells
import Derived.WalkLawsBesides
import Derived.Lib.Hide
import Derived.Lib.ConvBytes
import Derived.Deep.QuietTactic
import Derived.BigQuiet
import Derived.Deep.AppendLies
import Derived.Laws.OwnMore
import Derived.Outline
namespace Go.Proofs.Ytefncnmahimgpaa
open Go.RowKit

/-- what Write answers: the text, what is pending, the error -/
def pWrite (p bs : ByteArray) : ByteArray × ByteArray × Nat :=
  if (pAll (p ++ bs).data.toList 0).2.2 = 0 then (p ++ bs, ⟨#[]⟩, 0)
  else if (pAll (p ++ bs).data.toList 0).2.2 = 23 then ((p ++ bs).extract 0 (pAll (p ++ bs).data.toList 0).2.1, (p ++ bs).extract (pAll (p ++ bs).data.toList 0).2.1 (p ++ bs).size, 0)
  else (⟨#[]⟩, p, (pAll (p ++ bs).data.toList 0).2.2)
theorem pWrite_size (p bs : ByteArray) : (pWrite p bs).2.1.size ≤ p.size + bs.size := by
  have h : (p ++ bs).size = p.size + bs.size := ByteArray.size_append
  unfold pWrite
  split
  · exact Nat.zero_le _
  · split
    · dsimp only; rw [ByteArray.size_extract, h]; omega
    · dsimp only; omega
theorem write_fn (D : Nat) (p bs : ByteArray) (v : Value) (w : World) (h : DecAt D p false w)
    (hv : ∀ n, (convert 38 9 v).run Try.prog (w.drewN n) = .ok (.string bs) (w.drewN n)) (hs : p.size + bs.size ≤ 1000000) :
    Calls Try.prog 31 #[.pointer (some ⟨D, 0, none⟩), v] w fun r w' =>
      r = .returned (.tuple #[.string (pWrite p bs).1, .int .i64 (pWrite p bs).2.2]) ∧ DecAt D (pWrite p bs).2.1 false w' ∧ Below D w w' := by
  have hsz : (p ++ bs).size = p.size + bs.size := ByteArray.size_append
  refine (write_open D p bs (p ++ bs) rfl (pAll (p ++ bs).data.toList 0).2.1 (pAll (p ++ bs).data.toList 0).2.2 rfl v w h hv (by omega)).mono ?_
  unfold pWrite
  rintro r w' (⟨h0, rfl, h2, h3⟩ | ⟨h0, rfl, h2, h3⟩ | ⟨h0, h1, rfl, h2, h3⟩)
  · rw [if_pos h0]; exact ⟨rfl, h2, h3⟩
  · rw [if_neg (by omega), if_pos h0]; exact ⟨rfl, h2, h3⟩
  · rw [if_neg h0, if_neg h1]; exact ⟨rfl, h2, h3⟩

set_option maxHeartbeats 1000000 in
theorem rwrite_at (p bs : ByteArray) (l : List (Nat × Nat)) (at' e : Nat) (hq : pAll (p ++ bs).data.toList 0 = (l, at', e)) (hs : p.size + bs.size ≤ 1000000) (w : World) :
    Calls Try.prog 35 #[.string p, .string bs] w fun r w' =>
      ((e = 0 ∧ r = .returned (.tuple #[.string (p ++ bs), .string ⟨#[]⟩, .int .i64 0])) ∨
      (e = 23 ∧ r = .returned (.tuple #[.string ((p ++ bs).extract 0 at'), .string ((p ++ bs).extract at' (p ++ bs).size), .int .i64 0])) ∨
      (e ≠ 0 ∧ e ≠ 23 ∧ r = .returned (.tuple #[.string ⟨#[]⟩, .string p, .int .i64 e]))) ∧ Below w.heap.size w w' := by
  have hsz : (p ++ bs).size = p.size + bs.size := ByteArray.size_append
  have HR := rall_any (p ++ bs) (by omega)
  have hat := pAll_at (p ++ bs).data.toList
  have hz : (p ++ bs).data.toList.length = (p ++ bs).size := by simp
  rw [hz, hq] at hat
  rw [hq] at HR
  dsimp only at hat
  have HR := Lib.hid HR
  have HS := Lib.hid hsz
  have hat' : (at' : Int) ≤ (p.size : Int) + (bs.size : Int) := by omega
  clear hz hq hat
  by_cases h0 : e = 0
  · subst h0
    clear hsz
    go_enter Try.func35, Try.ntmps35
    go_wp2_with fail
    refine (HR.out _).mono ?_
    rintro e w6 ⟨v1, v2, rfl, hr1, hr2, _, b6⟩
    obtain ⟨a1, cap1, rfl, _⟩ := rowAt_of_owns hr1
    obtain ⟨a2, cap2, rfl, _⟩ := rowAt_of_owns hr2
    go_wp2
    refine bodyPost_ret (results_tmp3 rfl _ _ _) rfl ?_
    exact ⟨.inl ⟨trivial, rfl⟩, b6⟩
  · by_cases h23 : e = 23
    · subst h23
      go_enter Try.func35, Try.ntmps35
      go_wp2_with fail
      refine (HR.out _).mono ?_
      rintro e w6 ⟨v1, v2, rfl, hr1, hr2, _, b6⟩
      obtain ⟨a1, cap1, rfl, _⟩ := rowAt_of_owns hr1
      obtain ⟨a2, cap2, rfl, _⟩ := rowAt_of_owns hr2
      go_wp2_with fail
      go_quiet (fail)
      go_wp2
      refine bodyPost_ret (results_tmp3 rfl _ _ _) rfl ?_
      exact ⟨.inr (.inl ⟨trivial, by rw [HS.out]; rfl⟩), below_drewN b6⟩
    · have e0 : ((e : Int) != 0) = true := by simp; omega
      have e23 : ((e : Int) != 23) = true := by simp; omega
      have H0 := Lib.hid h0
      have H23 := Lib.hid h23
      clear h0 h23 hsz
      go_enter Try.func35, Try.ntmps35
      go_wp2_with fail
      refine (HR.out _).mono ?_
      rintro e w6 ⟨v1, v2, rfl, hr1, hr2, _, b6⟩
      obtain ⟨a1, cap1, rfl, _⟩ := rowAt_of_owns hr1
      obtain ⟨a2, cap2, rfl, _⟩ := rowAt_of_owns hr2
      go_wp2
      refine bodyPost_ret (results_tmp3 rfl _ _ _) rfl ?_
      exact ⟨.inr (.inr ⟨H0.out, H23.out, rfl⟩), b6⟩
theorem rwrite_any (p bs : ByteArray) (hs : p.size + bs.size ≤ 1000000) (w : World) :
    Calls Try.prog 35 #[.string p, .string bs] w fun r w' =>
      r = .returned (.tuple #[.string (pWrite p bs).1, .string (pWrite p bs).2.1, .int .i64 (pWrite p bs).2.2]) ∧ Below w.heap.size w w' := by
  refine (rwrite_at p bs (pAll (p ++ bs).data.toList 0).1 (pAll (p ++ bs).data.toList 0).2.1 (pAll (p ++ bs).data.toList 0).2.2 rfl hs w).mono ?_
  unfold pWrite
  rintro r w' ⟨⟨h0, rfl⟩ | ⟨h0, rfl⟩ | ⟨h0, h1, rfl⟩, b⟩
  · rw [if_pos h0]; exact ⟨rfl, b⟩
  · rw [if_neg (by omega), if_pos h0]; exact ⟨rfl, b⟩
  · rw [if_neg h0, if_neg h1]; exact ⟨rfl, b⟩

/-- an append onto an empty slice of the call's own, of a slice from without, empty or nil too -/
theorem run_append_opt {P : Program} (w : World) (t ty : TypeId) (base : Nat) (e : TypeId) (i : TypeInfo) (z : Value) (bytes : Nat) (ht : P.underlying t = some (.slice e)) (hi : P.info? e = some i) (hz : i.zero = some z)
    (hsize : i.size = 1) (hby : i.bytes = bytes) (hzs : z.cells.size = 1) (g0 c0 : Nat) (hown : w.ownsRow base e 1 (.slice (some ⟨g0, 0, none⟩) 0 c0) 0 [])
    (ao : Option Addr) (m c : Nat) (hn : ao = none → m = 0 ∧ c = 0) (news : List Value) (hl : news.length = m) (hnews : ∀ ad, ao = some ad → ∀ j u, news[j]? = some u → w.cell? (ad.add j) = some u) (h1 : ∀ u ∈ news, u.oneCell' = true)
    (h63 : m ≤ maxLen) (hbytes : m * bytes ≤ 140737488355328) (hbase : base ≤ w.heap.size) :
    ∃ g cap w', (Builtin.append_ #[t, t] ty #[.slice (some ⟨g0, 0, none⟩) 0 c0, .slice ao m c]).run P w = .ok (.slice (some ⟨g, 0, none⟩) m cap) w' ∧
      w'.ownsRow base e 1 (.slice (some ⟨g, 0, none⟩) m cap) m news ∧ w.grownBy w' (some g0) ∧ base ≤ g := by
  cases ao with
  | none =>
    obtain ⟨rfl, rfl⟩ := hn rfl
    obtain rfl := List.eq_nil_of_length_eq_zero hl
    refine ⟨g0, c0, w, run_append_owned_none w base t ty e i 1 ht hi _ 0 [] hown, hown, World.grownBy.refl _ _, ?_⟩
    rcases hown.2 with ⟨h, _⟩ | ⟨g, cap, cur, h, hb, _⟩
    · cases h
    · cases h; exact hb
  | some ad =>
    obtain ⟨v', w', hr, h2, h3, h4, h5⟩ := run_append_own_at (P := P) w base t ty e i z 1 bytes ht hi hz hsize hby hzs (by decide) _ 0 [] hown ad m c news (by rw [hl, Nat.mul_one]) (hnews ad rfl) h1 (by omega) (by rw [Nat.zero_add]; exact hbytes) hbase
    rw [Nat.zero_add, List.nil_append] at h2
    rcases h2.2 with ⟨h, _⟩ | ⟨g, cap, cur, rfl, hb, _⟩
    · exact absurd (h4.1 h).1 (by simp)
    · exact ⟨g, cap, w', hr, h2, h3, hb⟩

/-- the same at a step of a region that draws its order -/
theorem step_append_opt {P : Program} {w : World} {ops : Array Oper} {o : Oper} {a : Act} {K : Act → World → Prop} {Q : Exit → Act → World → Prop} {E : Prop} (hgd : o.guard = none) (s x : Operand) (t : TypeId)
    (ho : o.op = .call { callee := .builtin .append, args := #[s, x], argTypes := #[t, t] })
    (base : Nat) (e : TypeId) (i : TypeInfo) (z : Value) (bytes : Nat) (ht : P.underlying t = some (.slice e)) (hi : P.info? e = some i) (hz : i.zero = some z)
    (hsize : i.size = 1) (hby : i.bytes = bytes) (hzs : z.cells.size = 1) (g0 c0 : Nat) (hs : a.eval s = .slice (some ⟨g0, 0, none⟩) 0 c0) (hown : w.ownsRow base e 1 (.slice (some ⟨g0, 0, none⟩) 0 c0) 0 [])
    (ao : Option Addr) (m c : Nat) (hx : a.eval x = .slice ao m c) (hn : ao = none → m = 0 ∧ c = 0) (news : List Value) (hl : news.length = m) (hnews : ∀ ad, ao = some ad → ∀ j u, news[j]? = some u → w.cell? (ad.add j) = some u) (h1 : ∀ u ∈ news, u.oneCell' = true)
    (h63 : m ≤ maxLen) (hbytes : m * bytes ≤ 140737488355328) (hbase : base ≤ w.heap.size)
    (h : ∀ g cap w', w'.ownsRow base e 1 (.slice (some ⟨g, 0, none⟩) m cap) m news → w.grownBy w' (some g0) → base ≤ g → K (a.put o.dst (.slice (some ⟨g, 0, none⟩) m cap)) w') :
    if Region.wanted o (yielded ops a.tmps) = true then Oper.wp P o a w K Q else E := by
  have hw : Region.wanted o (yielded ops a.tmps) = true := by simp [Region.wanted, hgd]
  rw [if_pos hw]
  obtain ⟨g, cap, w', hr, h2, h3, h4⟩ := run_append_opt (P := P) w t o.type base e i z bytes ht hi hz hsize hby hzs g0 c0 hown ao m c hn news hl hnews h1 h63 hbytes hbase
  unfold Oper.wp execOp
  simp only [ho, resolve, invoke, builtin, Sem.run_bind, Sem.run_pure, Result.andThen_ok, List.map_toArray, List.map_cons, List.map_nil, hs, hx, hr]
  exact h g cap w' h2 h3 h4
end Go.Proofs.Ytefncnmahimgpaa
