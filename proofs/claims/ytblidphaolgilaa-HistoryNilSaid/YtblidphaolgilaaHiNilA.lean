/- All at a nil history. -/
import Derived.Test.YtblidphaolgilaaHiNil
import Derived.Test.YtblidphaolgilaaHiA
namespace Go.Proofs.Ytblidphaolgilaa
open Go.RowKit Go.Maps Go.Shelf
attribute [local go_sem] Oper.semAt_some
set_option linter.unusedSimpArgs false
set_option linter.unusedVariables false
set_option maxRecDepth 100000 in
set_option maxHeartbeats 2000000 in
theorem all1nil_in (n : Nat) (hn : 3 ≤ n) (lp Bs : Nat) (J : List Ent → World → Prop) (Jx : List Ent → World → Prop) (W : World) (hBs : W.cell? ⟨Bs, 0, none⟩ = some (.pointer none)) (h0 : J [] W) :
    CallsIn Fence.wide n Try.prog 50 #[.func (.yield lp) #[] #[], .pointer (some ⟨Bs, 0, none⟩)] W fun e W' => (∃ v, e = .returned v) ∧
      ((∃ ys, ys = [] ∧ J ys W') ∨ (∃ pre, pre <+: ([] : List Ent) ∧ Jx pre W')) := by
  refine callsIn_of_wp Try.func50 rfl trivial ?_ rfl
  simp only [Try.ntmps50, List.size_toArray, List.length_cons, List.length_nil, Nat.reduceAdd, Nat.reduceSub, Array.replicate_succ, Array.replicate_zero, List.push_toArray, List.append_toArray, List.nil_append, List.cons_append]
  gi_wp2_with fail
  refine ⟨trivial, fun _ => by omega, (callsIn_wide.2 (nilSorted_any _ _ W)).mono ?_⟩
  rintro e w1 ⟨rfl, rfl⟩
  clear hBs
  gi_wp2
  gi_loopw [8] (fun i wr => i = .int .i64 0 ∧ J [] wr) (fun _ _ => 0)
  case atStart => exact ⟨rfl, h0⟩
  case round =>
    obtain ⟨rfl, hJ⟩ := hrel
    gi_wp2
    go_end0
    exact ⟨⟨_, rfl⟩, .inl ⟨_, rfl, hJ⟩⟩
theorem allnil_stops (n : Nat) (hn : 3 ≤ n) (Bs : Nat) (w : World) (hBs : Bs < w.heap.size) (hc : w.cell? ⟨Bs, 0, none⟩ = some (.pointer none)) (Kp : World → World → Prop) :
    SeqStopsK Fence.wide n Try.prog 50 #[.pointer (some ⟨Bs, 0, none⟩)] eEnc Kp (fun ys => ys = []) (fun pre => pre <+: []) 0 w := fun lp J Jx W hW hJ _ hY h0 =>
  all1nil_in n hn lp Bs J Jx W ((hW.cell (p := ⟨Bs, 0, none⟩) hBs).trans hc) h0
end Go.Proofs.Ytblidphaolgilaa
