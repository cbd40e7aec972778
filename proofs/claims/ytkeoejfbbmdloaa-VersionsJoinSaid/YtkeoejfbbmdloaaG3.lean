/-
  VersionsJoin holds: for every list of bytes the law returns true, and the list reads afterwards as it read before. The shell of this text was written by the kit's proof-skeleton.mjs; the walk is my own.
-/
import Derived.Test.YtkeoejfbbmdloaaRows
import Derived.Test.YtkeoejfbbmdloaaV14
import Derived.WalkKit
import Derived.ProofKit
import Derived.OpenShut
import Derived.ShutString
import Derived.ChangeOld
import Derived.Below
namespace Go.Proofs.Ytkeoejfbbmdloaa.versionsJoin
open Go.ChangeShapes Go.WideShapes Go.ChangeAt Go.RowKit
open Go.ChangeMaps (open_string shut_string)
set_option linter.unusedVariables false

theorem own : ownKnob Try.prog.godebug = none := by kernel_rfl
theorem laidOut : laidOutB Try.prog = true := by kernel_rfl

/-- WHAT THE WALK IS TOLD OF A SLICE OF INTEGERS THAT CAME IN: it is nil; or it leads to a row of 'cap' cells, the numbers 'zs' (the first 'len' are its elements, the rest its spare room), each fitting its kind. -/
def IsRow (k : IntKind) (w : World) (a : Option Addr) (len cap : Nat) (zs : List Int) : Prop :=
  (a = none ∧ len = 0 ∧ cap = 0 ∧ zs = []) ∨
  ∃ x, a = some x ∧ len ≤ cap ∧ cap ≤ maxLen ∧ zs.length = cap ∧ (∀ i, i < zs.length → w.cell? (x.add i) = some (.int k (zs.getD i 0))) ∧ ∀ n ∈ zs, (Lit.int k n).wf = true

open Go.Own in
theorem bytes_in {w : World} {a : Option Addr} {len cap : Nat} {zs : List Int} (h : IsRow .u8 w a len cap zs) : (bytesC (zs.take len)).p (fun _ => True) w (.slice a len cap) := by
  rcases h with ⟨rfl, rfl, rfl, rfl⟩ | ⟨x, rfl, hl, hm, hz, hc, _⟩
  · exact nil_is 1 _ w
  · have hlen : (zs.take len).length = len := by rw [List.length_take]; omega
    refine ⟨some x, cap, by rw [List.length_map, hlen], by rw [List.length_map, hlen]; exact hl, hm, fun e he => by obtain ⟨b, _, rfl⟩ := List.mem_map.1 he; rfl, fun hne => ?_⟩
    have hpos : 0 < len := by
      rcases Nat.eq_zero_or_pos len with h0 | h0
      · subst h0; exact absurd rfl hne
      · exact h0
    have h0 := hc 0 (by omega)
    obtain ⟨b, o, sp⟩ := x
    have hsp : sp = none ∧ b < w.heap.size := by
      simp only [Addr.add, if_true, World.cell?] at h0
      cases e : w.heap[b]? with
      | none => rw [e] at h0; cases h0
      | some ob =>
        rw [e] at h0
        cases ob with
        | cells c t r =>
          refine ⟨?_, heap_lt e⟩
          cases sp with
          | none => rfl
          | some q => simp at h0
        | _ => cases h0
    obtain ⟨rfl, hb⟩ := hsp
    refine ⟨b, o, rfl, trivial, hb, (zs.take len).map (Value.int .u8), ?_, fun i u hu => ?_⟩
    · rw [flat_one (fun b => CT.ex (Value.int .u8 b))]
      have key : ∀ l : List Int, cells (fun _ => True) w (l.map fun b => CT.ex (Value.int .u8 b)) (l.map (Value.int .u8)) := fun l => by
        induction l with
        | nil => trivial
        | cons y l ih => exact ⟨rfl, ih⟩
      exact key _
    · rw [List.getElem?_map] at hu
      cases e : (zs.take len)[i]? with
      | none => rw [e] at hu; cases hu
      | some n =>
        rw [e] at hu
        injection hu with hu
        have hi : i < (zs.take len).length := (List.getElem?_eq_some_iff.1 e).1
        have h1 := hc i (by omega)
        have h2 : zs.getD i 0 = n := by
          rw [List.getElem?_take, if_pos (by omega)] at e
          rw [List.getD_eq_getElem?_getD, e]; rfl
        have h3 : (⟨b, o, none⟩ : Addr).add i = ⟨b, o + i, none⟩ := by
          unfold Addr.add
          split
          · rename_i h; subst h; rfl
          · rfl
        rw [h3, h2] at h1
        rw [← hu]; exact h1

theorem bytes_range {w : World} {a : Option Addr} {len cap : Nat} {zs : List Int} (h : IsRow .u8 w a len cap zs) : ∀ b ∈ zs.take len, 0 ≤ b ∧ b < 256 := fun b hb => by
  have hm := List.mem_of_mem_take hb
  rcases h with ⟨_, _, _, rfl⟩ | ⟨x, _, _, _, _, _, hw⟩
  · cases hm
  · have := hw b hm
    simp only [Lit.wf, Bool.and_eq_true, decide_eq_true_eq] at this
    have h1 : IntKind.u8.min = 0 := by decide
    have h2 : IntKind.u8.max = 255 := by decide
    omega

theorem walk (a0 : Option Addr) (len0 cap0 : Nat) (z0 : List Int) (w : World) (w0 : IsRow .u8 w a0 len0 cap0 z0) :
    Calls Try.prog 4 #[.slice a0 len0 cap0] w fun e w' => e = .returned (.bool true) ∧ Below w.heap.size w w' := by
  refine (VersionsJoin_ok (z0.take len0) (bytes_range w0) (fun _ => True) w [.slice a0 len0 cap0] (fun _ _ => trivial) ⟨bytes_in w0, trivial⟩).mono ?_
  rintro e w' ⟨v, rfl, hv, hb⟩
  have hv : v = .bool true := hv
  subst hv
  exact ⟨rfl, hb⟩

/-! ### THE ROW's STEP: WRITTEN OUT: LEAVE IT -/
set_option maxRecDepth 100000 in
theorem lifted (os : Os) (started : os.Started) (H : Type) (enc : TypeId × Value → H) :
    ReturnsInHanded {} Try.checked os 4 .any (Rows.versionsJoinSpec.pre6 enc Try.prog Try.f4 Rows.versionsJoinRow.domain false) (Rows.versionsJoinSpec.post enc Try.prog Try.f4 false true false false) := by
  refine returnsInHanded_of_change (C := Try.checked) own started (by kernel_rfl) Try.func4
    (ChangeSpec.witness6 (enc := enc) (C := Try.checked) false ⟨#[], #[.slice none 0 0], []⟩ 8 (by kernel_rfl) (by kernel_rfl) (by kernel_rfl) (by kernel_rfl)) ?_
  intro W base args ds gs before hval0 hW hcnd _
  have hval : ∀ (j : Nat) t v, Try.f4.params[j]? = some t → args[j]? = some v → Value.okWide Try.prog W .any base t v := hval0
  have hW' := hW
  obtain ⟨p, q, hA0, hV, rfl, hfz, hnd⟩ := hW
  have hA : DataW.TrodAll enc Try.prog W 0 (fun _ => true) true Try.f4.params.toList args.toList ds p := hA0
  rw [Try.params4] at hA hval
  obtain ⟨v0, vs0, d0, ds0, p0, q0, hargs, rfl, rfl, h0, r0⟩ := trodAll_cons hA
  obtain ⟨rfl, rfl, rfl⟩ := trodAll_nil r0
  obtain rfl : args = #[v0] := by cases args; simp_all
  obtain ⟨rfl, rfl⟩ := trodVars_none hV
  obtain ⟨a0, len0, cap0, rfl⟩ := okWide_slice Try.underlying22 (hval 0 22 v0 rfl rfl)
  have k0 := h0
  have lt0 : ∀ x ∈ p0, x.block < W.heap.size := by obtain ⟨m, hm⟩ := k0; exact DataW.trod_lt m _ _ _ hm
  obtain ⟨z0, w0⟩ : ∃ zs, IsRow .u8 W a0 len0 cap0 zs := by
    obtain ⟨fuel, hf⟩ := h0
    rcases open_ints Try.underlying22 Try.underlying5 (by kernel_rfl) hf with ⟨hcs, _⟩ | ⟨x, l, c, zs, hcs, _, hl, hm, hz, _, hcell, hwz⟩
    · simp [Value.cells] at hcs
      obtain ⟨rfl, rfl, rfl⟩ := hcs
      exact ⟨[], .inl ⟨rfl, rfl, rfl, rfl⟩⟩
    · simp [Value.cells] at hcs
      obtain ⟨rfl, rfl, rfl⟩ := hcs
      exact ⟨zs, .inr ⟨_, rfl, hl, hm, by simpa using hz, hcell, hwz⟩⟩
  clear hA0 hval0
  refine (walk a0 len0 cap0 z0 W w0).mono fun e W' ⟨he, bel⟩ => ?_
  subst he
  exact ⟨_, rfl, _, _, _, [], _, [], hW', trodAll_mk1 (shut_bool Try.underlying4 _), (trodAll_cons_mk (Below.trod laidOut (by kernel_rfl) (of_decide_eq_true (by kernel_rfl)) k0 bel lt0) trodAll_mk0), rfl, bel.frame _, fun h => by cases h⟩

theorem over : Rows.versionsJoinRow.holds Try.pinned (OpenSpec.ofChange Rows.versionsJoinSpec) :=
  OpenClaim.holds_of_wide 4 Try.f4 rfl rfl rfl rfl rfl rfl rfl ⟨rfl, rfl, rfl, rfl, rfl⟩ rfl rfl rfl rfl rfl (by kernel_rfl) Try.func4 (by kernel_rfl)
    (of_decide_eq_true (by kernel_rfl)) (by unfold Func.isWrapper; first | (rw [if_pos (by decide +kernel)]; kernel_rfl) | (rw [if_neg (by decide +kernel)]; exact ⟨rfl, rfl⟩))
    (fun os started H enc _ => lifted os started H enc)

/-- ████ THE STATEMENT ████ -/
theorem proved : Rows.VersionsJoinSaid := over
#print axioms proved
end Go.Proofs.Ytkeoejfbbmdloaa.versionsJoin
