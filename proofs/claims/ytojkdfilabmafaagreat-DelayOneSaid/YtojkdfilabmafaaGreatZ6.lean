/- The proof that DelayOne holds for every input, without conditions: part 6 of 6. -/
import Derived.Test.YtojkdfilabmafaaGreatZ5
import Derived.ProofKit
import Derived.OpenShut
import Derived.ShutString
import Derived.ChangeOld
import Derived.DataElems
import Derived.Test.YtojkdfilabmafaaGreatRows
namespace Go.Proofs.YtojkdfilabmafaaGreat
open Go.Own Go.Limbs Go.Det
theorem cf_ok (vs ws : List Wr) {f : Int} (hf : f = 1 ∨ f = -1) (hw : ws.length ≤ 256) : okCoeffs (vs.length : Int) (cfW vs ws f) = true := by
  unfold okCoeffs
  rw [Bool.and_eq_true, decide_eq_true_eq]
  refine ⟨by unfold cfW; rw [List.length_map]; omega, ?_⟩
  have : (cfW vs ws f).any badC = false := by
    rw [List.any_eq_false]
    intro x hx
    obtain ⟨v, _, rfl⟩ := List.mem_map.1 hx
    have hc : ws.count v ≤ 256 := Nat.le_trans List.count_le_length hw
    generalize ws.count v = k at hc
    unfold badC
    rcases hf with rfl | rfl
    · simp; omega
    · simp; omega
  rw [this]; rfl
theorem rowsD_valid {vs : List Wr} {ms : List Me} {mo qu : Int} (hv : vs.length ≤ 16) (hl : vs.length + 2 * ms.length ≤ 64) (hm : ∀ m ∈ ms, m.2.length ≤ 256 ∧ 0 ≤ m.1.bk - m.1.tm ∧ m.1.bk - m.1.tm ≤ 2251799813685248) (ht : tiB mo qu = true) : validR (vs.length : Int) (rowsD vs mo qu ms) = true := by
  have ht : 0 ≤ mo ∧ mo ≤ 1073741824 ∧ 0 ≤ qu ∧ qu ≤ 1073741824 := of_decide_eq_true ht
  have good : ∀ (ws : List Wr) (f b : Int), (f = 1 ∨ f = -1) → ws.length ≤ 256 → -4503599627370496 ≤ b → b ≤ 4503599627370496 → badR (vs.length : Int) ⟨cfW vs ws f, b⟩ = false := fun ws f b hf hw h1 h2 => by
    unfold badR
    dsimp only
    rw [cf_ok vs ws hf hw, decide_eq_false (by omega), decide_eq_false (by omega)]; rfl
  unfold validR
  rw [decide_eq_true (by omega), decide_eq_true (by omega), decide_eq_true (by rw [rowsD_len]; exact hl)]
  have : (rowsD vs mo qu ms).any (badR (vs.length : Int)) = false := by
    rw [List.any_eq_false]
    intro r hr
    unfold rowsD at hr
    rcases List.mem_append.1 hr with h | h
    · obtain ⟨v, _, rfl⟩ := List.mem_map.1 h
      rw [good [v] 1 mo (.inl rfl) (by show 1 ≤ 256; decide) (by omega) (by omega)]; decide
    · obtain ⟨m, hmm, h⟩ := List.mem_flatMap.1 h
      obtain ⟨h1, h2, h3⟩ := hm m hmm
      rcases List.mem_cons.1 h with rfl | h
      · rw [good m.2 1 _ (.inl rfl) h1 (by omega) (by omega)]; decide
      · rw [List.mem_singleton.1 h, good m.2 (-1) _ (.inr rfl) h1 (by omega) (by omega)]; decide
  rw [this]; rfl
theorem unL_ok {n i : Nat} (h : i < n) {f : Int} (hf : f = 1 ∨ f = -1) : okCoeffs (n : Int) (unL n i f) = true := by
  unfold okCoeffs
  rw [Bool.and_eq_true, decide_eq_true_eq]
  refine ⟨by unfold unL; rw [List.length_set, List.length_replicate]; omega, ?_⟩
  have : (unL n i f).any badC = false := by
    rw [List.any_eq_false]
    intro x hx
    have hb : x = 0 ∨ x = f := by
      unfold unL at hx
      rcases List.mem_or_eq_of_mem_set hx with h | h
      · exact .inl (List.eq_of_mem_replicate h)
      · exact .inr h
    unfold badC
    rcases hb with rfl | rfl
    · decide
    · rcases hf with rfl | rfl <;> decide
  rw [this]; rfl
theorem ok_time {r : Rs} (h : okR r = true) : 0 ≤ r.tm ∧ r.tm ≤ 2251799813685248 ∧ 0 ≤ r.bk - r.tm ∧ r.bk - r.tm ≤ 2251799813685248 := by
  unfold okR at h
  rw [Bool.and_eq_true, decide_eq_true_eq] at h
  have hP : ¬ P1 r := fun hp => by have := h.1; unfold ckE at this; rw [if_pos hp] at this; cases this
  unfold P1 at hP
  omega
theorem me_time (l : List Rs) : ∀ m ∈ msF l, (0 ≤ m.1.tm ∧ m.1.tm ≤ 2251799813685248) ∧ 0 ≤ m.1.bk - m.1.tm ∧ m.1.bk - m.1.tm ≤ 2251799813685248 := fun m hm => by
  obtain ⟨r, hr, rfl⟩ := List.mem_map.1 hm
  have h1 := (List.mem_filter.1 hr).1
  have h2 := (List.mem_filter.1 (((sd_spec ordR _).2 r).1 h1)).2
  obtain ⟨a, b, c, e⟩ := ok_time h2
  exact ⟨⟨a, b⟩, c, e⟩
def bdF (O1 O2 : Oc) : Oc × Oc × (Int × Int) × Int :=
  if O1.kind ≠ 1 ∨ O2.kind ≠ 1 then (oc0, oc0, (0, 0), 33) else if flV O2.value < -flV O1.value then (oc0, oc0, (0, 0), 33) else (O1, O2, (-flV O1.value, flV O2.value), 0)
end Go.Proofs.YtojkdfilabmafaaGreat
namespace Go.Own
section
variable {X : Ctx} {L : AL} {B : BL} {ops : Array Oper} {K : Act → World → Prop} {r : Pl} {k : Kd}
  {x y z : Operand} {d : Nat} {t t2 t' : TypeId} {pos : String} {af : Array Edge} {g : Option (Nat × Bool)}
theorem Entails.front {L' : AL} {B' : BL} (a : Nat) (e : Ent) (hb : bget B a = some e) (h : Entails X L ((a, e) :: bdel B a) L' B') : Entails X L B L' B' := fun x ρ w hI => h x ρ w (hI.bext fun j => by
  by_cases hj : a = j
  · subst hj; rw [Qa, hb]
  · rw [Q1 _ _ hj, X0 _ (Ne.symm hj)])
end
end Go.Own
namespace Go.Proofs.YtojkdfilabmafaaGreat
open Go.Own Go.Limbs
attribute [local irreducible] St Ops Go.Own.Fin Ok OkB OkN OkT OkL OkF OkM
abbrev tiCs (mo qu : Int) : List CT := [intC mo, intC qu]
abbrev tiC (mo qu : Int) : CT := .fr (aggT (tiCs mo qu))
theorem lTi : LdN Tryz.prog 32 2 := LdN.of _ Tryz.underlying32 rfl (by kernel_rfl)
theorem fTi0 : fldInfo Tryz.prog 32 0 = some (0, some 1) := by kernel_rfl
theorem fTi1 : fldInfo Tryz.prog 32 1 = some (1, some 1) := by kernel_rfl
theorem bPrg : bInfo Tryz.prog 108 = some (.agg #[.slice none 0 0, .slice none 0 0], [(0, some 1), (1, some 1)]) := by kernel_rfl
theorem fMe0 : fldInfo Tryz.prog 111 0 = some (0, some 17) := by kernel_rfl
theorem goDValid : InGo Tryz.prog 30 := InGo.of Tryz.func30 rfl (by decide)
set_option maxHeartbeats 4000000 in
theorem DValid_ok (mo qu : Int) : Ok Tryz.prog 30 [tiC mo qu] (boolC (tiB mo qu)) := by
  have no : ¬ (0 ≤ mo ∧ mo ≤ 1073741824 ∧ 0 ≤ qu ∧ qu ≤ 1073741824) → tiB mo qu = false := fun h => decide_eq_false h
  have yes : 0 ≤ mo → mo ≤ 1073741824 → 0 ≤ qu → tiB mo qu = decide (qu ≤ 1073741824) := fun h1 h2 h3 => decide_eq_decide.2 ⟨fun h => h.2.2.2, fun h => ⟨h1, h2, h3, h⟩⟩
  generalize tiB mo qu = out at no yes ⊢
  refine Ok.enter Tryz.func30 rfl _ Tryz.ntmps30 rfl ?_
  intro S w
  (refine Qy (Qx fun K hK => ?_); refine XX 0 rfl rfl rfl rfl rfl rfl rfl ?_; refine Qv rfl rfl rfl ?_; refine Qj (hK _ _ (Qz (Qy ?_))); clear hK K; refine Qx (fun K hK => ?_))
  refine QJ rfl rfl rfl (by with_reducible exact fTi0) rfl ?_
  (refine QX rfl rfl rfl rfl rfl (by with_reducible first | exact lInt | exact lAddr | exact lBool1 | exact lRess) rfl ?_; refine Qk igeq rfl rfl rfl rfl ?_; refine Qq rfl rfl rfl ?_)
  refine Qf 6 rfl (fun h1 => ?_) (fun h1 => ?_)
  rotate_left
  · have e := no (fun h => h1 h.1)
    (refine Qw rfl rfl rfl ?_; refine Qw rfl rfl rfl ?_; refine Qw rfl rfl rfl ?_; refine Q6 rfl rfl rfl rfl ?_; refine Qq rfl rfl rfl ?_; refine Qw rfl rfl rfl ?_; refine Qw rfl rfl rfl ?_; refine Qw rfl rfl rfl ?_; refine Q6 rfl rfl rfl rfl ?_; refine Qq rfl rfl rfl ?_; refine Qw rfl rfl rfl ?_; refine Qw rfl rfl rfl ?_; refine Qw rfl rfl rfl ?_; refine Q6 rfl rfl rfl rfl ?_; refine Qv rfl rfl rfl ?_; refine Qj (hK _ _ (Qz (Q0 ?_))); clear hK K)
    refine QU [_] rfl (QQ rfl QZ) (by rw [e]; rfl) rfl
  refine QJ rfl rfl rfl (by with_reducible exact fTi0) rfl ?_
  (refine QX rfl rfl rfl rfl rfl (by with_reducible first | exact lInt | exact lAddr | exact lBool1 | exact lRess) rfl ?_; refine Qk ileq rfl rfl rfl rfl ?_; refine Q3 rfl rfl rfl rfl ?_; refine Qq rfl rfl rfl ?_)
  refine Qf 11 rfl (fun h2 => ?_) (fun h2 => ?_)
  rotate_left
  · have e := no (fun h => h2 h.2.1)
    (refine Qw rfl rfl rfl ?_; refine Qw rfl rfl rfl ?_; refine Qw rfl rfl rfl ?_; refine Q6 rfl rfl rfl rfl ?_; refine Qq rfl rfl rfl ?_; refine Qw rfl rfl rfl ?_; refine Qw rfl rfl rfl ?_; refine Qw rfl rfl rfl ?_; refine Q6 rfl rfl rfl rfl ?_; refine Qv rfl rfl rfl ?_; refine Qj (hK _ _ (Qz (Q0 ?_))); clear hK K)
    refine QU [_] rfl (QQ rfl QZ) (by rw [e]; rfl) rfl
  refine QJ rfl rfl rfl (by with_reducible exact fTi1) rfl ?_
  (refine QX rfl rfl rfl rfl rfl (by with_reducible first | exact lInt | exact lAddr | exact lBool1 | exact lRess) rfl ?_; refine Qk igeq rfl rfl rfl rfl ?_; refine Q3 rfl rfl rfl rfl ?_; refine Qq rfl rfl rfl ?_)
  refine Qf 16 rfl (fun h3 => ?_) (fun h3 => ?_)
  rotate_left
  · have e := no (fun h => h3 h.2.2.1)
    (refine Qw rfl rfl rfl ?_; refine Qw rfl rfl rfl ?_; refine Qw rfl rfl rfl ?_; refine Q6 rfl rfl rfl rfl ?_; refine Qv rfl rfl rfl ?_; refine Qj (hK _ _ (Qz (Q0 ?_))); clear hK K)
    refine QU [_] rfl (QQ rfl QZ) (by rw [e]; rfl) rfl
  have e := yes h1 h2 h3
  refine QJ rfl rfl rfl (by with_reducible exact fTi1) rfl ?_
  (refine QX rfl rfl rfl rfl rfl (by with_reducible first | exact lInt | exact lAddr | exact lBool1 | exact lRess) rfl ?_; refine Qk ileq rfl rfl rfl rfl ?_; refine Q3 rfl rfl rfl rfl ?_; refine Qv rfl rfl rfl ?_; refine Qj (hK _ _ (Qz (Q0 ?_))); clear hK K)
  refine QU [_] rfl (QQ rfl QZ) (by rw [e]; rfl) rfl
theorem prog_none {vs : List Wr} {v : Value} {rs : List Rw} {j : Nat} (h : 2 ≤ j) : bget (prB vs v rs) j = none := by
  show bget ((0, _) :: (1, _) :: []) j = none
  rw [Q1 _ _ (by omega), Q1 _ _ (by omega)]; rfl
theorem prog_swap {E : BL} (h : beside E = true) (vs : List Wr) (v : Value) (rs : List Rw) (j : Nat) : bget (E ++ prB vs v rs) j = bget (prB vs v rs ++ E) j := by
  rw [Xf, Xf]
  cases h1 : bget E j with
  | none => cases bget (prB vs v rs) j <;> rfl
  | some e =>
    have := beside_get h (j := j) (by rw [h1]; rfl)
    rw [prog_none (by omega)]; rfl
section
variable {X : Ctx} {L : AL} {B : BL} {ops : Array Oper} {K : Act → World → Prop} {r : Pl} {k : Kd}
  {x y z : Operand} {d : Nat} {t t2 t' : TypeId} {pos : String} {af : Array Edge} {g : Option (Nat × Bool)}
theorem Ops.callAdd {f : FuncId} {args : List Operand} {tys : Array TypeId} {As : List Sl} {vs : List Wr} {v : Value} {rs rs' : List Rw} {J : Value → Prop} (E : BL) (hgo : InGo X.P f) (hok : OkM X.P f As (prB vs v rs) [0] J (fun _ => .ct unitC) (fun q => prB vs q rs')) (hg : gd ops L g = some true) (hargs : evS L args = some As) (hn : Nat.blt d X.n = true)
    (hbor : ∀ gb, X.bor gb → X.S0 gb) (hB : B = E ++ prB vs v rs) (hE : beside E = true) (hfix : ∀ p ∈ X.fix, (bget E p.1).isSome = true ∨ p.1 ∈ [0])
    (h : ∀ q, J q → Ops X ops r ((d, .ct unitC) :: keepL kpT L) (E ++ prB vs q rs') K) : Ops X ops (.cons ⟨some d, .call { callee := .value (.func f), args := args.toArray, argTypes := tys }, t, pos, af, g⟩ .any r) L B K := by
  subst hB
  refine Ops.callM E kpT hgo hok hg hargs hn hbor (prog_swap hE vs v rs) (fun j hj => ?_) (fun j hj => ?_) hfix (fun q j h => ?_) (fun q hq => ?_)
  · have := beside_get hE hj
    exact ⟨prog_none (by omega), fun q => prog_none (by omega)⟩
  · unfold kpT at hj
    rw [Bool.or_eq_true, Bool.and_eq_true] at hj
    rcases hj with hj | ⟨h1, h2⟩
    · exact .inl (by rw [Nat.eq_of_beq_eq_true hj]; simp)
    · have := Nat.le_of_ble_eq_true h1
      exact .inr fun q => prog_none (by omega)
  · rcases h with h | ⟨_, h⟩ <;> cases h
  · exact Ops.reB (fun j => prog_swap hE vs q rs' j) (h q hq)
end
theorem goDRows : InGo Tryz.prog 17 := InGo.of Tryz.func17 rfl (by decide)
set_option maxHeartbeats 32000000 in
theorem DRows_ok (l : List Rs) (hl : l.length ≤ 10000) (mo qu : Int) : Ok Tryz.prog 17 [rssC l, tiC mo qu] (.fr (tupT [rowsC (rwO l mo qu).1, iksC (rwO l mo qu).2.1, intC (rwO l mo qu).2.2])) := by
  have hV := DValid_ok mo qu
  have hVa := Variables_ok l hl
  have hM := measures_ok l hl
  have hmw := me_wires l
  have hmt := me_time l
  have hti : tiB mo qu = true → 0 ≤ mo ∧ mo ≤ 1073741824 ∧ 0 ≤ qu ∧ qu ≤ 1073741824 := fun h => of_decide_eq_true h
  have hml : (msF l).length ≤ 10000 := by
    unfold msF
    rw [List.length_map]
    have h1 := List.length_filter_le (mesB l) (sd cmpR (l.filter okR))
    have h2 := sd_len cmpR (l.filter okR)
    have h3 := List.length_filter_le okR l
    omega
  have e : rwO l mo qu = if tiB mo qu = false then ([], [], 1) else if ¬ (vrO l).2 = 0 then ([], [], (vrO l).2)
    else if 64 < ((vrO l).1.length : Int) + 2 * (msF l).length then ([], [], 5) else (rowsD (vrO l).1 mo qu (msF l), (msF l).map (fun m => idOf m.1), 0) := rfl
  have hvu : Up cmpW (vrO l).1 := by
    unfold vrO
    split
    · exact List.Pairwise.nil
    · split
      · exact List.Pairwise.nil
      · exact (sd_spec ordW _).1
  have hvl : (vrO l).1.length ≤ 16 := by
    unfold vrO
    split
    · exact Nat.zero_le _
    · split
      · exact Nat.zero_le _
      · dsimp only; omega
  generalize rwO l mo qu = out at e ⊢
  generalize tiB mo qu = tb at hV hti e
  generalize vrO l = vo at hVa e hvu hvl
  generalize msF l = ms at hM hmw hmt hml e
  obtain ⟨vs, ve⟩ := vo
  dsimp only at hVa e hvu hvl
  refine Ok.enter Tryz.func17 rfl _ Tryz.ntmps17 rfl ?_
  intro S w
  refine Qy ?_
  refine Qx (fun K hK => ?_)
  refine XX 5 rfl rfl rfl rfl rfl rfl rfl ?_
  (refine Qv rfl rfl rfl ?_; refine Qv rfl rfl rfl ?_; refine Qv rfl rfl rfl ?_; refine Qj (hK _ _ (Qz (Qy (Qy ?_)))); clear hK K; refine Qx (fun K hK => ?_))
  refine Qe (n := 2) rfl rfl rfl rfl rfl (by with_reducible exact lTi) rfl ?_
  refine QV goDValid hV rfl rfl rfl rfl ?_
  (refine Xx rfl rfl rfl ?_; refine Qj (hK _ _ (Qz ?_)); clear hK K)
  refine X4 rfl (fun h1 => ?_) (fun h1 => ?_)
  · rw [if_pos (by cases tb with | true => cases h1 | false => rfl)] at e
    (refine Qy (Qx fun K hK => ?_); refine Qv rfl rfl rfl ?_; refine Qv rfl rfl rfl ?_; refine Qv rfl rfl rfl ?_; refine Qj (hK _ _ (Qz (Q0 (QY ?_)))); clear hK K)
    refine QU [_, _, _] rfl (Xa Y3 (QQ rfl (Xa Y3 (QQ rfl (QQ rfl QZ))))) (by rw [e]; rfl) rfl
  have htb : tb = true := by cases tb with | true => rfl | false => cases h1
  obtain ⟨t1, t2, t3, t4⟩ := hti htb
  rw [if_neg (by rw [htb]; decide)] at e
  (refine QK (Qz (Qy (Qx fun K hK => ?_))); refine Qq rfl rfl rfl ?_)
  refine QV goVariables hVa rfl rfl rfl rfl ?_
  (refine Qq rfl rfl rfl ?_; refine Q4 rfl rfl rfl rfl ?_; refine Q4 rfl rfl rfl rfl ?_; refine Qv rfl rfl rfl ?_; refine Qv rfl rfl rfl ?_; refine Qj (hK _ _ (Qz (Qy (Qy ?_)))); clear hK K; refine Qx (fun K hK => ?_); refine Qq rfl rfl rfl ?_; refine Qk ineq rfl rfl rfl rfl ?_; refine Qj (hK _ _ (Qz ?_)); clear hK K)
  refine Q2 rfl (fun h2 => ?_) (fun h2 => ?_)
  · rw [if_pos h2] at e
    (refine Qy (Qx fun K hK => ?_); refine Qq rfl rfl rfl ?_; refine Qv rfl rfl rfl ?_; refine Qv rfl rfl rfl ?_; refine Qv rfl rfl rfl ?_; refine Qj (hK _ _ (Qz (Q0 (QY ?_)))); clear hK K)
    refine QU [_, _, _] rfl (Xa Y3 (QQ rfl (Xa Y3 (QQ rfl (QQ rfl QZ))))) (by rw [e]; rfl) rfl
  rw [if_neg h2] at e
  (refine QK (Qz (Qy (Qx fun K hK => ?_))); refine Qq rfl rfl rfl ?_)
  refine QV gomeasures hM rfl rfl rfl rfl ?_
  (refine Qv rfl rfl rfl ?_; refine Qj (hK _ _ (Qz (Qy (Qy ?_)))); clear hK K; refine Qx (fun K hK => ?_); refine Qq rfl rfl rfl ?_; refine Qh rfl rfl (by with_reducible first | exact sTks.und | exact sWrs.und | exact sIks.und | exact sAdrs.und) (List.length_map ..) rfl ?_; refine Qq rfl rfl rfl ?_)
  refine Qh rfl rfl (by with_reducible exact sMes.und) (List.length_map ..) rfl ?_
  (refine Qk (imul (by omega) (by omega)) rfl rfl rfl rfl ?_; refine Qk (iadd (by omega) (by omega)) rfl rfl rfl rfl ?_; refine Qk igtr rfl rfl rfl rfl ?_; refine Qj (hK _ _ (Qz ?_)); clear hK K)
  refine Q2 rfl (fun h3 => ?_) (fun h3 => ?_)
  · rw [if_pos (by omega)] at e
    (refine Qy (Qx fun K hK => ?_); refine Qv rfl rfl rfl ?_; refine Qv rfl rfl rfl ?_; refine Qv rfl rfl rfl ?_; refine Qj (hK _ _ (Qz (Q0 (QY ?_)))); clear hK K)
    refine QU [_, _, _] rfl (Xa Y3 (QQ rfl (Xa Y3 (QQ rfl (QQ rfl QZ))))) (by rw [e]; rfl) rfl
  rw [if_neg (by omega)] at e
  have hms : ms.length ≤ 32 := by omega
  (refine QK (Qz (Qy (Qx fun K hK => ?_))); refine Qq rfl rfl rfl ?_)
  refine Qp rfl (by with_reducible exact bPrg) rfl (.one rfl rfl rfl rfl .nil) rfl ?_
  refine XX 0 rfl rfl rfl rfl rfl rfl rfl ?_
  (refine Qv rfl rfl rfl ?_; refine Qj (hK _ _ (Qz (Qy (Qy ?_)))); clear hK K; refine Qx (fun K hK => ?_); refine Qq rfl rfl rfl ?_; refine Qh rfl rfl (by with_reducible first | exact sTks.und | exact sWrs.und | exact sIks.und | exact sAdrs.und) (List.length_map ..) rfl ?_; refine Qq rfl rfl rfl ?_; refine Qj (hK _ _ (Qz (Q5 ?_))); clear hK K)
  refine St.nilX 1 79 2 rfl rfl ?_
  refine Qs (α := Nat × Value) (fun q => q.1 ≤ vs.length ∧ q.2.oneCell' = true)
    (fun q => [(3, .own 5), (7, .ct (wrsC vs)), (9, .ct (mesC ms)), (10, .own 0), (40, .ct (wrsC vs)), (41, .ct (intC vs.length)), (42, .ct (intC q.1))])
    (fun q => (5, .box 32 (tiCs mo qu)) :: prB vs q.2 ((vs.take q.1).map fun v => ⟨cfW vs [v] 1, mo⟩)) (fun q => vs.length - q.1) (0, .slice none 0 0) ⟨Nat.zero_le _, rfl⟩
    (Entails.front 0 _ rfl (Entails.front 5 _ rfl (by exact Qu rfl ⟨rfl, rfl, rfl, rfl, rfl, rfl, rfl, trivial⟩))) ?_
  rintro ⟨i, v⟩ ⟨hi, hv⟩
  dsimp only at hi hv ⊢
  (refine Qy (Qx fun K hK => ?_); refine Qk ilss rfl rfl rfl rfl ?_; refine Qj (hK _ _ (Qz (Qy ?_))); clear hK K)
  refine Q2 rfl (fun h4 => ?_) (fun h4 => ?_)
  · have e2 : (i : Int).toNat = i := Int.toNat_natCast i
    have hs : (vs.take (i + 1)).map (fun v => (⟨cfW vs [v] 1, mo⟩ : Rw)) = (vs.take i).map (fun v => (⟨cfW vs [v] 1, mo⟩ : Rw)) ++ [⟨cfW vs [vs.getD i wr0] 1, mo⟩] := by rw [takeS (z := wr0) (by omega), List.map_append]; rfl
    have hrl : ((vs.take i).map (fun v => (⟨cfW vs [v] 1, mo⟩ : Rw))).length ≤ 16 := by rw [List.length_map, List.length_take]; omega
    generalize (vs.take i).map (fun v => (⟨cfW vs [v] 1, mo⟩ : Rw)) = rs at hs hrl ⊢
    (refine QK (Qz (Qy (Q5 (Qy (Qx fun K hK => ?_))))))
    refine Xz rfl rfl rfl (by with_reducible exact sWrs) (by omega) (wrs_at (by omega) (by omega)) rfl ?_
    rw [e2]
    generalize vs.getD i wr0 = x at hs
    refine Xe (n := 2) rfl rfl rfl (by with_reducible exact lWire) rfl rfl ?_
    refine Qi 6 rfl rfl (by with_reducible exact zvWire) rfl rfl rfl ?_
    refine Qd 2 rfl rfl rfl rfl rfl (by with_reducible exact szWire) rfl rfl ?_
    (refine Qj (hK _ _ (Qz ?_)); clear hK K; refine Qx (fun K hK => ?_); refine Qq rfl rfl rfl ?_; refine Qe (n := 2) rfl rfl rfl rfl rfl (by with_reducible first | exact lTrav | exact lWire | exact lCs) rfl ?_)
    refine Zt (n := 2) rfl rfl (by with_reducible exact sWrs) rfl rfl (by decide) rfl ?_
    refine QJ rfl rfl rfl (by with_reducible exact fTi0) rfl ?_
    (refine QX rfl rfl rfl rfl rfl (by with_reducible first | exact lInt | exact lAddr | exact lBool1 | exact lRess) rfl ?_)
    refine Ops.callAdd (As := [.own 0, .ct (wrsC [x]), .ct (intC 1), .ct (intC mo)]) [(6, _), (5, _)] goadd (add_ok vs hvu (by omega) v hv rs (by omega) [x] (by show 1 ≤ 1000; decide) 1 mo (.inl rfl)) rfl rfl rfl (fun _ h => h.elim) rfl rfl (fun p hp => absurd hp (by simp)) (fun v' hv' => ?_)
    (refine Qj (hK _ _ (Qz ?_)); clear hK K; refine Qx (fun K hK => ?_); refine Qk (iadd (by omega) (by omega)) rfl rfl rfl rfl ?_; refine Qq rfl rfl rfl ?_; refine Qj (hK _ _ (Q7 ?_)); clear hK K)
    refine XQ 6 ?_
    refine Qb (i + 1, v') (by dsimp only; omega) ⟨by dsimp only; omega, hv'⟩ (by rw [hs]; exact Qu rfl ⟨rfl, rfl, rfl, rfl, rfl, rfl, by simp only [Int.natCast_add]; rfl, trivial⟩)
  have hi' : i = vs.length := by omega
  rw [hi', List.take_length]
  have hrl0 : (vs.map (fun v => (⟨cfW vs [v] 1, mo⟩ : Rw))).length ≤ 16 := by rw [List.length_map]; omega
  have er : rowsD vs mo qu ms = vs.map (fun v => (⟨cfW vs [v] 1, mo⟩ : Rw)) ++ ms.flatMap (meR vs qu) := rfl
  rw [er] at e
  generalize vs.map (fun v => (⟨cfW vs [v] 1, mo⟩ : Rw)) = r0 at hrl0 e ⊢
  clear er
  (refine Qo (Qz (Qy (Qx fun K hK => ?_))); refine Qv rfl rfl rfl ?_; refine Qj (hK _ _ (Qz (Qy (Qy ?_)))); clear hK K; refine Qx (fun K hK => ?_); refine Qq rfl rfl rfl ?_)
  refine Qh rfl rfl (by with_reducible exact sMes.und) (List.length_map ..) rfl ?_
  (refine Qq rfl rfl rfl ?_; refine Qj (hK _ _ (Qz (Q5 ?_))); clear hK K)
  refine Zo 13 8 82 3 rfl rfl rfl ?_
  refine Qs (α := Nat × Value) (fun q => q.1 ≤ ms.length ∧ q.2.oneCell' = true)
    (fun q => [(3, .own 5), (10, .own 0), (13, .own 8), (53, .ct (mesC ms)), (54, .ct (intC ms.length)), (55, .ct (intC q.1))])
    (fun q => (8, .row 82 3 (iks ((ms.take q.1).map fun m => idOf m.1))) :: (5, .box 32 (tiCs mo qu)) :: prB vs q.2 (r0 ++ (ms.take q.1).flatMap (meR vs qu))) (fun q => ms.length - q.1) (0, v) ⟨Nat.zero_le _, hv⟩
    (by rw [List.take_zero, List.flatMap_nil, List.append_nil]; exact Qu rfl ⟨rfl, rfl, rfl, rfl, rfl, rfl, trivial⟩) ?_
  clear hv v
  rintro ⟨j, v⟩ ⟨hj, hv⟩
  dsimp only at hj hv ⊢
  (refine Qy (Qx fun K hK => ?_); refine Qk ilss rfl rfl rfl rfl ?_; refine Qj (hK _ _ (Qz (Qy ?_))); clear hK K)
  refine Q2 rfl (fun h5 => ?_) (fun h5 => ?_)
  rotate_left
  · have hj' : j = ms.length := by omega
    rw [hj', List.take_length]
    refine St.frzX 1 0 1 _ rfl rfl rfl (rwsF_frozen 0 _) (fun _ h => h.elim) ?_
    refine St.frz 8 _ rfl (iks_frozen _ _) (fun _ h => h.elim) ?_
    (refine Qo (Qz (Qy (Qx fun K hK => ?_))); refine Qq rfl rfl rfl ?_; refine QW rfl rfl rfl rfl ?_)
    refine QJ rfl rfl rfl (by with_reducible exact fPr1) rfl ?_
    refine QX rfl rfl rfl rfl rfl (by with_reducible exact lRws1) rfl ?_
    (refine Qq rfl rfl rfl ?_; refine Qv rfl rfl rfl ?_; refine Qv rfl rfl rfl ?_; refine Qv rfl rfl rfl ?_; refine Qj (hK _ _ (Qz (Q0 ?_))); clear hK K)
    refine QU [_, _, _] rfl (QQ rfl (QQ rfl (QQ rfl QZ))) (by rw [e]; rfl) rfl
  have e2 : (j : Int).toNat = j := Int.toNat_natCast j
  have hmem : ms.getD j me0 ∈ ms := by rw [List.getD_eq_getElem?_getD, List.getElem?_eq_getElem (by omega)]; exact List.getElem_mem _
  have hw := hmw _ hmem
  have ht := hmt _ hmem
  have hs1 : (ms.take (j + 1)).map (fun m => idOf m.1) = (ms.take j).map (fun m => idOf m.1) ++ [idOf (ms.getD j me0).1] := by rw [takeS (z := me0) (by omega), List.map_append]; rfl
  have hs2 : r0 ++ (ms.take (j + 1)).flatMap (meR vs qu) = (r0 ++ (ms.take j).flatMap (meR vs qu)) ++ [⟨cfW vs (ms.getD j me0).2 1, (ms.getD j me0).1.bk - (ms.getD j me0).1.tm⟩] ++ [⟨cfW vs (ms.getD j me0).2 (-1), qu - ((ms.getD j me0).1.bk - (ms.getD j me0).1.tm)⟩] := by
    rw [takeS (z := me0) (by omega), List.flatMap_append, ← List.append_assoc, List.append_assoc _ [_] [_]]
    refine congrArg _ ?_
    rw [List.flatMap_cons, List.flatMap_nil, List.append_nil]; rfl
  have hl1 : ((ms.take j).map (fun m => idOf m.1)).length ≤ 32 := by rw [List.length_map, List.length_take]; omega
  have hl2 : (r0 ++ (ms.take j).flatMap (meR vs qu)).length ≤ 100 := by
    have : ∀ q : List Me, (q.flatMap (meR vs qu)).length = 2 * q.length := fun q => by
      induction q with
      | nil => rfl
      | cons m q ih => rw [List.flatMap_cons, List.length_append, ih, List.length_cons]; show 2 + _ = _; omega
    rw [List.length_append, this, List.length_take]; omega
  generalize (ms.take j).map (fun m => idOf m.1) = is at hs1 hl1 ⊢
  generalize r0 ++ (ms.take j).flatMap (meR vs qu) = rs at hs2 hl2 ⊢
  (refine QK (Qz (Qy (Q5 (Qy (Qx fun K hK => ?_))))))
  refine Xz rfl rfl rfl (by with_reducible exact sMes) (by omega) (mes_at (by omega) (by omega)) rfl ?_
  rw [e2]
  generalize ms.getD j me0 = m at hw ht hs1 hs2
  obtain ⟨x, ws⟩ := m
  dsimp only at hw ht hs1 hs2
  refine Xe (n := 18) rfl rfl rfl (by with_reducible exact lMe) rfl rfl ?_
  refine Qi 7 rfl rfl (by with_reducible exact zvMe) rfl rfl rfl ?_
  refine Qd 18 rfl rfl rfl rfl rfl (by with_reducible exact szMe) rfl rfl ?_
  (refine Qj (hK _ _ (Qz (Qy ?_))); clear hK K; refine Qx (fun K hK => ?_))
  refine QJ rfl rfl rfl (by with_reducible exact fMe0) rfl ?_
  refine Z4 rfl rfl (by with_reducible exact fS10) rfl ?_
  refine QX rfl rfl rfl rfl rfl (by with_reducible exact lInt) rfl ?_
  refine QJ rfl rfl rfl (by with_reducible exact fMe0) rfl ?_
  refine Z4 rfl rfl (by with_reducible exact fS3) rfl ?_
  refine QX rfl rfl rfl rfl rfl (by with_reducible exact lInt) rfl ?_
  refine Qk (isub (p := x.bk) (q := x.tm) (by omega) (by omega)) rfl rfl rfl rfl ?_
  (refine Qv rfl rfl rfl ?_; refine Qj (hK _ _ (Qz (Qy ?_))); clear hK K; refine Qx (fun K hK => ?_); refine Qq rfl rfl rfl ?_)
  refine QJ rfl rfl rfl (by with_reducible exact fMe1) rfl ?_
  refine QX rfl rfl rfl rfl rfl (by with_reducible exact lWrs1P) rfl ?_
  (refine Qq rfl rfl rfl ?_)
  refine Ops.callAdd (As := [.own 0, .ct (wrsC ws), .ct (intC 1), .ct (intC (x.bk - x.tm))]) [(7, _), (8, _), (5, _)] goadd (add_ok vs hvu (by omega) v hv rs (by omega) ws (by omega) 1 (x.bk - x.tm) (.inl rfl)) rfl rfl rfl (fun _ h => h.elim) rfl rfl (fun p hp => absurd hp (by simp)) (fun v2 hv2 => ?_)
  (refine Qj (hK _ _ (Qz (Qy ?_))); clear hK K; refine Qx (fun K hK => ?_); refine Qq rfl rfl rfl ?_)
  refine QJ rfl rfl rfl (by with_reducible exact fMe1) rfl ?_
  refine QX rfl rfl rfl rfl rfl (by with_reducible exact lWrs1P) rfl ?_
  refine QJ rfl rfl rfl (by with_reducible exact fTi1) rfl ?_
  (refine QX rfl rfl rfl rfl rfl (by with_reducible first | exact lInt | exact lAddr | exact lBool1 | exact lRess) rfl ?_; refine Qq rfl rfl rfl ?_; refine Qk (isub (by omega) (by omega)) rfl rfl rfl rfl ?_)
  refine Ops.callAdd (As := [.own 0, .ct (wrsC ws), .ct (intC (-1)), .ct (intC (qu - (x.bk - x.tm)))]) [(7, _), (8, _), (5, _)] goadd (add_ok vs hvu (by omega) v2 hv2 (rs ++ [⟨cfW vs ws 1, x.bk - x.tm⟩]) (by rw [List.length_append, List.length_singleton]; omega) ws (by omega) (-1) (qu - (x.bk - x.tm)) (.inr rfl)) rfl rfl rfl (fun _ h => h.elim) rfl rfl (fun p hp => absurd hp (by simp)) (fun v3 hv3 => ?_)
  (refine Qj (hK _ _ (Qz ?_)); clear hK K; refine Qx (fun K hK => ?_); refine Qq rfl rfl rfl ?_)
  refine QJ rfl rfl rfl (by with_reducible exact fMe0) rfl ?_
  refine Yx (n := 17) rfl rfl rfl rfl (Nat.le_of_ble_eq_true rfl) (by with_reducible exact lRes) rfl ?_
  refine QV goIdentity (Identity_ok x) rfl rfl rfl rfl ?_
  refine Zt (n := 3) rfl rfl (by with_reducible exact sIks) rfl rfl (by decide) rfl ?_
  refine Qt is.length (iks (is ++ [idOf x])) rfl rfl rfl rfl (by with_reducible exact sIks) (iks_len _) rfl (by omega) (by omega) (iks_snoc _ _) rfl ?_
  (refine Qv rfl rfl rfl ?_; refine Qj (hK _ _ (Qz ?_)); clear hK K; refine Qx (fun K hK => ?_); refine Qk (iadd (by omega) (by omega)) rfl rfl rfl rfl ?_; refine Qq rfl rfl rfl ?_; refine Qj (hK _ _ (Q7 ?_)); clear hK K)
  refine XQ 7 ?_
  refine Qb (j + 1, v3) (by dsimp only; omega) ⟨by dsimp only; omega, hv3⟩ (by rw [hs1, hs2]; exact Qu rfl ⟨rfl, rfl, rfl, rfl, rfl, by simp only [Int.natCast_add]; rfl, trivial⟩)
abbrev ivCs (p : Int × Int) : List CT := [intC p.1, intC p.2]
abbrev ivC (p : Int × Int) : CT := .fr (aggT (ivCs p))
theorem lIv : LdN Tryz.prog 39 2 := LdN.of _ Tryz.underlying39 rfl (by kernel_rfl)
theorem szIv : (Tryz.prog.info? 39).map (·.size) = some 2 := by kernel_rfl
theorem zvIv : (Tryz.prog.info? 39).map (·.zero) = some (some (.agg #[.int .i64 0, .int .i64 0])) := by kernel_rfl
theorem bIv : bInfo Tryz.prog 39 = some (.agg #[.int .i64 0, .int .i64 0], [(0, some 1), (1, some 1)]) := by kernel_rfl
theorem fOu0 : fldInfo Tryz.prog 100 0 = some (0, some 1) := by kernel_rfl
theorem fOu1 : fldInfo Tryz.prog 100 1 = some (1, some 3) := by kernel_rfl
theorem flV_bd (f : Fr) : -4611686018427387904 ≤ flV f ∧ flV f ≤ 4611686018427387904 := by
  have h := natAbs_sg f.neg (rnd f.num f.den f.neg)
  unfold flV
  split <;> omega
theorem Solve_any {n : Nat} {rs : List Rw} {c : List Int} (hv : validR n rs = true) (hc : okCoeffs n c = true) : ∃ O : Oc, Sol n rs c O ∧ Ok Tryz.prog 81 [intC n, rowsC rs, intsC c] (.fr (tupT [ocC O, intC 0])) := by
  obtain ⟨N, e, hL⟩ := lpOf hv hc
  have e : n = N := by omega
  subst e
  obtain ⟨T, E, F, s, hR, hS⟩ := lp_sol hL
  exact ⟨_, hS, Solve_ok n rs c hL hv hc hR⟩
structure OcF (O : Oc) : Prop where
  kind : O.kind = 1
  num : (limbs O.value.num).length ≤ 100
  den : (limbs O.value.den).length ≤ 100
  pos : 0 < O.value.den
theorem gobounds : InGo Tryz.prog 44 := InGo.of Tryz.func44 rfl (by decide)
set_option maxHeartbeats 16000000 in
theorem bounds_fine (n k : Nat) (hk : k < n) (hn : n ≤ 16) (rs : List Rw) (O1 O2 : Oc) (hS1 : Ok Tryz.prog 81 [intC n, rowsC rs, intsC (unL n k (-1))] (.fr (tupT [ocC O1, intC 0]))) (hS2 : Ok Tryz.prog 81 [intC n, rowsC rs, intsC (unL n k 1)] (.fr (tupT [ocC O2, intC 0])))
    (z1 : OcF O1) (z2 : OcF O2) (hle : -flV O1.value ≤ flV O2.value) :
    Ok Tryz.prog 44 [rowsC rs, intC n, intC k] (.fr (tupT [ocC O1, ocC O2, ivC (-flV O1.value, flV O2.value), intC 0])) := by
  have hU1 := unit_ok n k hk (by omega) (-1)
  have hU2 := unit_ok n k hk (by omega) 1
  have hF1 := FFloor_any O1.value z1.num z1.pos z1.den
  have hF2 := FFloor_any O2.value z2.num z2.pos z2.den
  have hb1 := flV_bd O1.value
  have hb2 := flV_bd O2.value
  have k1 := z1.kind
  have k2 := z2.kind
  clear z1 z2
  obtain ⟨q1, ⟨g1, m1, d1⟩, o1, y1, u1⟩ := O1
  obtain ⟨q2, ⟨g2, m2, d2⟩, o2, y2, u2⟩ := O2
  dsimp only at k1 k2 hF1 hF2 hb1 hb2 hle ⊢
  subst k1; subst k2
  generalize flV ⟨g1, m1, d1⟩ = lo at hF1 hb1 hle ⊢
  generalize flV ⟨g2, m2, d2⟩ = hi at hF2 hb2 hle ⊢
  refine Ok.enter Tryz.func44 rfl _ Tryz.ntmps44 rfl ?_
  intro S w
  refine Qy ?_
  refine Qx (fun K hK => ?_)
  refine Qi 0 rfl rfl (by with_reducible exact zvOut) rfl rfl rfl ?_
  refine Qi 1 rfl rfl (by with_reducible exact zvOut) rfl rfl rfl ?_
  refine Qi 2 rfl rfl (by with_reducible exact zvIv) rfl rfl rfl ?_
  (refine Qv rfl rfl rfl ?_; refine Qj (hK _ _ (Qz (Qy ?_))); clear hK K; refine Qx (fun K hK => ?_); refine Qq rfl rfl rfl ?_; refine Qq rfl rfl rfl ?_; refine Qq rfl rfl rfl ?_; refine Qq rfl rfl rfl ?_)
  refine QV gounit hU1 rfl rfl rfl rfl ?_
  refine QV goSolve hS1 rfl rfl rfl rfl ?_
  (refine Qq rfl rfl rfl ?_; refine Q4 rfl rfl rfl rfl ?_; refine Q4 rfl rfl rfl rfl ?_)
  refine Qd 7 rfl rfl rfl rfl rfl (by with_reducible exact szOut) rfl rfl ?_
  (refine Qj (hK _ _ (Qz (Qy ?_))); clear hK K; refine Qx (fun K hK => ?_); refine Qq rfl rfl rfl ?_; refine Qq rfl rfl rfl ?_; refine Qq rfl rfl rfl ?_; refine Qq rfl rfl rfl ?_)
  refine QV gounit hU2 rfl rfl rfl rfl ?_
  refine QV goSolve hS2 rfl rfl rfl rfl ?_
  (refine Qq rfl rfl rfl ?_; refine Q4 rfl rfl rfl rfl ?_; refine Q4 rfl rfl rfl rfl ?_)
  refine Qd 7 rfl rfl rfl rfl rfl (by with_reducible exact szOut) rfl rfl ?_
  (refine Qj (hK _ _ (Qz (Qy (Qy ?_)))); clear hK K; refine Qx (fun K hK => ?_))
  refine QJ rfl rfl rfl (by with_reducible exact fOu0) rfl ?_
  (refine QX rfl rfl rfl rfl rfl (by with_reducible first | exact lInt | exact lAddr | exact lBool1 | exact lRess) rfl ?_; refine Qk ineq rfl rfl rfl rfl ?_; refine Qq rfl rfl rfl ?_)
  refine Qf 35 rfl (fun g => absurd rfl g) (fun _ => ?_)
  refine QJ rfl rfl rfl (by with_reducible exact fOu0) rfl ?_
  (refine QX rfl rfl rfl rfl rfl (by with_reducible first | exact lInt | exact lAddr | exact lBool1 | exact lRess) rfl ?_; refine Qk ineq rfl rfl rfl rfl ?_; refine Q6 rfl rfl rfl rfl ?_; refine Qj (hK _ _ (Qz (Xu rfl (QK (Qz (Qy ?_)))))); clear hK K; refine Qx (fun K hK => ?_))
  refine QJ rfl rfl rfl (by with_reducible exact fOu1) rfl ?_
  refine Yx (n := 3) rfl rfl rfl rfl (Nat.le_of_ble_eq_true rfl) (by with_reducible exact lFrac) rfl ?_
  refine QV goFFloor hF1 rfl rfl rfl rfl ?_
  (refine Qq rfl rfl rfl ?_; refine Q4 rfl rfl rfl rfl ?_; refine Q4 rfl rfl rfl rfl ?_; refine Qv rfl rfl rfl ?_; refine Qv rfl rfl rfl ?_; refine Qj (hK _ _ (Qz (Qy ?_))); clear hK K; refine Qx (fun K hK => ?_))
  refine QJ rfl rfl rfl (by with_reducible exact fOu1) rfl ?_
  refine Yx (n := 3) rfl rfl rfl rfl (Nat.le_of_ble_eq_true rfl) (by with_reducible exact lFrac) rfl ?_
  refine QV goFFloor hF2 rfl rfl rfl rfl ?_
  (refine Qq rfl rfl rfl ?_; refine Q4 rfl rfl rfl rfl ?_; refine Q4 rfl rfl rfl rfl ?_; refine Qv rfl rfl rfl ?_; refine Qv rfl rfl rfl ?_; refine Qj (hK _ _ (Qz (Qy (Qy ?_)))); clear hK K; refine Qx (fun K hK => ?_); refine Qq rfl rfl rfl ?_)
  refine Ops.ineg rfl rfl (by omega) (by omega) rfl ?_
  (refine Qq rfl rfl rfl ?_; refine Qk igtr rfl rfl rfl rfl ?_; refine Qj (hK _ _ (Qz ?_)); clear hK K)
  refine Q2 rfl (fun g => absurd g (by omega)) (fun _ => ?_)
  (refine QK (Qz (Qy ?_)))
  refine St.drawQ (by with_reducible exact mixed) [6, 7, 8] (.p 2 (.p 3 (.p 4 (.p 5 (.f 0 (.m 1 (.a 6 (.a 7 (.a 8 (.p 9 .done) .non) .non) .non) (.a 6 (.f 1 (.a 7 (.a 8 (.p 9 .done) .non) .non)) .non))))))) (by kernel_rfl) (fun K hK => ?_)
  refine Qr ?_
  refine Qq rfl rfl rfl ?_
  refine Qj ?_
  refine Qr ?_
  refine Ops.ineg rfl rfl (by omega) (by omega) rfl ?_
  refine Qj ?_
  refine Qr ?_
  refine Qq rfl rfl rfl ?_
  refine Qj ?_
  refine Qr ?_
  refine Qp rfl (by with_reducible exact bIv) rfl (.one rfl rfl rfl rfl (.one rfl rfl rfl rfl .nil)) rfl ?_
  refine Qj ?_
  refine Zv ?_
  refine Qe (n := 7) rfl rfl rfl rfl rfl (by with_reducible exact lOut) rfl ?_
  refine Qj ?_
  refine X1 ?_ ?_
  · refine Qe (n := 7) rfl rfl rfl rfl rfl (by with_reducible exact lOut) rfl ?_
    refine Qj ?_
    refine Qm ?_ Q8
    refine Qd 7 rfl rfl rfl rfl rfl (by with_reducible exact szOut) rfl rfl ?_
    refine Qj ?_
    refine Qm ?_ Q8
    refine Qd 7 rfl rfl rfl rfl rfl (by with_reducible exact szOut) rfl rfl ?_
    refine Qj ?_
    refine Qm ?_ Q8
    refine Qd 2 rfl rfl rfl rfl rfl (by with_reducible exact szIv) rfl rfl ?_
    refine Qj ?_
    refine Qr ?_
    refine Qv rfl rfl rfl ?_
    refine Qj ?_
    refine Xk (hK _ _ ?_)
    (refine Qz (Q0 ?_))
    refine QU [_, _, _, _] rfl (Qg (n := 7) rfl rfl (by with_reducible exact lOut) rfl (Qg (n := 7) rfl rfl (by with_reducible exact lOut) rfl (Qg (n := 2) rfl rfl (by with_reducible exact lIv) rfl (QQ rfl QZ)))) rfl rfl
  refine Qm ?_ Q8
  refine Qd 7 rfl rfl rfl rfl rfl (by with_reducible exact szOut) rfl rfl ?_
  refine Qj ?_
  refine Zv ?_
  refine Qe (n := 7) rfl rfl rfl rfl rfl (by with_reducible exact lOut) rfl ?_
  refine Qj ?_
  refine Qm ?_ Q8
  refine Qd 7 rfl rfl rfl rfl rfl (by with_reducible exact szOut) rfl rfl ?_
  refine Qj ?_
  refine Qm ?_ Q8
  refine Qd 2 rfl rfl rfl rfl rfl (by with_reducible exact szIv) rfl rfl ?_
  refine Qj ?_
  refine Qr ?_
  refine Qv rfl rfl rfl ?_
  refine Qj ?_
  refine Xk (hK _ _ ?_)
  (refine Qz (Q0 ?_))
  refine QU [_, _, _, _] rfl (Qg (n := 7) rfl rfl (by with_reducible exact lOut) rfl (Qg (n := 7) rfl rfl (by with_reducible exact lOut) rfl (Qg (n := 2) rfl rfl (by with_reducible exact lIv) rfl (QQ rfl QZ)))) rfl rfl
theorem goends : InGo Tryz.prog 43 := InGo.of Tryz.func43 rfl (by decide)
set_option maxHeartbeats 8000000 in
theorem ends_fine (l : List Rs) (hl : l.length ≤ 10000) (mo qu : Int) (w : Wr) (h0 : (rwO l mo qu).2.2 = 0) (hw : w ∈ (vrO l).1) (hu : Up cmpW (vrO l).1) (hvl : (vrO l).1.length ≤ 16) {O1 O2 : Oc} {p : Int × Int} (hB : Ok Tryz.prog 44 [rowsC (rwO l mo qu).1, intC (vrO l).1.length, intC (posD (vrO l).1 w)] (.fr (tupT [ocC O1, ocC O2, ivC p, intC 0]))) :
    Ok Tryz.prog 43 [rssC l, tiC mo qu, wrC w] (.fr (tupT [ocC O1, ocC O2, ivC p, intC 0])) := by
  have hR := DRows_ok l hl mo qu
  have hV := Variables_ok l hl
  have hS := BSearch_ok (vrO l).1 w hu (by omega)
  rw [decide_eq_true hw] at hS
  rw [h0] at hR
  generalize (rwO l mo qu).1 = rs at hR hB
  generalize (rwO l mo qu).2.1 = is at hR
  generalize (vrO l).2 = ve at hV
  generalize posD (vrO l).1 w = k at hS hB
  generalize (vrO l).1 = vs at hV hS hB
  obtain ⟨q1, ⟨g1, m1, d1⟩, o1, y1, u1⟩ := O1
  obtain ⟨q2, ⟨g2, m2, d2⟩, o2, y2, u2⟩ := O2
  refine Ok.enter Tryz.func43 rfl _ Tryz.ntmps43 rfl ?_
  intro S w0
  refine Qy ?_
  refine Qx (fun K hK => ?_)
  refine XX 3 rfl rfl rfl rfl rfl rfl rfl ?_
  refine XX 4 rfl rfl rfl rfl rfl rfl rfl ?_
  refine Qi 0 rfl rfl (by with_reducible exact zvOut) rfl rfl rfl ?_
  refine Qi 1 rfl rfl (by with_reducible exact zvOut) rfl rfl rfl ?_
  refine Qi 2 rfl rfl (by with_reducible exact zvIv) rfl rfl rfl ?_
  (refine Qv rfl rfl rfl ?_; refine Qj (hK _ _ (Qz (Qy ?_))); clear hK K; refine Qx (fun K hK => ?_); refine Qq rfl rfl rfl ?_)
  refine Qe (n := 2) rfl rfl rfl rfl rfl (by with_reducible exact lTi) rfl ?_
  refine QV goDRows hR rfl rfl rfl rfl ?_
  (refine Qq rfl rfl rfl ?_; refine Q4 rfl rfl rfl rfl ?_; refine Q4 rfl rfl rfl rfl ?_; refine Q4 rfl rfl rfl rfl ?_; refine Qv rfl rfl rfl ?_; refine Qv rfl rfl rfl ?_; refine Qv rfl rfl rfl ?_; refine Qj (hK _ _ (Qz (Qy (Qy ?_)))); clear hK K; refine Qx (fun K hK => ?_); refine Qq rfl rfl rfl ?_; refine Qk ineq rfl rfl rfl rfl ?_; refine Qj (hK _ _ (Qz (Xu rfl (QK (Qz (Qy ?_)))))); clear hK K; refine Qx (fun K hK => ?_); refine Qq rfl rfl rfl ?_)
  refine QV goVariables hV rfl rfl rfl rfl ?_
  (refine Qq rfl rfl rfl ?_; refine Q4 rfl rfl rfl rfl ?_; refine Q4 rfl rfl rfl rfl ?_; refine Qv rfl rfl rfl ?_; refine Qv rfl rfl rfl ?_; refine Qj (hK _ _ (Qz (Qy ?_))); clear hK K; refine Qx (fun K hK => ?_); refine Qq rfl rfl rfl ?_; refine Qe (n := 2) rfl rfl rfl rfl rfl (by with_reducible first | exact lTrav | exact lWire | exact lCs) rfl ?_)
  refine QV goBSearch hS rfl rfl rfl rfl ?_
  (refine Qq rfl rfl rfl ?_; refine Q4 rfl rfl rfl rfl ?_; refine Q4 rfl rfl rfl rfl ?_; refine Qv rfl rfl rfl ?_; refine Qv rfl rfl rfl ?_; refine Qj (hK _ _ (Qz (Qy (Qy ?_)))); clear hK K; refine Qx (fun K hK => ?_); refine Qq rfl rfl rfl ?_; refine Xx rfl rfl rfl ?_; refine Qj (hK _ _ (Qz (Xu rfl (QK (Qz (Qy ?_)))))); clear hK K; refine Qx (fun K hK => ?_); refine Qq rfl rfl rfl ?_; refine Qq rfl rfl rfl ?_; refine Qh rfl rfl (by with_reducible first | exact sTks.und | exact sWrs.und | exact sIks.und | exact sAdrs.und) (List.length_map ..) rfl ?_; refine Qq rfl rfl rfl ?_)
  refine QV gobounds hB rfl rfl rfl rfl ?_
  (refine Q4 rfl rfl rfl rfl ?_; refine Q4 rfl rfl rfl rfl ?_; refine Q4 rfl rfl rfl rfl ?_; refine Q4 rfl rfl rfl rfl ?_)
  refine Qd 7 rfl rfl rfl rfl rfl (by with_reducible exact szOut) rfl rfl ?_
  refine Qd 7 rfl rfl rfl rfl rfl (by with_reducible exact szOut) rfl rfl ?_
  refine Qd 2 rfl rfl rfl rfl rfl (by with_reducible exact szIv) rfl rfl ?_
  (refine Qv rfl rfl rfl ?_; refine Qj (hK _ _ (Qz (Q0 ?_))); clear hK K)
  refine QU [_, _, _, _] rfl (Qg (n := 7) rfl rfl (by with_reducible exact lOut) rfl (Qg (n := 7) rfl rfl (by with_reducible exact lOut) rfl (Qg (n := 2) rfl rfl (by with_reducible exact lIv) rfl (QQ rfl QZ)))) rfl rfl
theorem goInterval : InGo Tryz.prog 13 := InGo.of Tryz.func13 rfl (by decide)
set_option maxHeartbeats 4000000 in
theorem Interval_fine (l : List Rs) (mo qu : Int) (w : Wr) {O1 O2 : Oc} {p : Int × Int} (hE : Ok Tryz.prog 43 [rssC l, tiC mo qu, wrC w] (.fr (tupT [ocC O1, ocC O2, ivC p, intC 0]))) :
    Ok Tryz.prog 13 [rssC l, tiC mo qu, wrC w] (.fr (tupT [ivC p, intC 0])) := by
  obtain ⟨q1, ⟨g1, m1, d1⟩, o1, y1, u1⟩ := O1
  obtain ⟨q2, ⟨g2, m2, d2⟩, o2, y2, u2⟩ := O2
  refine Ok.enter Tryz.func13 rfl _ Tryz.ntmps13 rfl ?_
  intro S w0
  refine Qy ?_
  refine Qx (fun K hK => ?_)
  refine XX 3 rfl rfl rfl rfl rfl rfl rfl ?_
  refine XX 4 rfl rfl rfl rfl rfl rfl rfl ?_
  refine Qi 0 rfl rfl (by with_reducible exact zvIv) rfl rfl rfl ?_
  (refine Qv rfl rfl rfl ?_; refine Qj (hK _ _ (Qz (Qy ?_))); clear hK K; refine Qx (fun K hK => ?_); refine Qq rfl rfl rfl ?_)
  refine Qe (n := 2) rfl rfl rfl rfl rfl (by with_reducible exact lTi) rfl ?_
  (refine Qe (n := 2) rfl rfl rfl rfl rfl (by with_reducible first | exact lTrav | exact lWire | exact lCs) rfl ?_)
  refine QV goends hE rfl rfl rfl rfl ?_
  (refine Qq rfl rfl rfl ?_; refine Q4 rfl rfl rfl rfl ?_; refine Q4 rfl rfl rfl rfl ?_; refine Q4 rfl rfl rfl rfl ?_; refine Q4 rfl rfl rfl rfl ?_)
  refine Qi 5 rfl rfl (by with_reducible exact zvOut) rfl rfl rfl ?_
  refine Qi 6 rfl rfl (by with_reducible exact zvOut) rfl rfl rfl ?_
  refine Qi 7 rfl rfl (by with_reducible exact zvIv) rfl rfl rfl ?_
  refine Qd 7 rfl rfl rfl rfl rfl (by with_reducible exact szOut) rfl rfl ?_
  refine Qd 7 rfl rfl rfl rfl rfl (by with_reducible exact szOut) rfl rfl ?_
  refine Qd 2 rfl rfl rfl rfl rfl (by with_reducible exact szIv) rfl rfl ?_
  (refine Qv rfl rfl rfl ?_; refine Qj (hK _ _ (Qz (Qy ?_))); clear hK K; refine Qx (fun K hK => ?_))
  refine Qe (n := 2) rfl rfl rfl rfl rfl (by with_reducible exact lIv) rfl ?_
  (refine Qq rfl rfl rfl ?_)
  refine Qd 2 rfl rfl rfl rfl rfl (by with_reducible exact szIv) rfl rfl ?_
  (refine Qv rfl rfl rfl ?_; refine Qj (hK _ _ (Qz (Q0 ?_))); clear hK K)
  refine QU [_, _] rfl (Qg (n := 2) rfl rfl (by with_reducible exact lIv) rfl (QQ rfl QZ)) rfl rfl
end Go.Proofs.YtojkdfilabmafaaGreat
namespace Go.Proofs.YtojkdfilabmafaaGreat
open Go.Own Go.Limbs
section
variable {d : List Int} {mo qu : Int}
theorem posD_wks {n i : Nat} (hn : n ≤ 16) (hi : i < n) : posD (wks 1 n) (wk (1 + (i : Int))) = i := by
  have hm : wk (1 + (i : Int)) ∈ wks 1 n := wks_mem.2 ⟨i, hi, rfl⟩
  obtain ⟨h1, h2⟩ := (posD_at (wks_up (c := n) (by omega))).1 hm
  generalize posD (wks 1 n) (wk (1 + (i : Int))) = k at h1 h2
  rw [wks_len] at h1
  have e : (wks 1 n).getD k wr0 = wk (1 + (k : Int)) := by
    unfold wks
    rw [List.getD_eq_getElem?_getD, List.getElem?_map, List.getElem?_range h1]; rfl
  rw [e] at h2
  exact wk_inj (by omega) (by omega) h2
theorem yF_rwO (hd : d.length ≤ 16) (hT : ∀ T ∈ d, 0 ≤ T ∧ T ≤ 1000000) (ht : tiB mo qu = true) : ∃ is, rwO (yF 0 d) mo qu = (rowsY d mo qu, is, 0) := by
  have hm : (msF (yF 0 d)).length = d.length := by rw [yF_ms (by omega) hT, List.length_map, yF_len]
  have hv := yF_vrO hd hT
  unfold rwO
  rw [hv]
  dsimp only
  rw [if_neg (by rw [ht]; decide), if_neg (fun h => h rfl), if_neg (by rw [wks_len, hm]; omega)]
  exact ⟨_, rfl⟩
theorem yF_rows_ok (hd : d.length ≤ 16) (hT : ∀ T ∈ d, 0 ≤ T ∧ T ≤ 1000000) (ht : tiB mo qu = true) : validR (d.length : Int) (rowsY d mo qu) = true := by
  have hm : (msF (yF 0 d)).length = d.length := by rw [yF_ms (by omega) hT, List.length_map, yF_len]
  have h := rowsD_valid (vs := wks 1 d.length) (ms := msF (yF 0 d)) (mo := mo) (qu := qu) (by rw [wks_len]; omega) (by rw [wks_len, hm]; omega) (fun m hmm => ⟨me_wires _ m hmm, (me_time _ m hmm).2⟩) ht
  rw [wks_len] at h
  exact h
theorem Interval_chain (hd : d.length ≤ 16) (hT : ∀ T ∈ d, 0 ≤ T ∧ T ≤ 1000000) (ht : tiB mo qu = true) (hG : Gap d mo qu) {i : Nat} (hi : i < d.length) :
    Ok Tryz.prog 13 [rssC (yF 0 d), tiC mo qu, wrC (wk (1 + (i : Int)))] (.fr (tupT [ivC (loY d qu i, hiY d qu i), intC 0])) := by
  have hrv := yF_rows_ok hd hT ht
  have hrl := rowsY_len (mo := mo) (qu := qu) hd hT
  obtain ⟨is, hrw⟩ := yF_rwO hd hT ht
  have hvr := yF_vrO hd hT
  obtain ⟨O1, s1, k1⟩ := Solve_any hrv (unL_ok hi (f := -1) (.inr rfl))
  obtain ⟨O2, s2, k2⟩ := Solve_any hrv (unL_ok hi (f := 1) (.inl rfl))
  obtain ⟨a1, b1⟩ := lo_sol hd hT hG hi s1
  obtain ⟨a2, b2⟩ := hi_sol hd hT hG hi s2
  have l1 := sol_len s1 (by omega)
  have l2 := sol_len s2 (by omega)
  have tb : ∀ t, t ≤ d.length → 0 ≤ tmT d t ∧ tmT d t ≤ 1000000 := fun t ht => by
    cases t with
    | zero => rw [tmT_zero]; exact ⟨by decide, by decide⟩
    | succ t =>
      rw [tmT_succ]
      exact hT _ (by rw [List.getD_eq_getElem?_getD, List.getElem?_eq_getElem (by omega)]; exact List.getElem_mem _)
  have ht2 : 0 ≤ mo ∧ mo ≤ 1073741824 ∧ 0 ≤ qu ∧ qu ≤ 1073741824 := of_decide_eq_true ht
  have t1 := tb i (by omega)
  have t2 := tb (i + 1) (by omega)
  have hlo : -2000000000 ≤ loY d qu i ∧ loY d qu i ≤ 2000000000 := by unfold loY; omega
  have hhi : -2000000000 ≤ hiY d qu i ∧ hiY d qu i ≤ 3000000000 := by unfold hiY; split <;> omega
  have hll : loY d qu i ≤ hiY d qu i := by unfold loY hiY; split <;> omega
  have f1 := flV_btw b1 (by omega) (by omega)
  have f2 := flV_btw b2 (by omega) (by omega)
  have e1 : flV O1.value = -loY d qu i := by omega
  have e2 : flV O2.value = hiY d qu i := by omega
  have hB := bounds_fine d.length i hi hd (rowsY d mo qu) O1 O2 k1 k2 ⟨a1, l1.1, l1.2.1, l1.2.2 a1⟩ ⟨a2, l2.1, l2.2.1, l2.2.2 a2⟩ (by omega)
  rw [e1, e2, Int.neg_neg] at hB
  refine Interval_fine (yF 0 d) mo qu _ (O1 := O1) (O2 := O2) (ends_fine (yF 0 d) (by rw [yF_len]; omega) mo qu _ (by rw [hrw]) (by rw [hvr]; exact wks_mem.2 ⟨i, hi, rfl⟩) (by rw [hvr]; exact wks_up (by omega)) (by rw [hvr]; dsimp only; rw [wks_len]; exact hd) ?_)
  rw [hrw, hvr]
  dsimp only
  rw [wks_len, posD_wks hd hi]
  exact hB
end
attribute [local irreducible] Go.Own.Fin Ok OkB OkF OkL OkM OkN OkT Ops St
theorem goreply : InGo Tryz.prog 14 := InGo.of Tryz.func14 rfl (by decide)
set_option maxHeartbeats 4000000 in
theorem reply_ok (n t T : Int) (h1 : 0 ≤ n ∧ n ≤ 1000) (h2 : 0 ≤ T ∧ T ≤ 1000000) : Ok Tryz.prog 14 [intC n, intC t, intC T, adrF (adN t)] (rsC (rpY n t T)) := by
  refine Ok.enter Tryz.func14 rfl _ Tryz.ntmps14 rfl ?_
  intro S w
  (refine Qy (Qx fun K hK => ?_); refine Qi 0 rfl rfl (by with_reducible exact zvRes) rfl rfl rfl ?_; refine Qj (hK _ _ (Qz (Qy ?_))); clear hK K; refine Qx (fun K hK => ?_); refine Qq rfl rfl rfl ?_; refine Qq rfl rfl rfl ?_; refine Qk (imul (by omega) (by omega)) rfl rfl rfl rfl ?_; refine Qq rfl rfl rfl ?_; refine Qq rfl rfl rfl ?_; refine Qk (imul (by omega) (by omega)) rfl rfl rfl rfl ?_; refine Qq rfl rfl rfl ?_; refine Qk (iadd (by omega) (by omega)) rfl rfl rfl rfl ?_; refine Qq rfl rfl rfl ?_)
  refine Qp rfl (by with_reducible exact bAns) rfl (.one rfl rfl rfl rfl (.one rfl rfl rfl rfl .nil)) rfl ?_
  refine Qp rfl (by with_reducible exact bRes) rfl (.one rfl rfl rfl rfl (.one rfl rfl rfl rfl (.one rfl rfl rfl rfl (.one rfl rfl rfl rfl (.one rfl rfl rfl rfl (.one rfl rfl rfl rfl (.one rfl rfl rfl rfl (.agg rfl rfl rfl rfl .nil)))))))) rfl ?_
  (refine Qd 17 rfl rfl rfl rfl rfl (by with_reducible exact szRes) rfl rfl ?_; refine Qj (hK _ _ (Qz (Q0 ?_))); clear hK K)
  refine QU [_] rfl (Qg (n := 17) rfl rfl (by with_reducible exact lRes) rfl QZ) rfl rfl
theorem goDbit : InGo Tryz.prog 15 := InGo.of Tryz.func15 rfl (by decide)
theorem Dbit_ok (b : Bool) : Ok Tryz.prog 15 [boolC b] (intC (if b = true then 1 else 0)) := by
  refine Ok.enter Tryz.func15 rfl _ Tryz.ntmps15 rfl ?_
  intro S w
  (refine Qy (Qx fun K hK => ?_); refine Qv rfl rfl rfl ?_; refine Qj (hK _ _ (Qz (Qy (Qy ?_)))); clear hK K; refine Qx (fun K hK => ?_); refine Qq rfl rfl rfl ?_; refine Qj (hK _ _ (Qz ?_)); clear hK K)
  refine X4 rfl (fun h => ?_) (fun h => ?_)
  · rw [if_pos h]
    (refine Qy (Qx fun K hK => ?_); refine Qv rfl rfl rfl ?_; refine Qj (hK _ _ (Qz (Q0 (QY ?_)))); clear hK K)
    refine QU [_] rfl (QQ rfl QZ) rfl rfl
  · rw [if_neg (by rw [h]; decide)]
    (refine QK (Qz (Qy (Qx fun K hK => ?_))); refine Qv rfl rfl rfl ?_; refine Qj (hK _ _ (Qz (Q0 ?_))); clear hK K)
    refine QU [_] rfl (QQ rfl QZ) rfl rfl
theorem bTi : bInfo Tryz.prog 32 = some (.agg #[.int .i64 0, .int .i64 0], [(0, some 1), (1, some 1)]) := by kernel_rfl
theorem szTi : (Tryz.prog.info? 32).map (·.size) = some 2 := by kernel_rfl
theorem zvTi : (Tryz.prog.info? 32).map (·.zero) = some (some (.agg #[.int .i64 0, .int .i64 0])) := by kernel_rfl
theorem eIv : EqS Tryz.prog 39 [.i64, .i64] := ⟨by kernel_rfl, by kernel_rfl, by kernel_rfl, by kernel_rfl⟩
section
variable {X : Ctx} {L : AL} {B : BL} {ops : Array Oper} {K : Act → World → Prop} {r : Pl} {k : Kd}
  {x y z : Operand} {d : Nat} {t t2 t' : TypeId} {pos : String} {af : Array Edge} {g : Option (Nat × Bool)}
theorem eqIvT (p : Int × Int) (hg : gd ops L g = some true) (hx : ev L x = some (.ct (.fr (aggT (ivCs p))))) (hy : ev L y = some (.ct (.fr (aggT (ivCs p))))) (hP : X.P = Tryz.prog) (hn : Nat.blt d X.n = true)
    (h : Ops X ops r ((d, .ct (boolC true)) :: L) B K) : Ops X ops (.cons ⟨some d, .binOp .eql 39 x y t2, t', pos, af, g⟩ k r) L B K :=
  Ops.eqS (ks := [.i64, .i64]) [p.1, p.2] [p.1, p.2] hg hx hy rfl rfl (hP ▸ eIv) hn (by rw [decide_eq_true rfl]; exact h)
end
theorem goDAwake : InGo Tryz.prog 9 := InGo.of Tryz.func9 rfl (by decide)
set_option maxHeartbeats 8000000 in
theorem DAwake_ok : Ok Tryz.prog 9 [] (boolC true) := by
  have hr1 : Ok Tryz.prog 14 [intC 0, intC 1, intC 10, .ex (.int .u32 1)] (rsC (rpY 0 1 10)) := reply_ok 0 1 10 (by decide) (by decide)
  have hr2 : Ok Tryz.prog 14 [intC 1, intC 2, intC 25, .ex (.int .u32 2)] (rsC (rpY 1 2 25)) := reply_ok 1 2 25 (by decide) (by decide)
  have hT : ∀ T ∈ [(10 : Int), 25], 0 ≤ T ∧ T ≤ 1000000 := by decide
  have hti : tiB 100 2 = true := by decide
  have hG : Gap [(10 : Int), 25] 100 2 := ⟨by decide, fun t ht => by
    have : t = 0 ∨ t = 1 := by have : t < 2 := ht; omega
    rcases this with rfl | rfl <;> decide⟩
  have hI1 : Ok Tryz.prog 13 [rssC (yF 0 [10, 25]), tiC 100 2, wrC (0, 1)] (.fr (tupT [ivC (8, 10), intC 0])) := Interval_chain (d := [10, 25]) (by decide) hT hti hG (i := 0) (by decide)
  have hI2 : Ok Tryz.prog 13 [rssC (yF 0 [10, 25]), tiC 100 2, wrC (1, 2)] (.fr (tupT [ivC (13, 17), intC 0])) := Interval_chain (d := [10, 25]) (by decide) hT hti hG (i := 1) (by decide)
  have hV := Variables_ok (yF 0 [10, 25]) (by decide)
  rw [yF_vrO (d := [10, 25]) (by decide) hT] at hV
  have hVl : (wks 1 [(10 : Int), 25].length).length = 2 := wks_len 2
  dsimp only at hV
  generalize wks 1 [(10 : Int), 25].length = vs at hV hVl
  have hD := DValid_ok 100 2
  rw [hti] at hD
  have hl : CT.fr (sliceT 17 [rsCs (rpY 0 1 10), rsCs (rpY 1 2 25)]) = rssC (yF 0 [10, 25]) := rfl
  rw [← hl] at hI1 hI2 hV
  refine Ok.enter Tryz.func9 rfl _ Tryz.ntmps9 rfl ?_
  intro S w
  (refine Qy (Qx fun K hK => ?_); refine Qv rfl rfl rfl ?_; refine Qj (hK _ _ (Qz (Qy ?_))); clear hK K; refine Qx (fun K hK => ?_))
  refine QV goreply hr1 rfl rfl rfl rfl ?_
  refine QV goreply hr2 rfl rfl rfl rfl ?_
  refine Ops.lit (m := 2) (n := 17) (cs := rsCs (rpY 0 1 10) ++ rsCs (rpY 1 2 25)) rfl rfl (by with_reducible exact sRes) (.agg rfl rfl rfl rfl (.agg rfl rfl rfl rfl .nil)) (by decide) rfl ?_
  (refine Qv rfl rfl rfl ?_; refine Qj (hK _ _ (Qz (Qy ?_))); clear hK K; refine Qx (fun K hK => ?_))
  refine Qp rfl (by with_reducible exact bTi) rfl (.one rfl rfl rfl rfl (.one rfl rfl rfl rfl .nil)) rfl ?_
  refine Qi 0 rfl rfl (by with_reducible exact zvTi) rfl rfl rfl ?_
  refine Qd 2 rfl rfl rfl rfl rfl (by with_reducible exact szTi) rfl rfl ?_
  (refine Qj (hK _ _ (Qz (Qy ?_))); clear hK K; refine Qx (fun K hK => ?_); refine Qq rfl rfl rfl ?_)
  refine Qe (n := 2) rfl rfl rfl rfl rfl (by with_reducible exact lTi) rfl ?_
  refine Qp rfl (by with_reducible exact bWire) rfl (.one rfl rfl rfl rfl .nil) rfl ?_
  refine QV goInterval hI1 rfl rfl rfl rfl ?_
  (refine Qq rfl rfl rfl ?_; refine Q4 rfl rfl rfl rfl ?_; refine Q4 rfl rfl rfl rfl ?_)
  refine Qi 1 rfl rfl (by with_reducible exact zvIv) rfl rfl rfl ?_
  refine Qd 2 rfl rfl rfl rfl rfl (by with_reducible exact szIv) rfl rfl ?_
  (refine Qv rfl rfl rfl ?_; refine Qj (hK _ _ (Qz (Qy ?_))); clear hK K; refine Qx (fun K hK => ?_); refine Qq rfl rfl rfl ?_)
  refine Qe (n := 2) rfl rfl rfl rfl rfl (by with_reducible exact lTi) rfl ?_
  refine Qp rfl (by with_reducible exact bWire) rfl (.one rfl rfl rfl rfl (.one rfl rfl rfl rfl .nil)) rfl ?_
  refine QV goInterval hI2 rfl rfl rfl rfl ?_
  (refine Qq rfl rfl rfl ?_; refine Q4 rfl rfl rfl rfl ?_; refine Q4 rfl rfl rfl rfl ?_)
  refine Qi 2 rfl rfl (by with_reducible exact zvIv) rfl rfl rfl ?_
  refine Qd 2 rfl rfl rfl rfl rfl (by with_reducible exact szIv) rfl rfl ?_
  (refine Qv rfl rfl rfl ?_; refine Qj (hK _ _ (Qz (Qy ?_))); clear hK K; refine Qx (fun K hK => ?_); refine Qq rfl rfl rfl ?_)
  refine QV goVariables hV rfl rfl rfl rfl ?_
  (refine Qq rfl rfl rfl ?_; refine Q4 rfl rfl rfl rfl ?_; refine Q4 rfl rfl rfl rfl ?_; refine Qv rfl rfl rfl ?_; refine Qv rfl rfl rfl ?_; refine Qj (hK _ _ (Qz (Qy ?_))); clear hK K; refine Qx (fun K hK => ?_); refine Qq rfl rfl rfl ?_; refine Qk ieql rfl rfl rfl rfl ?_; refine Qq rfl rfl rfl ?_)
  refine Qe (n := 2) rfl rfl rfl rfl rfl (by with_reducible exact lIv) rfl ?_
  refine Qp rfl (by with_reducible exact bIv) rfl (.one rfl rfl rfl rfl (.one rfl rfl rfl rfl .nil)) rfl ?_
  refine eqIvT (8, 10) rfl rfl rfl rfl rfl ?_
  (refine Q3 rfl rfl rfl rfl ?_; refine Qq rfl rfl rfl ?_; refine Qq rfl rfl rfl ?_; refine Qk ieql rfl rfl rfl rfl ?_; refine Q3 rfl rfl rfl rfl ?_; refine Qq rfl rfl rfl ?_)
  refine Qe (n := 2) rfl rfl rfl rfl rfl (by with_reducible exact lIv) rfl ?_
  refine Qp rfl (by with_reducible exact bIv) rfl (.one rfl rfl rfl rfl (.one rfl rfl rfl rfl .nil)) rfl ?_
  refine eqIvT (13, 17) rfl rfl rfl rfl rfl ?_
  (refine Q3 rfl rfl rfl rfl ?_; refine Qq rfl rfl rfl ?_; refine Qq rfl rfl rfl ?_; refine Qk ieql rfl rfl rfl rfl ?_; refine Q3 rfl rfl rfl rfl ?_; refine Qq rfl rfl rfl ?_; refine Qq rfl rfl rfl ?_; refine Qh rfl rfl (by with_reducible first | exact sTks.und | exact sWrs.und | exact sIks.und | exact sAdrs.und) (List.length_map ..) rfl ?_; refine Qk ieql rfl rfl rfl rfl ?_; refine Q3 rfl rfl rfl rfl ?_; refine Qq rfl rfl rfl ?_)
  refine Qf 57 rfl (fun _ => ?_) (fun g => absurd (by show ((vs.length : Nat) : Int) = 2; omega) g)
  refine Qe (n := 2) rfl rfl rfl rfl rfl (by with_reducible exact lTi) rfl ?_
  refine QV goDValid hD rfl rfl rfl rfl ?_
  (refine Q3 rfl rfl rfl rfl ?_; refine Qv rfl rfl rfl ?_; refine Qj (hK _ _ (Qz (Q0 ?_))); clear hK K)
  refine QU [_] rfl (QQ rfl QZ) rfl rfl
theorem tmT_app (d : List Int) (T : Int) {t : Nat} (h : t ≤ d.length) : tmT (d ++ [T]) t = tmT d t := by
  cases t with
  | zero => rfl
  | succ t => rw [tmT_succ, tmT_succ, List.getD_eq_getElem?_getD, List.getD_eq_getElem?_getD, List.getElem?_append_left (by omega)]
theorem tmT_new (d : List Int) (T : Int) : tmT (d ++ [T]) (d.length + 1) = T := by
  rw [tmT_succ, List.getD_eq_getElem?_getD, List.getElem?_append_right (Nat.le_refl _), Nat.sub_self]; rfl
def Stp (d : List Int) : Prop := ∀ t, t < d.length → 20 ≤ tmT d (t + 1) - tmT d t ∧ tmT d (t + 1) - tmT d t ≤ 49
theorem Stp.snoc {d : List Int} (h : Stp d) {T : Int} (hT : 20 ≤ T - tmT d d.length ∧ T - tmT d d.length ≤ 49) : Stp (d ++ [T]) := fun t ht => by
  rw [List.length_append, List.length_singleton] at ht
  by_cases e : t = d.length
  · rw [e, tmT_new, tmT_app d T (Nat.le_refl _)]; exact hT
  · rw [tmT_app d T (by omega), tmT_app d T (by omega)]; exact h t (by omega)
theorem Stp.bd {d : List Int} (h : Stp d) : ∀ t : Nat, t ≤ d.length → 20 * t ≤ tmT d t ∧ tmT d t ≤ 49 * t
  | 0, _ => by rw [tmT_zero]; exact ⟨by decide, by decide⟩
  | t + 1, ht => by
    have h1 := Stp.bd h t (by omega)
    have h2 := h t (by omega)
    rw [Int.natCast_add]; constructor <;> omega
theorem Stp.rng {d : List Int} (h : Stp d) (hl : d.length ≤ 4) : ∀ T ∈ d, 0 ≤ T ∧ T ≤ 1000000 := fun T hT => by
  obtain ⟨i, hi, e⟩ := List.getElem_of_mem hT
  have h1 := h.bd (i + 1) (by omega)
  rw [tmT_succ, List.getD_eq_getElem?_getD, List.getElem?_eq_getElem hi] at h1
  simp only [Option.getD_some, e] at h1
  rw [Int.natCast_add] at h1
  omega
theorem Stp.gap {d : List Int} (h : Stp d) {q : Int} (hq : 0 ≤ q ∧ q < 10) : Gap d 1000 q := ⟨hq.1, fun t ht => by have := h t ht; omega⟩
theorem yF_getD : ∀ (d : List Int) (i : Int) (k : Nat), k < d.length → (yF i d).getD k rs0 = rpY (i + k) (i + k + 1) (d.getD k 0)
  | [], _, _, h => by cases h
  | T :: d, i, 0, _ => by rw [Int.natCast_zero, Int.add_zero]; rfl
  | T :: d, i, k + 1, h => by
    show (yF (i + 1) d).getD k rs0 = _
    rw [yF_getD d (i + 1) k (Nat.lt_of_succ_lt_succ h), show i + 1 + (k : Int) = i + ((k + 1 : Nat) : Int) by omega]; rfl
theorem adN_wrap {n : Int} (h1 : 0 ≤ n) (h2 : n < 4294967296) : IntKind.u32.wrap n = (((adN n).val : Nat) : Int) := by rw [wrap_u32 h1 h2, adN_val h1 h2]
theorem fIv0 : fldInfo Tryz.prog 39 0 = some (0, some 1) := by kernel_rfl
theorem fIv1 : fldInfo Tryz.prog 39 1 = some (1, some 1) := by kernel_rfl
set_option maxHeartbeats 32000000 in
theorem DelayOne_ok (bs : List Int) (qb : Int) (hb : ∀ b ∈ bs, 0 ≤ b ∧ b < 256) (hqb : 0 ≤ qb ∧ qb < 256) : Ok Tryz.prog 4 [bytesC bs, .ex (.int .u8 qb)] (boolC true) := by
  refine Ok.enter Tryz.func4 rfl _ Tryz.ntmps4 rfl ?_
  intro S w
  have hB : Bytes (bs.take 400) := ⟨fun b h => (hb b (List.mem_of_mem_take h)).1, fun b h => (hb b (List.mem_of_mem_take h)).2, by simp; omega⟩
  have hRoll := Roll_ok bs
  generalize bs.take 400 = B0 at hB hRoll
  have hcv : IntKind.i64.wrap qb = qb := Z1 (by omega) (by omega)
  (refine Qy (Qx fun K hK => ?_); refine Qv rfl rfl rfl ?_; refine Qj (hK _ _ (Qz (Qy (Qy ?_)))); clear hK K; refine Qx (fun K hK => ?_))
  refine QV goDAwake DAwake_ok rfl rfl rfl rfl ?_
  (refine Xx rfl rfl rfl ?_; refine Qj (hK _ _ (Qz (Xu rfl (QK (Qz (Qy ?_)))))); clear hK K; refine Qx (fun K hK => ?_); refine Qq rfl rfl rfl ?_)
  refine Ops.callN 0 goRoll hRoll rfl rfl rfl rfl rfl rfl ?_
  (refine Qv rfl rfl rfl ?_; refine Qj (hK _ _ (Qz (Qy ?_))); clear hK K; refine Qx (fun K hK => ?_); refine Qq rfl rfl rfl ?_)
  refine Zu (q := qb) rfl rfl (by with_reducible exact uU8) (by with_reducible exact uInt) hcv rfl ?_
  refine Qk (irem (q := 10) (by omega) (by omega)) rfl rfl rfl rfl ?_
  obtain ⟨q, hq, hq2⟩ : ∃ q : Int, qb % 10 = q ∧ 0 ≤ q ∧ q < 10 := ⟨_, rfl, by omega⟩
  rw [hq]
  clear hq
  have hti : tiB 1000 q = true := decide_eq_true ⟨by decide, by decide, by omega, by omega⟩
  (refine Qv rfl rfl rfl ?_; refine Qj (hK _ _ (Qz (Qy ?_))); clear hK K; refine Qx (fun K hK => ?_); refine Qv rfl rfl rfl ?_; refine Qj (hK _ _ (Qz (Qy ?_))); clear hK K; refine Qx (fun K hK => ?_); refine Qv rfl rfl rfl ?_; refine Qv rfl rfl rfl ?_; refine Qj (hK _ _ (Qz (Qy (Qy ?_)))); clear hK K; refine Qx (fun K hK => ?_); refine Qv rfl rfl rfl ?_; refine Qj (hK _ _ (Qz (Q5 ?_))); clear hK K)
  refine Zo 7 1 47 17 rfl rfl rfl ?_
  refine Qs (α := List Int × Nat) (fun x => x.1.length ≤ 4 ∧ Stp x.1)
    (fun x => [(5, .own 0), (6, .ct (intC q)), (7, .own 1), (8, .ct (intC (tmT x.1 x.1.length))), (9, .ct (intC 0)), (10, .ct (intC ((x.1.length : Int) + 1)))])
    (fun x => [(1, .row 47 17 (rss (yF 0 x.1))), (0, .box 98 (codes B0 x.2))]) (fun x => 4 - x.1.length) ([], 0) ⟨Nat.zero_le _, fun t h => absurd h (Nat.not_lt_zero _)⟩ (by exact Qu rfl ⟨rfl, rfl, rfl, rfl, rfl, rfl, trivial⟩) ?_
  rintro ⟨d, p⟩ ⟨hd, hst⟩
  dsimp only at hd hst ⊢
  refine Qy ?_
  refine Qy ?_
  refine Y4 (α := Bool × Nat) (fun x => x.1 = true → d.length < 4) (fun x => [(5, .own 0), (6, .ct (intC q)), (7, .own 1), (8, .ct (intC (tmT d d.length))), (9, .ct (intC 0)), (10, .ct (intC ((d.length : Int) + 1))), (31, .ct (boolC x.1))])
    (fun x => [(1, .row 47 17 (rss (yF 0 d))), (0, .box 98 (codes B0 x.2))]) (fun x hx => ?_) (fun KN hM => ?_)
  rotate_left
  · (refine Qx (fun K hK => ?_); refine Qq rfl rfl rfl ?_; refine Qq rfl rfl rfl ?_)
    refine Ops.callB goNext (Next_ok B0 p 4 (by decide) (by decide) hB) rfl rfl rfl rfl rfl (fun y hy => ?_)
    obtain ⟨n, p1⟩ := y
    dsimp only at hy ⊢
    (refine Qk (iadd (by omega) (by omega)) rfl rfl rfl rfl ?_; refine Qk ileq rfl rfl rfl rfl ?_; refine Qq rfl rfl rfl ?_)
    refine Qf 28 rfl (fun h1 => ?_) (fun h1 => ?_)
    · (refine Qq rfl rfl rfl ?_; refine Qk ileq rfl rfl rfl rfl ?_; refine Q3 rfl rfl rfl rfl ?_; refine Qj (hK _ _ ?_); clear hK K)
      exact Xv hM (decide ((d.length : Int) + 1 ≤ 4), p1) (fun h => by have := of_decide_eq_true h; omega) (Qu rfl ⟨rfl, rfl, rfl, rfl, rfl, rfl, rfl, trivial⟩)
    · (refine Qw rfl rfl rfl ?_; refine Qw rfl rfl rfl ?_; refine Q6 rfl rfl rfl rfl ?_; refine Qj (hK _ _ ?_); clear hK K)
      exact Xv hM (false, p1) (fun h => by cases h) (Qu rfl ⟨rfl, rfl, rfl, rfl, rfl, rfl, rfl, trivial⟩)
  obtain ⟨b, p⟩ := x
  dsimp only at hx ⊢
  refine X4 rfl (fun h => ?_) (fun h => ?_)
  · have hd3 := hx h
    subst h
    have htb := hst.bd d.length (Nat.le_refl _)
    have hyl := yF_len d 0
    have haw := adN_wrap (n := (d.length : Int) + 1) (by omega) (by omega)
    (refine QK (Qz (Qy (Q5 (Qy (Qx fun K hK => ?_))))); refine Qq rfl rfl rfl ?_; refine Qq rfl rfl rfl ?_)
    refine Ops.callB goNext (Next_ok B0 p 30 (by decide) (by decide) hB) rfl rfl rfl rfl rfl (fun y hy => ?_)
    obtain ⟨n, p1⟩ := y
    dsimp only at hy ⊢
    have hT : 20 ≤ tmT d d.length + (20 + n) - tmT d d.length ∧ tmT d d.length + (20 + n) - tmT d d.length ≤ 49 := by omega
    have hsn := hst.snoc hT
    have hnw := tmT_new d (tmT d d.length + (20 + n))
    have hys := yF_snoc (tmT d d.length + (20 + n)) d 0
    rw [Int.zero_add] at hys
    (refine Qk (iadd (by omega) (by omega)) rfl rfl rfl rfl ?_; refine Qk (iadd (by omega) (by omega)) rfl rfl rfl rfl ?_; refine Qv rfl rfl rfl ?_; refine Qj (hK _ _ (Qz ?_)); clear hK K; refine Qx (fun K hK => ?_); refine Qq rfl rfl rfl ?_; refine Qq rfl rfl rfl ?_)
    generalize hTT : tmT d d.length + (20 + n) = T at hsn hnw hys ⊢
    skip
    refine Yq (yF 0 d).length rfl rfl rfl (by decide) (rss_len _) (by with_reducible exact sRes.und) rfl ?_
    rw [hyl]
    (refine Qq rfl rfl rfl ?_; refine Qq rfl rfl rfl ?_; refine Qq rfl rfl rfl ?_)
    refine Zu (q := ((adN ((d.length : Int) + 1)).val : Int)) rfl rfl (by with_reducible exact uInt) (by with_reducible exact uAddr) haw rfl ?_
    refine QV goreply (reply_ok d.length ((d.length : Int) + 1) T (by omega) (by omega)) rfl rfl rfl rfl ?_
    refine Zt (n := 17) rfl rfl (by with_reducible exact sRes) rfl rfl (by decide) rfl ?_
    refine Qt (yF 0 d).length (rss (yF 0 (d ++ [T]))) rfl rfl rfl rfl (by with_reducible exact sRes) (rss_len _) rfl (by omega) (by omega) (by rw [hys]; exact rss_snoc _ _) rfl ?_
    (refine Qv rfl rfl rfl ?_; refine Qj (hK _ _ (Qz ?_)); clear hK K; refine Qx (fun K hK => ?_); refine Qq rfl rfl rfl ?_; refine Qk (iadd (by omega) (by omega)) rfl rfl rfl rfl ?_; refine Qv rfl rfl rfl ?_; refine Qj (hK _ _ (Q7 ?_)); clear hK K)
    have hl2 : (d ++ [T]).length = d.length + 1 := by rw [List.length_append]; rfl
    refine Qb (d ++ [T], p1) (by dsimp only; omega) ⟨by dsimp only; omega, hsn⟩ (by dsimp only; rw [hl2, hnw]; exact Qu rfl ⟨rfl, rfl, rfl, rfl, rfl, by simp only [Int.natCast_add]; rfl, trivial⟩)
  have hyl := yF_len d 0
  have hrg := hst.rng hd
  have hgp := hst.gap hq2
  have hI := fun i (hi : i < d.length) => Interval_chain (mo := 1000) (qu := q) (i := i) (by omega) hrg hti hgp hi
  refine Yk 1 _ rfl (rss_frozen _ _) noBor_sub ?_
  (refine Qo (Qz (Qy (Qy (Qx fun K hK => ?_)))); refine Qq rfl rfl rfl ?_; refine Qh rfl rfl (by with_reducible exact sRes.und) (List.length_map ..) rfl ?_; refine Qq rfl rfl rfl ?_; refine Qj (hK _ _ (Qz (Q5 ?_))); clear hK K)
  refine Qs (α := Nat) (fun i => i ≤ d.length)
    (fun i => [(6, .ct (intC q)), (7, .ct (rssC (yF 0 d))), (9, .ct (intC (tmT d i))), (50, .ct (intC (yF 0 d).length)), (51, .ct (intC i))])
    (fun _ => [(0, .box 98 (codes B0 p))]) (fun i => d.length - i) 0 (Nat.zero_le _) (by exact Qu rfl ⟨rfl, rfl, rfl, rfl, rfl, trivial⟩) ?_
  intro i hi
  try dsimp only at hi ⊢
  (refine Qy (Qx fun K hK => ?_); refine Qk ilss rfl rfl rfl rfl ?_; refine Qj (hK _ _ (Qz (Qy ?_))); clear hK K)
  refine Q2 rfl (fun h2 => ?_) (fun h2 => ?_)
  rotate_left
  · (refine Qo (Qz (Qy (Qx fun K hK => ?_))); refine Qv rfl rfl rfl ?_; refine Qj (hK _ _ (Qz (Q0 ?_))); clear hK K)
    refine QU [_] rfl (QQ rfl QZ) rfl rfl
  have hil : i < d.length := by omega
  have e2 : (i : Int).toNat = i := Int.toNat_natCast i
  have hI := hI i hil
  have hb1 := hst.bd i (by omega)
  have hb2 := hst.bd (i + 1) (by omega)
  have hs := hst i hil
  have hg := yF_getD d 0 i hil
  rw [Int.zero_add, ← tmT_succ] at hg
  rw [Int.natCast_add] at hb2
  have haw1 := adN_wrap (n := (i : Int) + 1) (by omega) (by omega)
  have haw0 := adN_wrap (n := (i : Int)) (by omega) (by omega)
  (refine QK (Qz (Qy (Q5 (Qy (Qx fun K hK => ?_))))); refine Qq rfl rfl rfl ?_; refine Qv rfl rfl rfl ?_; refine Qj (hK _ _ (Qz (Qy ?_))); clear hK K; refine Qx (fun K hK => ?_); refine Qq rfl rfl rfl ?_; refine Qk (iadd (by omega) (by omega)) rfl rfl rfl rfl ?_)
  refine Zu (q := ((adN ((i : Int) + 1)).val : Int)) rfl rfl (by with_reducible exact uInt) (by with_reducible exact uAddr) haw1 rfl ?_
  refine Qp rfl (by with_reducible exact bWire) rfl (.one rfl rfl rfl rfl .nil) rfl ?_
  refine Qi 2 rfl rfl (by with_reducible exact zvWire) rfl rfl rfl ?_
  refine Qd 2 rfl rfl rfl rfl rfl (by with_reducible exact szWire) rfl rfl ?_
  refine Qj (hK _ _ ?_)
  clear hK K
  refine Qz ?_
  refine Qy ?_
  refine Y4 (α := Unit) (fun _ => True) (fun _ => [(6, .ct (intC q)), (7, .ct (rssC (yF 0 d))), (9, .ct (intC (tmT d i))), (50, .ct (intC (yF 0 d).length)), (51, .ct (intC i)), (11, .ct (intC i)), (12, .own 2)])
    (fun _ => [(2, .box 37 (wrCs (wk (1 + (i : Int))))), (0, .box 98 (codes B0 p))]) (fun _ _ => ?_) (fun KN hM => ?_)
  rotate_left
  · have hw : wk (1 + (i : Int)) = (adN i, adN ((i : Int) + 1)) := by unfold wk; rw [Int.add_comm 1 (i : Int), Int.add_sub_cancel]
    rw [hw] at hM
    (refine Qy (Qx fun K hK => ?_); refine Qq rfl rfl rfl ?_; refine Qk igtr rfl rfl rfl rfl ?_; refine Qj (hK _ _ (Qz ?_)); clear hK K)
    refine Q2 rfl (fun h3 => ?_) (fun h3 => ?_)
    · (refine Qx (fun K hK => ?_); refine Qq rfl rfl rfl ?_)
      refine Zu (q := ((adN (i : Int)).val : Int)) rfl rfl (by with_reducible exact uInt) (by with_reducible exact uAddr) haw0 rfl ?_
      refine QJ rfl rfl rfl (by with_reducible exact fWr0) rfl ?_
      refine Xq rfl rfl rfl rfl rfl (by with_reducible exact zAddr) (Nat.le_of_ble_eq_true rfl) ?_
      (refine Qj (hK _ _ ?_); clear hK K)
      exact Xv hM () trivial (Qu rfl ⟨rfl, rfl, rfl, rfl, rfl, rfl, rfl, trivial⟩)
    · have h0 : i = 0 := by omega
      subst h0
      (refine QK ?_)
      exact Xv hM () trivial (Qu rfl ⟨rfl, rfl, rfl, rfl, rfl, rfl, rfl, trivial⟩)
  (refine Qy ?_)
  refine Xw (by with_reducible exact mixed) 12 (.p 0 (.p 1 (.p 2 (.p 3 (.p 5 (.p 6 (.p 7 (.p 8 (.f 4 (.f 9 (.p 10 (.p 11 .done)))))))))))) (by kernel_rfl) (fun K hK => ?_)
  (refine Qq rfl rfl rfl ?_; refine Qq rfl rfl rfl ?_; refine Xz rfl rfl rfl (by with_reducible exact sRes) (by omega) (Y6 (by omega) (by omega)) rfl ?_)
  rw [e2, hg]
  refine Ops.fldF rfl rfl (by with_reducible exact fS10) rfl ?_
  (refine Qq rfl rfl rfl ?_; refine Qq rfl rfl rfl ?_; refine Xz rfl rfl rfl (by with_reducible exact sRes) (by omega) (Y6 (by omega) (by omega)) rfl ?_)
  rw [e2, hg]
  refine Ops.fldF rfl rfl (by with_reducible exact fS3) rfl ?_
  (refine X3 rfl rfl rfl (by with_reducible first | exact lInt | exact lClaims) rfl ?_; refine X3 rfl rfl rfl (by with_reducible first | exact lInt | exact lClaims) rfl ?_)
  refine Qk (isub (p := 100 * (i : Int) + tmT d (i + 1)) (q := 100 * (i : Int)) (by omega) (by omega)) rfl rfl rfl rfl ?_
  rw [show 100 * (i : Int) + tmT d (i + 1) - 100 * (i : Int) = tmT d (i + 1) by omega]
  (refine Qv rfl rfl rfl ?_; refine Qj (hK _ _ (Qz (Qy ?_))); clear hK K; refine Qx (fun K hK => ?_); refine Qq rfl rfl rfl ?_; refine Qq rfl rfl rfl ?_)
  refine Qp rfl (by with_reducible exact bTi) rfl (.one rfl rfl rfl rfl (.one rfl rfl rfl rfl .nil)) rfl ?_
  (refine Qe (n := 2) rfl rfl rfl rfl rfl (by with_reducible first | exact lTrav | exact lWire | exact lCs) rfl ?_)
  refine QV goInterval hI rfl rfl rfl rfl ?_
  (refine Qq rfl rfl rfl ?_; refine Q4 rfl rfl rfl rfl ?_; refine Q4 rfl rfl rfl rfl ?_)
  refine Qi 3 rfl rfl (by with_reducible exact zvIv) rfl rfl rfl ?_
  refine Qd 2 rfl rfl rfl rfl rfl (by with_reducible exact szIv) rfl rfl ?_
  refine Qv rfl rfl rfl ?_
  refine Qj (hK _ _ ?_)
  clear hK K
  refine Qz ?_
  refine Qy ?_
  refine Y4 (α := Unit) (fun _ => True) (fun _ => [(6, .ct (intC q)), (7, .ct (rssC (yF 0 d))), (13, .ct (intC (tmT d (i + 1)))), (50, .ct (intC (yF 0 d).length)), (51, .ct (intC i))])
    (fun _ => [(3, .box 39 (ivCs (loY d q i, hiY d q i))), (2, .box 37 (wrCs (wk (1 + (i : Int))))), (0, .box 98 (codes B0 p))]) (fun _ _ => ?_) (fun KN hM => ?_)
  rotate_left
  · have hhi : hiY d q i = tmT d (i + 1) - tmT d i + if i = 0 then 0 else q := rfl
    have hlo : loY d q i = tmT d (i + 1) - tmT d i - q := rfl
    clear hI hg
    generalize hiY d q i = hi' at hhi hM ⊢
    generalize loY d q i = lo' at hlo hM ⊢
    generalize tmT d (i + 1) = tn at hs hb2 hhi hlo hM ⊢
    generalize tmT d i = tl at hs hb1 hhi hlo ⊢
    by_cases h0 : i = 0
    · rw [if_pos h0] at hhi
      have ht0 : tl = 0 := by omega
      have hm : min q (max tl 0) = 0 := by rw [Int.max_eq_left (by omega), ht0, Int.min_eq_right (by omega)]
      (refine Qy ?_)
      refine Xw (by with_reducible exact mixed) 29 (.p 0 (.p 1 (.p 2 (.p 3 (.p 5 (.p 6 (.p 7 (.p 8 (.p 9 (.p 10 (.p 11 (.p 12 (.p 13 (.f 4 (.m 14 (.p 15 (.p 16 (.p 17 (.p 18 (.p 19 (.p 20 (.p 22 (.p 23 (.p 24 (.p 25 (.p 26 (.f 21 (.p 27 (.p 28 .done))))))))))))))))))))))))))))) (by kernel_rfl) (fun K hK => ?_)
      (refine Qq rfl rfl rfl ?_; refine Qk ineq rfl rfl rfl rfl ?_; refine Qq rfl rfl rfl ?_)
      refine QJ rfl rfl rfl (by with_reducible exact fIv1) rfl ?_
      (refine Qq rfl rfl rfl ?_; refine Qq rfl rfl rfl ?_; refine Qk (isub (by omega) (by omega)) rfl rfl rfl rfl ?_; refine Qq rfl rfl rfl ?_; refine Qq rfl rfl rfl ?_; refine Ops.max2 rfl rfl rfl rfl ?_; refine Ops.min2 rfl rfl rfl rfl ?_; refine Qq rfl rfl rfl ?_; refine Qk igtr rfl rfl rfl rfl ?_; refine QX rfl rfl rfl rfl rfl (by with_reducible first | exact lInt | exact lAddr | exact lBool1 | exact lRess) rfl ?_)
      refine QV goDbit (Dbit_ok _) rfl rfl rfl rfl ?_
      rw [hm, if_neg (fun h => by have := of_decide_eq_true h; omega)]
      refine Qk (imul (p := 0) (q := 0) (by omega) (by omega)) rfl rfl rfl rfl ?_
      (refine Qk (iadd (by omega) (by omega)) rfl rfl rfl rfl ?_; refine Qk ineq rfl rfl rfl rfl ?_; refine Q6 rfl rfl rfl rfl ?_; refine Qq rfl rfl rfl ?_)
      refine Qf 101 rfl (fun g => absurd (show hi' = tn - tl + 0 * 0 by omega) g) (fun _ => ?_)
      refine QJ rfl rfl rfl (by with_reducible exact fIv0) rfl ?_
      (refine Qq rfl rfl rfl ?_; refine Qq rfl rfl rfl ?_; refine Qk (isub (by omega) (by omega)) rfl rfl rfl rfl ?_; refine Qq rfl rfl rfl ?_; refine Qk (isub (by omega) (by omega)) rfl rfl rfl rfl ?_; refine QX rfl rfl rfl rfl rfl (by with_reducible first | exact lInt | exact lAddr | exact lBool1 | exact lRess) rfl ?_; refine Qk ineq rfl rfl rfl rfl ?_; refine Q6 rfl rfl rfl rfl ?_; refine Qj (hK _ _ (Qz ?_)); clear hK K)
      refine Q2 rfl (fun g => absurd (show lo' = tn - tl - q by omega) g) (fun _ => ?_)
      (refine QK ?_)
      exact Xv hM () trivial (Qu rfl ⟨rfl, rfl, rfl, rfl, rfl, trivial⟩)
    · rw [if_neg h0] at hhi
      have hm : min q (max tl 0) = q := by rw [Int.max_eq_left (by omega), Int.min_eq_left (by omega)]
      (refine Qy ?_)
      refine Xw (by with_reducible exact mixed) 29 (.p 0 (.p 1 (.p 2 (.p 3 (.p 5 (.p 6 (.p 7 (.p 8 (.p 9 (.p 10 (.p 11 (.p 12 (.p 13 (.f 4 (.m 14 (.p 15 (.p 16 (.p 17 (.p 18 (.p 19 (.p 20 (.p 22 (.p 23 (.p 24 (.p 25 (.p 26 (.f 21 (.p 27 (.p 28 .done))))))))))))))))))))))))))))) (by kernel_rfl) (fun K hK => ?_)
      (refine Qq rfl rfl rfl ?_; refine Qk ineq rfl rfl rfl rfl ?_; refine Qq rfl rfl rfl ?_)
      refine QJ rfl rfl rfl (by with_reducible exact fIv1) rfl ?_
      (refine Qq rfl rfl rfl ?_; refine Qq rfl rfl rfl ?_; refine Qk (isub (by omega) (by omega)) rfl rfl rfl rfl ?_; refine Qq rfl rfl rfl ?_; refine Qq rfl rfl rfl ?_; refine Ops.max2 rfl rfl rfl rfl ?_; refine Ops.min2 rfl rfl rfl rfl ?_; refine Qq rfl rfl rfl ?_; refine Qk igtr rfl rfl rfl rfl ?_; refine QX rfl rfl rfl rfl rfl (by with_reducible first | exact lInt | exact lAddr | exact lBool1 | exact lRess) rfl ?_)
      refine QV goDbit (Dbit_ok _) rfl rfl rfl rfl ?_
      rw [hm, if_pos (decide_eq_true (show (0 : Int) < (i : Int) by omega))]
      refine Qk (imul (p := q) (q := 1) (by omega) (by omega)) rfl rfl rfl rfl ?_
      (refine Qk (iadd (by omega) (by omega)) rfl rfl rfl rfl ?_; refine Qk ineq rfl rfl rfl rfl ?_; refine Q6 rfl rfl rfl rfl ?_; refine Qq rfl rfl rfl ?_)
      refine Qf 101 rfl (fun g => absurd (show hi' = tn - tl + q * 1 by omega) g) (fun _ => ?_)
      refine QJ rfl rfl rfl (by with_reducible exact fIv0) rfl ?_
      (refine Qq rfl rfl rfl ?_; refine Qq rfl rfl rfl ?_; refine Qk (isub (by omega) (by omega)) rfl rfl rfl rfl ?_; refine Qq rfl rfl rfl ?_; refine Qk (isub (by omega) (by omega)) rfl rfl rfl rfl ?_; refine QX rfl rfl rfl rfl rfl (by with_reducible first | exact lInt | exact lAddr | exact lBool1 | exact lRess) rfl ?_; refine Qk ineq rfl rfl rfl rfl ?_; refine Q6 rfl rfl rfl rfl ?_; refine Qj (hK _ _ (Qz ?_)); clear hK K)
      refine Q2 rfl (fun g => absurd (show lo' = tn - tl - q by omega) g) (fun _ => ?_)
      (refine QK ?_)
      exact Xv hM () trivial (Qu rfl ⟨rfl, rfl, rfl, rfl, rfl, trivial⟩)
  (refine Qx (fun K hK => ?_); refine Qq rfl rfl rfl ?_; refine Qv rfl rfl rfl ?_; refine Qj (hK _ _ (Qz ?_)); clear hK K; refine Qx (fun K hK => ?_); refine Qk (iadd (by omega) (by omega)) rfl rfl rfl rfl ?_; refine Qq rfl rfl rfl ?_; refine Qj (hK _ _ (Q7 ?_)); clear hK K)
  refine XQ 3 ?_
  refine XQ 2 ?_
  refine Qb (i + 1) (by omega) (by omega) (by exact Qu rfl ⟨rfl, rfl, rfl, rfl, by simp only [Int.natCast_add]; rfl, trivial⟩)
end Go.Proofs.YtojkdfilabmafaaGreat
namespace Go.Proofs.YtojkdfilabmafaaGreat
open Go.Own Go.Limbs
section
variable {H : Type} {enc : TypeId × Value → H} {P : Program} {w : World} {base : Nat} {spare : Nat → Bool} {held : Bool}
theorem slice_in {α : Type} {t e : TypeId} {n fuel : Nat} {cs0 : List Value} {x : DataW H × List MemPlace} (ht : P.underlying t = some (.slice e)) (hn : P.cellsOf e = n) (hn0 : 0 < n) (f : α → List CT) (hf : ∀ z, (f z).length = n) (good : α → Prop)
    (hE : ∀ m cs y, DataW.trod enc P w base spare held m e cs = some y → cs.length = n → ∃ z, cells (fun _ => True) w (f z) cs ∧ good z)
    (h : DataW.trod enc P w base spare held fuel t cs0 = some x) : ∃ (v : Value) (zs : List α), cs0 = [v] ∧ zs.length ≤ 9223372036854775807 ∧ (∀ z ∈ zs, good z) ∧ (CT.fr (sliceT n (zs.map f))).p (fun _ => True) w v := by
  rcases DataW.trod_slice ht h with ⟨h0, _⟩ | ⟨a, len, cap, elems, rest, m, _, rfl, rfl, _, hl, hm, hlen, hel, _⟩
  · exact ⟨_, [], h0, Nat.zero_le _, (fun z hz => nomatch hz), nil_is n _ w⟩
  rw [hn] at hel
  have key : ∀ k, k ≤ len → ∃ (zs : List α) (vs : List Value), zs.length = k ∧ (∀ z ∈ zs, good z) ∧ cells (fun _ => True) w (zs.map f).flatten vs ∧ vs.length = k * n ∧ ∀ i u, vs[i]? = some u → w.cell? (a.add i) = some u := by
    intro k
    induction k with
    | zero => intro _; exact ⟨[], [], rfl, (fun z hz => nomatch hz), trivial, (Nat.zero_mul n).symm, fun i u hu => by simp at hu⟩
    | succ k ih =>
      intro hk
      obtain ⟨zs, vs, e1, e2, e3, e4, e5⟩ := ih (by omega)
      have h1 := hel k (by omega)
      rw [List.getElem?_eq_getElem (show k < elems.length by omega), Option.bind_eq_some_iff] at h1
      obtain ⟨cs, h2, h3⟩ := h1
      obtain ⟨_, h4, h5⟩ := World.cells?_some h2
      obtain ⟨z, h6, h7⟩ := hE _ _ _ h3 h4
      refine ⟨zs ++ [z], vs ++ cs, by simp [e1], ?_, ?_, by rw [List.length_append, e4, h4, Nat.succ_mul], ?_⟩
      · intro y hy
        rcases List.mem_append.1 hy with hy | hy
        · exact e2 y hy
        · rw [List.mem_singleton.1 hy]; exact h7
      · rw [List.map_append, List.flatten_append]
        refine cells.append e3 ?_
        simpa using h6
      · intro i u hu
        rcases Nat.lt_or_ge i (k * n) with hi | hi
        · rw [List.getElem?_append_left (by omega)] at hu
          exact e5 i u hu
        · rw [List.getElem?_append_right (by omega), e4] at hu
          have hlt : i - k * n < n := by
            have := (List.getElem?_eq_some_iff.1 hu).1
            omega
          have := h5 (i - k * n) hlt
          rw [Addr.add_add, show k * n + (i - k * n) = i by omega] at this
          rw [this, hu]
  obtain ⟨zs, vs, e1, e2, e3, e4, e5⟩ := key len (Nat.le_refl _)
  have hmx : maxLen = 9223372036854775807 := by decide
  refine ⟨_, zs, rfl, by omega, e2, some a, cap, by rw [List.length_map, e1], by rw [List.length_map, e1]; exact hl, hm, fun y hy => by obtain ⟨z, _, rfl⟩ := List.mem_map.1 hy; exact hf z, fun hne => ?_⟩
  have hpos : 0 < len := by
    rcases Nat.eq_zero_or_pos len with h0 | h0
    · rw [h0] at e1; rw [List.length_eq_zero_iff.1 e1] at hne; exact absurd rfl hne
    · exact h0
  have hvl : 0 < vs.length := by rw [e4]; exact Nat.mul_pos hpos hn0
  have h0 := e5 0 _ (List.getElem?_eq_getElem hvl)
  obtain ⟨b, o, sp⟩ := a
  have hsp : sp = none ∧ b < w.heap.size := by
    simp only [Addr.add, if_true, World.cell?] at h0
    cases e : w.heap[b]? with
    | none => rw [e] at h0; cases h0
    | some ob =>
      rw [e] at h0
      cases ob with
      | cells c t r =>
        refine ⟨?_, ZZ e⟩
        cases sp with
        | none => rfl
        | some q => simp at h0
      | _ => cases h0
  obtain ⟨rfl, hb⟩ := hsp
  refine ⟨b, o, rfl, trivial, hb, vs, e3, fun i u hu => ?_⟩
  have h1 := e5 i u hu
  have h3 : (⟨b, o, none⟩ : Addr).add i = ⟨b, o + i, none⟩ := by
    unfold Addr.add
    split
    · rename_i h; subst h; rfl
    · rfl
  rw [h3] at h1
  exact h1
theorem bytes_in {t e : TypeId} {fuel : Nat} {cs0 : List Value} {x : DataW H × List MemPlace} (ht : P.underlying t = some (.slice e)) (he : P.underlying e = some (.int .u8)) (hn : P.cellsOf e = 1)
    (h : DataW.trod enc P w base spare held fuel t cs0 = some x) : ∃ (v : Value) (zs : List Int), cs0 = [v] ∧ (∀ z ∈ zs, 0 ≤ z ∧ z < 256) ∧ (bytesC zs).p (fun _ => True) w v := by
  obtain ⟨v, zs, h1, _, h2, h3⟩ := slice_in ht hn (by decide) (fun z : Int => [CT.ex (Value.int .u8 z)]) (fun _ => rfl) (fun z => 0 ≤ z ∧ z < 256) (fun m cs y hy _ => by
    obtain ⟨z, rfl, _, hw⟩ := DataW.trod_int he hy
    exact ⟨z, ⟨rfl, trivial⟩, by have := bounds_u8 hw; omega⟩) h
  exact ⟨v, zs, h1, h2, h3⟩
end
end Go.Proofs.YtojkdfilabmafaaGreat
namespace Go.Proofs.YtojkdfilabmafaaGreat.delayOne
open Go.ChangeShapes Go.WideShapes Go.ChangeAt Go.RowKit
open Go.ChangeMaps (open_string shut_string)
set_option linter.unusedVariables false
theorem byte_range {a : Int} (h : (Lit.int .u8 a).wf = true) : 0 ≤ a ∧ a < 256 := by
  simp only [Lit.wf, Bool.and_eq_true, decide_eq_true_eq] at h
  exact ⟨h.1, by have := h.2; rw [show IntKind.u8.max = 255 from rfl] at this; omega⟩
theorem own : ownKnob Tryz.prog.godebug = none := by kernel_rfl
theorem laidOut : laidOutB Tryz.prog = true := by kernel_rfl
set_option maxRecDepth 100000 in
theorem lifted (os : Os) (started : os.Started) (H : Type) (enc : TypeId × Value → H) :
    ReturnsInHanded {} Tryz.checked os 4 .any (Rows.delayOneSpec.pre6 enc Tryz.prog Tryz.f4 Rows.delayOneRow.domain false) (Rows.delayOneSpec.post enc Tryz.prog Tryz.f4 false true false false) := by
  refine returnsInHanded_of_change (C := Tryz.checked) own started (by kernel_rfl) Tryz.func4
    (ChangeSpec.witness6 (enc := enc) (C := Tryz.checked) false ⟨#[], #[.slice none 0 0, .int .u8 0], []⟩ 8 (by kernel_rfl) (by kernel_rfl) (by kernel_rfl) (by kernel_rfl)) ?_
  intro W base args ds gs before hval0 hW hcnd _
  have hval : ∀ (j : Nat) t v, Tryz.f4.params[j]? = some t → args[j]? = some v → Value.okWide Tryz.prog W .any base t v := hval0
  have hW' := hW
  obtain ⟨p, q, hA0, hV, rfl, hfz, hnd⟩ := hW
  have hA : DataW.TrodAll enc Tryz.prog W 0 (fun _ => true) true Tryz.f4.params.toList args.toList ds p := hA0
  rw [Tryz.params4] at hA hval
  obtain ⟨v0, vs0, d0, ds0, p0, q0, hargs0, rfl, rfl, h0, r0⟩ := trodAll_cons hA
  obtain ⟨v1, vs1, d1, ds1, p1, q1, hargs1, rfl, rfl, h1, r1⟩ := trodAll_cons r0
  obtain ⟨rfl, rfl, rfl⟩ := trodAll_nil r1
  obtain rfl : args = #[v0, v1] := by cases args; simp_all
  obtain ⟨rfl, rfl⟩ := trodVars_none hV
  obtain ⟨a0, len0, cap0, rfl⟩ := okWide_slice Tryz.underlying22 (hval 0 22 v0 rfl rfl)
  have k0 := h0
  have lt0 : ∀ x ∈ p0, x.block < W.heap.size := by obtain ⟨m, hm⟩ := k0; exact DataW.trod_lt m _ _ _ hm
  obtain ⟨f0, t0⟩ := h0
  obtain ⟨u0, z0, e0, c0, w0⟩ := bytes_in Tryz.underlying22 Tryz.underlying5 (by kernel_rfl) t0
  have e0 : Value.slice a0 len0 cap0 = u0 := by simpa [Value.cells] using e0
  subst e0
  obtain ⟨a1, rfl, rfl, rfl, w1⟩ := open_int Tryz.underlying5 (hval 1 5 v1 rfl rfl) h1
  clear hA0 hval0
  refine (((DelayOne_ok z0 a1 c0 (byte_range w1)) (fun _ => True) W [.slice a0 len0 cap0, .int .u8 a1] (fun _ _ => trivial) ⟨w0, rfl, trivial⟩)).mono fun e W' ⟨v, he, hv, bel⟩ => ?_
  have hv : v = .bool true := hv
  subst hv he
  exact ⟨_, rfl, _, _, _, [], _, [], hW', trodAll_mk1 (shut_bool Tryz.underlying4 _), (trodAll_cons_mk (Below.trod laidOut (by kernel_rfl) (of_decide_eq_true (by kernel_rfl)) k0 bel.kit lt0) (trodAll_cons_mk (shut_int Tryz.underlying5 w1) trodAll_mk0)), rfl, bel.kit.frame _, fun h => by cases h⟩
theorem over : Rows.delayOneRow.holds Tryz.pinned (OpenSpec.ofChange Rows.delayOneSpec) :=
  OpenClaim.holds_of_wide 4 Tryz.f4 rfl rfl rfl rfl rfl rfl rfl ⟨rfl, rfl, rfl, rfl, rfl⟩ rfl rfl rfl rfl rfl (by kernel_rfl) Tryz.func4 (by kernel_rfl)
    (of_decide_eq_true (by kernel_rfl)) (by unfold Func.isWrapper; first | (rw [if_pos (by decide +kernel)]; kernel_rfl) | (rw [if_neg (by decide +kernel)]; exact ⟨rfl, rfl⟩))
    (fun os started H enc _ => lifted os started H enc)
theorem proved : Rows.DelayOneSaid := over
#print axioms proved
end Go.Proofs.YtojkdfilabmafaaGreat.delayOne
