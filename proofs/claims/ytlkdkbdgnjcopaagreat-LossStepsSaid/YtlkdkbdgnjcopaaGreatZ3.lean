/- The proof that LossSteps holds for every input, without conditions: part 3 of 6. -/
import Derived.Test.YtlkdkbdgnjcopaaGreatZ2
import Derived.Shelf.SlLaysF0
namespace Go.Limbs
theorem row_at {α : Type} (D l : List α) (q : Nat) (z : α) (h : D.length ≤ q) : (D ++ l.drop D.length).getD q z = l.getD q z := by
  rw [List.getD_eq_getElem?_getD, List.getElem?_append_right h, List.getElem?_drop, List.getD_eq_getElem?_getD, show D.length + (q - D.length) = q by omega]
theorem row_set {α : Type} (D l : List α) (x : α) (h : D.length < l.length) : (D ++ l.drop D.length).set D.length x = (D ++ [x]) ++ l.drop (D ++ [x]).length := by
  rw [List.set_append_right _ _ (Nat.le_refl _), Nat.sub_self, List.length_append, List.length_singleton, List.drop_eq_getElem_cons h, List.set_cons_zero, List.append_assoc]; rfl
end Go.Limbs
namespace Go.Proofs.YtlkdkbdgnjcopaaGreat
open Go.Own Go.Limbs
attribute [local irreducible] St Ops Go.Own.Fin Ok OkB OkN OkT OkL OkF
theorem rss_take (l : List Rs) (i : Nat) : (rss l).take (i * 17) = rss (l.take i) := el_take Z7 l i
section
variable {X : Ctx} {L : AL} {B : BL} {ops : Array Oper} {K : Act → World → Prop} {r : Pl} {k : Kd}
  {x y z : Operand} {d : Nat} {t t2 t' : TypeId} {pos : String} {af : Array Edge} {g : Option (Nat × Bool)}
theorem neRs' (p q : Rs) (hg : gd ops L g = some true) (hx : ev L x = some (.ct (rsC p))) (hy : ev L y = some (.ct (rsC q))) (hP : X.P = Tryz.prog) (hn : Nat.blt d X.n = true)
    (h : Ops X ops r ((d, .ct (boolC (decide (¬ p = q)))) :: L) B K) : Ops X ops (.cons ⟨some d, .binOp .neq 35 x y t2, t', pos, af, g⟩ k r) L B K :=
  neRs p q hg hx hy hP hn (by rw [← decide_not]; exact h)
end
theorem goCompact_Rs : InGo Tryz.prog 90 := InGo.of Tryz.func90 (by kernel_rfl) (by kernel_rfl)
set_option maxHeartbeats 4000000 in
theorem Compact_Rs_ok (l : List Rs) (hl : l.length ≤ 100000) : OkT Tryz.prog 90 35 17 (rss l) [] (rss (dd l)) := by
  refine OkT.enter Tryz.func90 J _ Tryz.ntmps90 J ?_
  intro S w h0; refine Qw (Qx fun K hK => ?_); refine Qv J J J (Qj (hK _ _ (Qz (Qw (Qw ?_))))); clear hK K; refine Qx (fun K hK => ?_); refine Qq J J J (ZZ l.length J J J (by decide) (rss_len l) sRes.und J ?_); refine Qk ilss J J J J (Qj (hK _ _ (Qz ?_))); clear hK K; refine Q2 J (fun h => ?_) (fun h => ?_)
  · rw [dd_small (l := l) (by omega)]; refine Qw (Qx fun K hK => ?_); refine Qq J J J (Qv J J J (Qj (hK _ _ (Qz (Q0 (QZ ?_)))))); clear hK K; refine Fin.retT J J J
  refine Q1 (Qz (Qw (Qw (Qx fun K hK => ?_)))); refine Qv J J J (Qj (hK _ _ (Qz (Q5 ?_)))); clear hK K
  refine Xx (α := Nat) (fun i => i + 1 ≤ l.length ∧ dd (l.take (i + 1)) = l.take (i + 1))
    (fun i => [(0, .own 0), (3, .ct (intC (i + 1)))]) (fun _ => [(0, .row 35 17 (rss l))]) (fun i => l.length - i) 0 ⟨by omega, dd_small (by rw [List.length_take]; omega)⟩ (by exact QX J ⟨rfl, rfl, trivial⟩) ?_
  rintro i ⟨hi, hd⟩
  try dsimp only at hi hd
  try dsimp only
  refine Qw (Qw (Qx fun K hK => ?_)); refine Qq J J J (Qq J J J (ZZ l.length J J J (by decide) (rss_len l) sRes.und J ?_)); refine Qk ilss J J J J (Qj (hK _ _ (Qz ?_))); clear hK K; refine Q2 J (fun h => ?_) (fun h => ?_); rotate_left
  · have e : dd l = l := by
      have := hd; rw [List.take_of_length_le (by omega)] at this; exact this
    rw [e]; refine Qs (Qz (Qw (Qx fun K hK => ?_))); refine Qq J J J (Qv J J J (Qj (hK _ _ (Qz (Q0 ?_))))); clear hK K; refine Fin.retT J J J
  refine Q1 (Qz (Qw (Q5 (Qw ?_)))); refine Xw mixed 10 (.p 0 (.p 1 (.p 2 (.p 4 (.p 5 (.p 6 (.p 7 (.f 3 (.f 8 (.p 9 .done)))))))))) (by kernel_rfl) (fun K hK => ?_); refine Qq J J J (Qq J J J (Xu l.length J J J (rss_len l) J sRes (by omega) (by omega) J ?_)); refine Qq J J J (Qq J J J (Qk (isub (by omega) (by omega)) J J J J ?_))
  refine Xu l.length J J J (rss_len l) J sRes (by omega) (by omega) J ?_
  skip
  refine ldE rsCs rs0 Z7 J J J J J (by omega) lRes J ?_
  refine ldE rsCs rs0 Z7 J J J J J (by omega) lRes J ?_
  rw [show ((i : Int) + 1).toNat = i + 1 by omega, show ((i : Int) + 1 - 1).toNat = i by omega]; generalize hx : l.getD i rs0 = x; generalize hy : l.getD (i + 1) rs0 = y; refine eqRs y x J J J J J (Qj (hK _ _ (Qz ?_))); clear hK K; have hs := dd_step (l := l) (z := rs0) (p := i + 1) (by omega) (by omega); rw [show i + 1 - 1 = i by omega, hx, hy] at hs; refine Q2 J (fun he => ?_) (fun he => ?_); rotate_left
  · refine Q1 (Qz (Qx fun K hK => ?_)); refine Qq J J J (Qk (iadd (by omega) (by omega)) J J J J ?_); refine Qv J J J (Qj (hK _ _ (Q4 ?_))); clear hK K; refine Q8 (i + 1) (by omega) ⟨by omega, ?_⟩ (by exact QX J ⟨rfl, by simp only [Int.natCast_add]; rfl, trivial⟩); rw [hs, if_neg he, hd, List.take_add_one (i := i + 1), List.getElem?_eq_getElem (by omega), ← hy, List.getD_eq_getElem?_getD, List.getElem?_eq_getElem (by omega)]; rfl
  rw [if_pos he, hd] at hs; refine St.nameS 0 0 l.length J J (rss_len l) (by omega) (by decide) (fun gb c hc1 hc2 => ?_); refine Qw (Qx fun K hK => ?_); refine Qq J J J (Qq J J J (Ops.cutKl (i + 1) J J J (by omega) sRes (by omega) J ?_)); rw [if_neg (show ¬ c = i + 1 by omega), Nat.zero_add]; refine Qv J J J (Qj (hK _ _ (Qz (Qw (Qw ?_))))); clear hK K; refine Qx (fun K hK => ?_); refine Qv J J J (Qj (hK _ _ (Qz (Q5 ?_)))); clear hK K
  refine Xx (α := Nat) (fun j => i + 2 + j ≤ l.length ∧ (dd (l.take (i + 2 + j))).length < i + 2 + j)
    (fun j => [(0, .ct (.ex (kh gb 0 l.length c))), (3, .ct (intC (dd (l.take (i + 2 + j))).length)), (4, .ct (.ex (kh gb ((i + 1) * 17) (l.length - (i + 1)) (c - (i + 1))))), (5, .ct (intC (j + 1)))])
    (fun j => [(0, .rowx (kh gb 0 l.length c) 35 17 (rss (dd (l.take (i + 2 + j)) ++ l.drop (dd (l.take (i + 2 + j))).length)))]) (fun j => l.length - j) 0
    ⟨by omega, by rw [Nat.add_zero, hs, List.length_take]; omega⟩ (by
      rw [Nat.add_zero, hs, List.length_take, Nat.min_eq_left hi, List.take_append_drop]
      exact QX J ⟨rfl, rfl, rfl, rfl, trivial⟩) ?_
  clear hs
  rintro j ⟨hj, hD⟩
  try dsimp only at hj hD
  try dsimp only
  have hs := dd_step (l := l) (z := rs0) (p := i + 2 + j) (by omega); generalize hDD : dd (l.take (i + 2 + j)) = D at hs hD ⊢
  have hrl : (D ++ l.drop D.length).length = l.length := by rw [List.length_append, List.length_drop]; omega
  have hat : ∀ q, D.length ≤ q → (D ++ l.drop D.length).getD q rs0 = l.getD q rs0 := fun q hq => row_at D l q rs0 hq
  refine Qw (Qw (Qx fun K hK => ?_)); refine Qq J J J (Qq J J J (Ops.lenKv J J sRes.und J (Qk ilss J J J J (Qj (hK _ _ (Qz ?_)))))); clear hK K; refine Q2 J (fun h2 => ?_) (fun h2 => ?_)
  · refine Q1 (Qz (Qw (Q5 (Qw ?_)))); refine Xw mixed 10 (.p 0 (.p 1 (.p 2 (.p 4 (.p 5 (.p 6 (.p 7 (.f 3 (.f 8 (.p 9 .done)))))))))) (by kernel_rfl) (fun K hK => ?_); refine Qq J J J (Qq J J J (YK 0 (i + 1) J J J J sRes (by omega) (by omega) J ?_)); refine Qq J J J (Qq J J J (Qk (isub (by omega) (by omega)) J J J J ?_))
    refine YK 0 (i + 1) J J J J sRes (by omega) (by omega) J ?_
    skip
    refine ldE rsCs rs0 Z7 J J J J J (by omega) lRes J ?_
    refine ldE rsCs rs0 Z7 J J J J J (by omega) lRes J ?_
    rw [show i + 1 + ((j : Int) + 1).toNat = i + 2 + j by omega, show i + 1 + ((j : Int) + 1 - 1).toNat = i + 2 + j - 1 by omega, hat _ (by omega), hat _ (by omega)]; have hs := hs (by omega); generalize hx2 : l.getD (i + 2 + j - 1) rs0 = x2 at hs ⊢; generalize hy2 : l.getD (i + 2 + j) rs0 = y2 at hs ⊢; refine neRs' y2 x2 J J J J J (Qj (hK _ _ (Qz ?_))); clear hK K; refine Q2 J (fun he2 => ?_) (fun he2 => ?_)
    · rw [if_neg he2] at hs; refine Qw (Qx fun K hK => ?_); refine Qq J J J (Qq J J J (Qq J J J (Qq J J J (YK 0 (i + 1) J J J J sRes (by omega) (by omega) J ?_))))
      refine ldE rsCs rs0 Z7 J J J J J (by omega) lRes J ?_
      rw [show i + 1 + ((j : Int) + 1).toNat = i + 2 + j by omega, hat _ (by omega), hy2]
      refine YK 0 0 J J J J sRes (by omega) (by omega) J ?_
      rw [Nat.zero_add, show ((D.length : Int)).toNat = D.length by omega]
      refine stEX rsCs y2 Z7 J J J J J (by omega) Z4 ?_
      rw [row_set D l y2 (by omega)]; refine Qj (hK _ _ (Qz ?_)); clear hK K; refine Qx (fun K hK => ?_); refine Qq J J J (Qk (iadd (by omega) (by omega)) J J J J ?_); refine Qv J J J (Qj (hK _ _ (Qz ?_))); clear hK K; refine Qx (fun K hK => ?_); refine Qq J J J (Qk (iadd (by omega) (by omega)) J J J J ?_); refine Qv J J J (Qj (hK _ _ (Q4 ?_))); clear hK K
      refine Q8 (j + 1) (by omega) ⟨by omega, by show (dd (l.take (i + 2 + j + 1))).length < _; rw [hs, List.length_append]; show D.length + 1 < _; omega⟩ ?_
      rw [show i + 2 + (j + 1) = i + 2 + j + 1 by omega, hs, List.length_append]; exact QX J ⟨rfl, by simp only [Int.natCast_add]; rfl, rfl, by simp only [Int.natCast_add]; rfl, trivial⟩
    · rw [if_pos (Decidable.not_not.1 he2)] at hs; refine Q1 (Qz (Qx fun K hK => ?_)); refine Qq J J J (Qk (iadd (by omega) (by omega)) J J J J ?_); refine Qv J J J (Qj (hK _ _ (Q4 ?_))); clear hK K
      refine Q8 (j + 1) (by omega) ⟨by omega, by show (dd (l.take (i + 2 + j + 1))).length < _; rw [hs]; omega⟩ ?_
      rw [show i + 2 + (j + 1) = i + 2 + j + 1 by omega, hs]; exact QX J ⟨rfl, rfl, rfl, by simp only [Int.natCast_add]; rfl, trivial⟩
  · have e : dd l = D := by rw [← hDD, List.take_of_length_le (by omega)]
    rw [e]; refine Qs (Qz (Qw (Qx fun K hK => ?_))); refine Qq J J J (Qq J J J (Ops.cutKl D.length J J J J sRes (by omega) J ?_)); skip
    refine Ops.cutOff 0 D.length J (by show (rss _).length = _; rw [rss_len, hrl]) (by decide) (by omega) (by show (rss _).take _ = rss D; rw [rss_take, List.take_left]) ?_
    refine Ops.clearK 0 J J (by split <;> omega) J (rss_len D) (by omega) sRes (by decide) ?_
    refine Qj (hK _ _ (Qz (Qw ?_))); clear hK K; refine Qx (fun K hK => ?_); refine Qq J J J (Qq J J J (Ops.cutKh D.length J J J J sRes (by omega) J ?_)); refine Qv J J J (Qj (hK _ _ (Qz (Q0 (Q3 (QZ (QZ (Q3 (QZ ?_))))))))); clear hK K; refine Fin.link 2 0 J J (Fin.retT J J J)
end Go.Proofs.YtlkdkbdgnjcopaaGreat
namespace Go.Proofs.YtlkdkbdgnjcopaaGreat
open Go.Shelf
def laySortR_ren : Go.Shelf.Ren := ⟨fun | 6 => 88 | 15 => 118 | 14 => 126 | 28 => 155 | 29 => 156 | 20 => 161 | 21 => 162 | 22 => 163 | 23 => 164 | 24 => 165 | 25 => 166 | 26 => 167 | 27 => 168 | 46 => 194 | 47 => 182 | 48 => 183 | 49 => 195 | 50 => 196 | 57 => 202 | n => n, fun | 22 => 29 | 24 => 35 | 25 => 143 | 3 => 3 | 39 => 172 | 0 => 0 | 53 => 26 | 55 => 153 | 4 => 4 | 46 => 201 | 45 => 200 | 50 => 205 | 5 => 5 | 9 => 9 | 66 => 227 | 70 => 231 | 76 => 240 | 77 => 241 | n => n, fun | n => n⟩
theorem laySortR : Go.Proofs.SlLaysF0.n6 Tryz.prog laySortR_ren := {
  mixed := by kernel_rfl
  f6 := ⟨Tryz.f88.name, by decide, Tryz.func88.trans (congrArg some (by kernel_rfl))⟩
  f14 := ⟨Tryz.f126.name, by decide, Tryz.func126.trans (congrArg some (by kernel_rfl))⟩
  f15 := Tryz.func118.trans (congrArg some (by kernel_rfl))
  f20 := ⟨Tryz.f161.name, by decide, Tryz.func161.trans (congrArg some (by kernel_rfl))⟩
  f21 := ⟨Tryz.f162.name, by decide, Tryz.func162.trans (congrArg some (by kernel_rfl))⟩
  f22 := ⟨Tryz.f163.name, by decide, Tryz.func163.trans (congrArg some (by kernel_rfl))⟩
  f23 := ⟨Tryz.f164.name, by decide, Tryz.func164.trans (congrArg some (by kernel_rfl))⟩
  f24 := ⟨Tryz.f165.name, by decide, Tryz.func165.trans (congrArg some (by kernel_rfl))⟩
  f25 := ⟨Tryz.f166.name, by decide, Tryz.func166.trans (congrArg some (by kernel_rfl))⟩
  f26 := ⟨Tryz.f167.name, by decide, Tryz.func167.trans (congrArg some (by kernel_rfl))⟩
  f27 := ⟨Tryz.f168.name, by decide, Tryz.func168.trans (congrArg some (by kernel_rfl))⟩
  f28 := Tryz.func155.trans (congrArg some (by kernel_rfl))
  f29 := Tryz.func156.trans (congrArg some (by kernel_rfl))
  f46 := ⟨Tryz.f194.name, by decide, Tryz.func194.trans (congrArg some (by kernel_rfl))⟩
  f47 := Tryz.func182.trans (congrArg some (by kernel_rfl))
  f48 := Tryz.func183.trans (congrArg some (by kernel_rfl))
  f49 := ⟨Tryz.f195.name, by decide, Tryz.func195.trans (congrArg some (by kernel_rfl))⟩
  f50 := ⟨Tryz.f196.name, by decide, Tryz.func196.trans (congrArg some (by kernel_rfl))⟩
  f57 := ⟨Tryz.f202.name, by decide, Tryz.func202.trans (congrArg some (by kernel_rfl))⟩
  t0 := Tryz.underlying0
  a0 := Tryz.isAgg0
  z0 := Tryz.sizeOf0
  v0 := Tryz.zeroValue0
  t3 := Tryz.underlying3
  a3 := Tryz.isAgg3
  z3 := Tryz.sizeOf3
  v3 := Tryz.zeroValue3
  t4 := Tryz.underlying4
  a4 := Tryz.isAgg4
  z4 := Tryz.sizeOf4
  v4 := Tryz.zeroValue4
  t5 := Tryz.underlying5
  a5 := Tryz.isAgg5
  z5 := Tryz.sizeOf5
  v5 := Tryz.zeroValue5
  t9 := Tryz.underlying9
  a9 := Tryz.isAgg9
  z9 := Tryz.sizeOf9
  v9 := Tryz.zeroValue9
  t22 := Tryz.underlying29
  a22 := Tryz.isAgg29
  z22 := Tryz.sizeOf29
  v22 := Tryz.zeroValue29
  t25 := Tryz.underlying143
  a25 := Tryz.isAgg143
  z25 := Tryz.sizeOf143
  v25 := Tryz.zeroValue143
  t39 := Tryz.underlying172
  a39 := Tryz.isAgg172
  z39 := Tryz.sizeOf172
  v39 := Tryz.zeroValue172
  t45 := Tryz.underlying200
  a45 := Tryz.isAgg200
  z45 := Tryz.sizeOf200
  v45 := Tryz.zeroValue200
  t46 := Tryz.underlying201
  a46 := Tryz.isAgg201
  z46 := Tryz.sizeOf201
  v46 := Tryz.zeroValue201
  t50 := Tryz.underlying205
  a50 := Tryz.isAgg205
  z50 := Tryz.sizeOf205
  v50 := Tryz.zeroValue205
  t53 := Tryz.underlying26
  a53 := Tryz.isAgg26
  z53 := Tryz.sizeOf26
  v53 := Tryz.zeroValue26
  t55 := Tryz.underlying153
  a55 := Tryz.isAgg153
  z55 := Tryz.sizeOf153
  v55 := Tryz.zeroValue153
  t66 := Tryz.underlying227
  a66 := Tryz.isAgg227
  z66 := Tryz.sizeOf227
  v66 := Tryz.zeroValue227
  t70 := Tryz.underlying231
  a70 := Tryz.isAgg231
  z70 := Tryz.sizeOf231
  v70 := Tryz.zeroValue231
  t76 := Tryz.underlying240
  a76 := Tryz.isAgg240
  z76 := Tryz.sizeOf240
  v76 := Tryz.zeroValue240
  t77 := Tryz.underlying241
  a77 := Tryz.isAgg241
  z77 := Tryz.sizeOf241
  v77 := Tryz.zeroValue241 }
end Go.Proofs.YtlkdkbdgnjcopaaGreat
namespace Go.Proofs.YtlkdkbdgnjcopaaGreat
open Go.Own Go.Limbs Go.Shelf
open Go.Sort hiding Ok
attribute [local irreducible] St Ops Go.Own.Fin Ok OkB OkN OkT OkL OkF
theorem ordR : Ord cmpR := ⟨fun _ _ => cmpL_anti _ _, fun _ _ h => rsO_inj (cmpL_eq rfl h), fun x y z h1 h2 => cmpL_trans (xs := rsO x) (ys := rsO y) (zs := rsO z) rfl rfl h1 h2⟩
abbrev cmpRV : CT := .ex (.func (.func 89) #[] #[])
theorem goSortR : InGo Tryz.prog 88 := InGo.of Tryz.func88 rfl (by decide)
theorem SortR_ok (l : List Rs) (hl : l.length < 4611686018427387904) : OkL Tryz.prog 88 35 17 (rss l) [cmpRV] unitC (rss (l.mergeSort fun x y => !(ltOf cmpR) y x)) :=
  sortFunc_L laySortR (enc := rsV) (k := 17) (cf := cmpR) (g := 89) (by decide) Tryz.isAgg35 Tryz.sizeOf35 (fun _ => rfl) (fun x v hv => by
    simp only [rsV, List.mem_cons, List.not_mem_nil, or_false] at hv
    rcases hv with rfl | rfl | rfl | rfl | rfl | rfl | rfl | rfl | rfl | rfl | rfl | rfl | rfl | rfl | rfl | rfl | rfl <;> rfl)
    ordR.swo ordR.tot goCmpR cmpR_ok 35 l hl
theorem Z9 (l : List Rs) (r : Rs) : rss (l ++ [r]) = rss l ++ rsCs r := by simp [rss]
theorem Zn {α : Type} (p : α → Bool) {l : List α} {z : α} {i : Nat} (h : i < l.length) : (l.take (i + 1)).filter p = if p (l.getD i z) = true then (l.take i).filter p ++ [l.getD i z] else (l.take i).filter p := by
  have e : l.take (i + 1) = l.take i ++ [l.getD i z] := by
    rw [List.take_add_one, List.getElem?_eq_getElem h, List.getD_eq_getElem?_getD, List.getElem?_eq_getElem h]; rfl
  rw [e, List.filter_append]; by_cases hp : p (l.getD i z) = true
  · rw [if_pos hp, List.filter_cons_of_pos hp]; rfl
  · rw [if_neg hp, List.filter_cons_of_neg hp]; simp
theorem Yu {α : Type} (p : α → Bool) (l : List α) (i : Nat) : ((l.take i).filter p).length ≤ i := Nat.le_trans (List.length_filter_le _ _) (by rw [List.length_take]; omega)
theorem goOrder : InGo Tryz.prog 45 := InGo.of Tryz.func45 rfl (by decide)
set_option maxHeartbeats 4000000 in
theorem Order_ok (l : List Rs) (hl : l.length ≤ 10000) : OkF Tryz.prog 45 [rssC l] 35 17 (rss (sd cmpR (l.filter okR))) := by
  refine OkF.enter Tryz.func45 J _ Tryz.ntmps45 J ?_
  intro S w; refine Qw (Qx fun K hK => ?_); refine Qv J J J (Qj (hK _ _ (Qz (Qw ?_)))); clear hK K; refine Qx (fun K hK => ?_); refine Qv J J J (Qj (hK _ _ (Qz (Qw (Qw ?_))))); clear hK K; refine Qx (fun K hK => ?_); refine Qq J J J (Qb J J sRes.und (List.length_map ..) J (Qq J J J (Qj (hK _ _ (Qz (Q5 ?_)))))); clear hK K
  refine Xg 3 0 35 17 J J J ?_
  refine Xx (α := Nat) (fun i => i ≤ l.length)
    (fun i => [(3, .own 0), (6, .ct (rssC l)), (7, .ct (intC l.length)), (8, .ct (intC i))]) (fun i => [(0, .row 35 17 (rss ((l.take i).filter okR)))]) (fun i => l.length - i) 0 (Nat.zero_le _) (by exact QX J ⟨rfl, rfl, rfl, rfl, trivial⟩) ?_
  intro i hi
  try dsimp only at hi
  try dsimp only
  refine Qw (Qx fun K hK => ?_); refine Qk ilss J J J J (Qj (hK _ _ (Qz (Qw ?_)))); clear hK K; refine Q2 J (fun h => ?_) (fun h => ?_)
  · have e2 : (i : Int).toNat = i := Int.toNat_natCast i; have hs := Zn okR (z := rs0) (i := i) (l := l) (by omega); have hfl := Yu okR l i; refine Q1 (Qz (Qw (Q5 (Qw (Qx fun K hK => ?_)))))
    refine Qh J J J sRes (by omega) (Xd (by omega) (by omega)) J ?_
    refine XX (n := 17) J J J lRes J J (Qg 1 J J zvRes J J J (Qa 17 J J J J J Z4 J J (Qj (hK _ _ (Qz (Qw ?_)))))); clear hK K; refine Qx (fun K hK => ?_)
    refine Q6 (n := 17) J J J J J lRes J ?_
    rw [e2]; generalize l.getD i rs0 = c at hs; skip; refine Ops.callF goValidR J (ValidR_ok c) J J J J (Qj (hK _ _ (Qz ?_))); clear hK K; refine XZ J (fun h2 => ?_) (fun h2 => ?_)
    · rw [if_pos h2] at hs; refine Qx (fun K hK => ?_); refine Qq J J J (Q6 (n := 17) J J J J J lRes J ?_); generalize (l.take i).filter okR = out at hs hfl ⊢
      refine X6 (n := 17) J J sRes J J (by decide) J ?_
      refine Qt out.length (rss (out ++ [c])) J J J J sRes (rss_len out) J (by omega) (by omega) (Z9 out c) J ?_
      refine Qv J J J (Qj (hK _ _ (Qz ?_))); clear hK K; refine Qx (fun K hK => ?_)
      refine Qk (iadd (by omega) (by omega)) J J J J ?_
      refine Qq J J J (Qj (hK _ _ (Q4 ?_))); clear hK K; refine Ql 1 (Q8 (i + 1) (by omega) (by omega) (by rw [hs]; exact QX J ⟨rfl, rfl, rfl, by simp only [Int.natCast_add]; rfl, trivial⟩))
    · rw [if_neg (by rw [h2]; decide)] at hs; refine Q1 (Qz (Qx fun K hK => ?_))
      refine Qk (iadd (by omega) (by omega)) J J J J ?_
      refine Qq J J J (Qj (hK _ _ (Q4 ?_))); clear hK K; refine Ql 1 (Q8 (i + 1) (by omega) (by omega) (by rw [hs]; exact QX J ⟨rfl, rfl, rfl, by simp only [Int.natCast_add]; rfl, trivial⟩))
  · have hi' : i = l.length := by omega
    rw [hi', List.take_length]; have hfl : (l.filter okR).length ≤ l.length := List.length_filter_le _ _; generalize l.filter okR = m at hfl ⊢; refine Qs (Qz (Qw (Qx fun K hK => ?_))); refine Qq J J J (Ops.callL goSortR (SortR_ok m (by omega)) J J J J J ?_); refine Qj (hK _ _ (Qz (Qw ?_))); clear hK K; refine Qx (fun K hK => ?_); refine Qq J J J (Ops.callT goCompact_Rs (Compact_Rs_ok _ (by rw [List.length_mergeSort]; omega)) J J J J J ?_); refine Qv J J J (Qj (hK _ _ (Qz (Q0 ?_)))); clear hK K; refine Y3 J J J J
end Go.Proofs.YtlkdkbdgnjcopaaGreat
namespace Go.Proofs.YtlkdkbdgnjcopaaGreat
open Go.Own Go.Limbs
attribute [local irreducible] St Ops Go.Own.Fin Ok OkB OkN OkT OkL OkF
theorem goUsable : InGo Tryz.prog 91 := InGo.of Tryz.func91 rfl (by decide)
theorem Usable_ok (r : Rs) : Ok Tryz.prog 91 [rsC r] (boolC (usR r)) := by
  have hV := ValidR_ok r; have e0 : usR r = (!r.db && okR r) := rfl; generalize okR r = b at hV e0
  refine Ok.enter Tryz.func91 J _ Tryz.ntmps91 J ?_
  intro S w; refine Qw (Qx fun K hK => ?_); refine Xz 0 J J J J J J J (Qv J J J (Qj (hK _ _ (Qz (Qw ?_))))); clear hK K; refine Qx (fun K hK => ?_); refine QV J J J fS9 J (QY J J J J J lBool1 J (Qm J J J (Qq J J J (X3 6 (b := !r.db) J (fun h => ?_) (fun h => ?_)))))
  · refine Q6 (n := 17) J J J J J lRes J (QW goValidR hV J J J J (QJ J J J J (Qv J J J (Qj (hK _ _ (Qz (Q0 ?_))))))); clear hK K; refine QU [_] rfl (Qu J QQ) (by rw [e0, h, Bool.true_and]; rfl) J
  · refine Qy J J J (Qy J J J (QK J J J J (Qv J J J (Qj (hK _ _ (Qz (Q0 ?_))))))); clear hK K; refine QU [_] rfl (Qu J QQ) (by rw [e0, h, Bool.false_and]; rfl) J
theorem goFinal : InGo Tryz.prog 197 := InGo.of Tryz.func197 rfl (by decide)
theorem Final_ok (r : Rs) : Ok Tryz.prog 197 [rsC r] (boolC (fiR r)) := by
  have hU := Usable_ok r; have e0 : fiR r = (r.an && (decide (r.ki ≠ 1) && usR r)) := rfl; generalize usR r = b at hU e0
  refine Ok.enter Tryz.func197 J _ Tryz.ntmps197 J ?_
  intro S w; refine Qw (Qx fun K hK => ?_); refine Xz 0 J J J J J J J (Qv J J J (Qj (hK _ _ (Qz (Qw ?_))))); clear hK K; refine Qx (fun K hK => ?_); refine QV J J J fS8 J (QY J J J J J lBool1 J (Qq J J J (X3 5 (b := r.an) J (fun h => ?_) (fun h => ?_))))
  · refine QV J J J fS11 J (XK J J fN1 J (QY J J J J J lInt J (Qk ineq J J J J (QJ J J J J (Qq J J J (Q7 11 (p := r.ki ≠ 1) J (fun h2 => ?_) (fun h2 => ?_)))))))
    · refine Q6 (n := 17) J J J J J lRes J (QW goUsable hU J J J J (QJ J J J J (Qv J J J (Qj (hK _ _ (Qz (Q0 ?_))))))); clear hK K; refine QU [_] rfl (Qu J QQ) (by rw [e0, h, decide_eq_true h2, Bool.true_and, Bool.true_and]; rfl) J
    · refine Qy J J J (Qy J J J (QK J J J J (Qv J J J (Qj (hK _ _ (Qz (Q0 ?_))))))); clear hK K; refine QU [_] rfl (Qu J QQ) (by rw [e0, h, decide_eq_false h2, Bool.true_and, Bool.false_and]; rfl) J
  · refine Qy J J J (Qy J J J (Qy J J J (Qy J J J (QK J J J J (Qq J J J (Qy J J J (Qy J J J (QK J J J J (Qv J J J (Qj (hK _ _ (Qz (Q0 ?_))))))))))))); clear hK K; refine QU [_] rfl (Qu J QQ) (by rw [e0, h, Bool.false_and]; rfl) J
abbrev tkCs (t : Tk) : List CT := [intC t.va, adrF t.ds, intC t.pr]
abbrev tkC (t : Tk) : CT := .fr (aggT (tkCs t))
theorem goTraceOf : InGo Tryz.prog 92 := InGo.of Tryz.func92 rfl (by decide)
theorem TraceOf_ok (r : Rs) : Ok Tryz.prog 92 [rsC r] (tkC (trOf r)) := by
  refine Ok.enter Tryz.func92 J _ Tryz.ntmps92 J ?_
  intro S w; refine Qw (Qx fun K hK => ?_); refine Xz 0 J J J J J J J (Qg 1 J J zvTrace J J J (Qj (hK _ _ (Qz (Qw ?_))))); clear hK K; refine Qx (fun K hK => ?_); refine QV J J J fS0 J (QY J J J J J lInt J (QV J J J fS4 J (QY J J J J J lAddr J (QV J J J fS5 J (QY J J J J J lInt J (Qi J bTrace J (.one J J J J (.one J J J J (.one J J J J .nil))) J (Qa 3 J J J J J szTrace J J (Qj (hK _ _ (Qz (Q0 ?_))))))))))); clear hK K; refine Fin.end [_] rfl (Qc (n := 3) J J Y5 J QQ) J J
structure Ik where
  va : Int
  ru : Int
  nu : Int
deriving DecidableEq
def idOf (r : Rs) : Ik := ⟨r.va, r.ru, r.nu⟩
abbrev ikCs (i : Ik) : List CT := [intC i.va, intC i.ru, intC i.nu]
abbrev ikC (i : Ik) : CT := .fr (aggT (ikCs i))
theorem lID : LdN Tryz.prog 124 3 := LdN.of _ Tryz.underlying124 rfl (by kernel_rfl)
theorem szID : (Tryz.prog.info? 124).map (·.size) = some 3 := by kernel_rfl
theorem zvID : (Tryz.prog.info? 124).map (·.zero) = some (some (.agg #[.int .i64 0, .int .i64 0, .int .i64 0])) := by kernel_rfl
theorem bID' : bInfo Tryz.prog 124 = some (.agg #[.int .i64 0, .int .i64 0, .int .i64 0], [(0, some 1), (1, some 1), (2, some 1)]) := by kernel_rfl
theorem Zh : InGo Tryz.prog 64 := InGo.of Tryz.func64 rfl (by decide)
theorem Zo (r : Rs) : Ok Tryz.prog 64 [rsC r] (ikC (idOf r)) := by
  refine Ok.enter Tryz.func64 J _ Tryz.ntmps64 J ?_
  intro S w; refine Qw (Qx fun K hK => ?_); refine Xz 0 J J J J J J J (Qg 1 J J zvID J J J (Qj (hK _ _ (Qz (Qw ?_))))); clear hK K; refine Qx (fun K hK => ?_); refine QV J J J fS0 J (QY J J J J J lInt J (QV J J J fS1 J (QY J J J J J lInt J (QV J J J fS2 J (QY J J J J J lInt J (Qi J bID' J (.one J J J J (.one J J J J (.one J J J J .nil))) J (Qa 3 J J J J J szID J J (Qj (hK _ _ (Qz (Q0 ?_))))))))))); clear hK K; refine Fin.end [_] rfl (Qc (n := 3) J J lID J QQ) J J
theorem YY {α β : Type} (f : β → α → β) (b : β) {l : List α} {z : α} {i : Nat} (h : i < l.length) : (l.take (i + 1)).foldl f b = f ((l.take i).foldl f b) (l.getD i z) := by
  have e : l.take (i + 1) = l.take i ++ [l.getD i z] := by
    rw [List.take_add_one, List.getElem?_eq_getElem h, List.getD_eq_getElem?_getD, List.getElem?_eq_getElem h]; rfl
  rw [e, List.foldl_append]; rfl
theorem goEnd : InGo Tryz.prog 169 := InGo.of Tryz.func169 rfl (by decide)
set_option maxHeartbeats 4000000 in
theorem End_ok (l : List Rs) (hl : l.length ≤ 100000) : Ok Tryz.prog 169 [rssC l] (intC (endF l)) := by
  refine Ok.enter Tryz.func169 J _ Tryz.ntmps169 J ?_
  intro S w; refine Qw (Qx fun K hK => ?_); refine Qv J J J (Qj (hK _ _ (Qz (Qw ?_)))); clear hK K; refine Qx (fun K hK => ?_); refine Qv J J J (Qj (hK _ _ (Qz (Qw (Qw ?_))))); clear hK K; refine Qx (fun K hK => ?_); refine Qq J J J (Qb J J sRes.und (List.length_map ..) J (Qq J J J (Qj (hK _ _ (Qz (Q5 ?_)))))); clear hK K
  refine Xx (α := Nat) (fun i => i ≤ l.length)
    (fun i => [(3, .ct (intC ((l.take i).foldl endS 0))), (6, .ct (rssC l)), (7, .ct (intC l.length)), (8, .ct (intC i))]) (fun _ => []) (fun i => l.length - i) 0 (Nat.zero_le _) (by exact QX J ⟨rfl, rfl, rfl, rfl, trivial⟩) ?_
  intro i hi
  try dsimp only at hi ⊢
  refine Qw (Qx fun K hK => ?_); refine Qk ilss J J J J (Qj (hK _ _ (Qz (Qw ?_)))); clear hK K; refine Q2 J (fun h => ?_) (fun h => ?_)
  · have e2 : (i : Int).toNat = i := Int.toNat_natCast i; have hs := YY endS 0 (z := rs0) (l := l) (i := i) (by omega); generalize (l.take i).foldl endS 0 = e at hs
    have next : ∀ e' : Int, endS e (l.getD i rs0) = e' → (l.take (i + 1)).foldl endS 0 = e' := fun e' h => by rw [hs, h]
    clear hs; refine Q1 (Qz (Qw (Q5 (Qw (Qx fun K hK => ?_)))))
    refine Qh J J J sRes (by omega) (Xd (by omega) (by omega)) J ?_
    refine XX (n := 17) J J J lRes J J (Qg 0 J J zvRes J J J (Qa 17 J J J J J Z4 J J (Qj (hK _ _ (Qz (Qw ?_)))))); clear hK K; refine Qx (fun K hK => ?_); refine Qq J J J (Qk ieql J J J J (Qq J J J ?_)); rw [e2]; generalize l.getD i rs0 = c at next; have hF := Final_ok c
    have es : endS e c = if (e = 0 ∨ c.tt < e) ∧ fiR c = true then c.tt else e := rfl
    generalize fiR c = fb at hF es; skip; refine Q7 14 (p := e = 0) J (fun h1 => ?_) (fun h1 => ?_)
    · refine Qy J J J (Qy J J J (Qy J J J (Qy J J J (QJ J J J J (Qq J J J (Q6 (n := 17) J J J J J lRes J (QW goFinal hF J J J J (QJ J J J J (Qj (hK _ _ (Qz ?_))))))))))); clear hK K; refine XZ J (fun h2 => ?_) (fun h2 => ?_)
      · have en := next c.tt (by rw [es, if_pos ⟨.inl h1, h2⟩]); refine Qx (fun K hK => ?_); refine QV J J J fS7 J (QY J J J J J lInt J (Qv J J J (Qj (hK _ _ (Qz ?_))))); clear hK K; refine Qx (fun K hK => ?_)
        refine Qk (iadd (by omega) (by omega)) J J J J ?_
        refine Qq J J J (Qj (hK _ _ (Q4 ?_))); clear hK K; refine Ql 0 (Q8 (i + 1) (by omega) (by omega) (by rw [en]; exact QX J ⟨rfl, rfl, rfl, by simp only [Int.natCast_add]; rfl, trivial⟩))
      · have en := next e (by rw [es, if_neg (fun h3 => by rw [h2] at h3; exact absurd h3.2 (by decide))]); refine Q1 (Qz (Qx fun K hK => ?_))
        refine Qk (iadd (by omega) (by omega)) J J J J ?_
        refine Qq J J J (Qj (hK _ _ (Q4 ?_))); clear hK K; refine Ql 0 (Q8 (i + 1) (by omega) (by omega) (by rw [en]; exact QX J ⟨rfl, rfl, rfl, by simp only [Int.natCast_add]; rfl, trivial⟩))
    · refine QV J J J fS7 J (QY J J J J J lInt J (Qq J J J (Qk ilss J J J J (QK J J J J (Qq J J J (Q7 20 (p := c.tt < e) J (fun h3 => ?_) (fun h3 => ?_)))))))
      · refine Q6 (n := 17) J J J J J lRes J (QW goFinal hF J J J J (QJ J J J J (Qj (hK _ _ (Qz ?_))))); clear hK K; refine XZ J (fun h2 => ?_) (fun h2 => ?_)
        · have en := next c.tt (by rw [es, if_pos ⟨.inr h3, h2⟩]); refine Qx (fun K hK => ?_); refine QV J J J fS7 J (QY J J J J J lInt J (Qv J J J (Qj (hK _ _ (Qz ?_))))); clear hK K; refine Qx (fun K hK => ?_)
          refine Qk (iadd (by omega) (by omega)) J J J J ?_
          refine Qq J J J (Qj (hK _ _ (Q4 ?_))); clear hK K; refine Ql 0 (Q8 (i + 1) (by omega) (by omega) (by rw [en]; exact QX J ⟨rfl, rfl, rfl, by simp only [Int.natCast_add]; rfl, trivial⟩))
        · have en := next e (by rw [es, if_neg (fun h3 => by rw [h2] at h3; exact absurd h3.2 (by decide))]); refine Q1 (Qz (Qx fun K hK => ?_))
          refine Qk (iadd (by omega) (by omega)) J J J J ?_
          refine Qq J J J (Qj (hK _ _ (Q4 ?_))); clear hK K; refine Ql 0 (Q8 (i + 1) (by omega) (by omega) (by rw [en]; exact QX J ⟨rfl, rfl, rfl, by simp only [Int.natCast_add]; rfl, trivial⟩))
      · have en := next e (by rw [es, if_neg (fun h4 => h4.1.elim h1 h3)]); refine Qy J J J (Qy J J J (QK J J J J (Qj (hK _ _ (Qz (Xv J (Q1 (Qz ?_)))))))); clear hK K; refine Qx (fun K hK => ?_)
        refine Qk (iadd (by omega) (by omega)) J J J J ?_
        refine Qq J J J (Qj (hK _ _ (Q4 ?_))); clear hK K; refine Ql 0 (Q8 (i + 1) (by omega) (by omega) (by rw [en]; exact QX J ⟨rfl, rfl, rfl, by simp only [Int.natCast_add]; rfl, trivial⟩))
  · have hi' : i = l.length := by omega
    have el : (l.take i).foldl endS 0 = endF l := by rw [hi', List.take_length]; rfl
    rw [el]; refine Qs (Qz (Qw (Qx fun K hK => ?_))); refine Qq J J J (Qv J J J (Qj (hK _ _ (Qz (Q0 ?_))))); clear hK K; refine QU [_] rfl (Qu J QQ) J J
end Go.Proofs.YtlkdkbdgnjcopaaGreat
namespace Go.Own
open Go.RowKit
def encI (ks : List IntKind) (ps : List Int) : Value := .agg ((ks.zip ps).map (fun p => Value.int p.1 p.2)).toArray
structure FlatK (P : Program) (t : TypeId) (ks : List IntKind) : Prop where
  und : ∃ fs, P.underlying t = some (.struct fs)
  eq : ∀ (ps qs : List Int) (w : World), ps.length = ks.length → qs.length = ks.length → (Op.equalIn 10000 t (encI ks ps) (encI ks qs)).run P w = .ok (decide (ps = qs)) w
  ck : ∀ (e : Bool) (ps : List Int) (w : World), ps.length = ks.length → (Instr.checkKey e 10000 t (encI ks ps)).run P w = .ok () w
theorem run_ckStruct {P : Program} {t : TypeId} {fs : Array Field} (hu : P.underlying t = some (.struct fs)) (e : Bool) (n : Nat) (xs : Array Value) (w : World)
    (h : ∀ f ∈ fs.toList, f.name ≠ "_" ∧ ∃ a, (part f.type xs f.offset).run P w = .ok a w ∧ (Instr.checkKey e n f.type a).run P w = .ok () w) : (Instr.checkKey e (n + 1) t (.agg xs)).run P w = .ok () w := by
  rw [Instr.checkKey]; simp only [Sem.run_bind, run_underlying hu, Result.andThen_ok]; rw [← Array.forIn_toList]; generalize fs.toList = L at h
  induction L with
  | nil => simp
  | cons f L ih =>
    obtain ⟨hn, a, p1, p2⟩ := h f (by simp); simp only [List.forIn_cons, Sem.run_bind, hn, ne_eq, not_false_eq_true, if_true, Result.andThen_ok, p1, p2, Sem.run_pure]; exact ih (fun y hy => h y (by simp [hy]))
theorem run_ckInt {P : Program} {t : TypeId} {k : IntKind} (hu : P.underlying t = some (.int k)) (e : Bool) (n : Nat) (v : Int) (w : World) : (Instr.checkKey e (n + 1) t (.int k v)).run P w = .ok () w := by
  simp [Instr.checkKey, run_underlying hu]
theorem ck_ints {P : Program} (e : Bool) (n : Nat) (xs : Array Value) (w : World) : ∀ (fs : List Field) (ks : List IntKind) (ps : List Int) (s : Nat), ps.length = ks.length →
    fs.map (fun f => (f.name == "_", f.offset, P.underlying f.type)) = (ks.zipIdx s).map (fun p => (false, p.2, some (TypeDesc.int p.1))) →
    (∀ j kk p, ks[j]? = some kk → ps[j]? = some p → xs[s + j]? = some (.int kk p)) → ∀ f ∈ fs, f.name ≠ "_" ∧ ∃ a, (part f.type xs f.offset).run P w = .ok a w ∧ (Instr.checkKey e (n + 1) f.type a).run P w = .ok () w
  | [], _, _, _, _, _, _, _, hf => by cases hf
  | g :: fs, [], _, _, _, h, _, _, _ => by simp at h
  | g :: fs, k :: ks, [], _, h0, _, _, _, _ => by simp at h0
  | g :: fs, k :: ks, p :: ps, s, h0, h, hx, f, hf => by
    simp only [List.map_cons, List.zipIdx_cons] at h
    injection h with h1 h2
    injection h1 with hn ho
    injection ho with ho hu
    rcases List.mem_cons.1 hf with rfl | hf
    · have hx0 := hx 0 k p rfl rfl
      rw [Nat.add_zero] at hx0
      exact ⟨by simpa using hn, _, run_part_int hu (by rw [ho]; exact hx0) w, run_ckInt hu e n p w⟩
    · exact ck_ints e n xs w fs ks ps (s + 1) (by simpa using h0) h2 (fun j kk p' a b => by rw [show s + 1 + j = s + (j + 1) by omega]; exact hx (j + 1) kk p' a b) f hf
theorem EqS.flat {P : Program} {t : TypeId} {ks : List IntKind} (h : EqS P t ks) : FlatK P t ks where
  und := ⟨_, h.und⟩
  eq ps qs w h1 h2 := h.run ps qs h1 h2 w
  ck e ps w h1 := run_ckStruct h.und e 9999 _ w (ck_ints e 9998 _ w _ ks ps 0 h1 h.fields (fun j kk p a b => by rw [Nat.zero_add, List.getElem?_toArray]; exact zip_get a b))
structure EqF (P : Program) (t ta : TypeId) (k1 k2 : List IntKind) : Prop where
  und : P.underlying t = some (.struct (P.fieldsOf t))
  held : P.stoodInHeld t = false
  fields : ((P.fieldsOf t).toList.drop 1).map (fun f => (f.name == "_", f.offset, P.underlying f.type)) = (k2.zipIdx k1.length).map (fun p => (false, p.2, some (TypeDesc.int p.1)))
  first : ((P.fieldsOf t).toList.head?).map (fun f => (f.name == "_", f.offset, f.type)) = some (false, 0, ta)
  unda : P.underlying ta = some (.struct (P.fieldsOf ta))
  helda : P.stoodInHeld ta = false
  size : (P.info? ta).map (·.size) = some k1.length
  fieldsa : (P.fieldsOf ta).toList.map (fun f => (f.name == "_", f.offset, P.underlying f.type)) = k1.zipIdx.map (fun p => (false, p.2, some (TypeDesc.int p.1)))
theorem EqF.flat {P : Program} {t ta : TypeId} {k1 k2 : List IntKind} (h : EqF P t ta k1 k2) : FlatK P t (k1 ++ k2) := by
  obtain ⟨fa, fs, hfs⟩ : ∃ fa fs, (P.fieldsOf t).toList = fa :: fs := by
    cases e : (P.fieldsOf t).toList with
    | nil => have := h.first; rw [e] at this; cases this
    | cons fa fs => exact ⟨fa, fs, rfl⟩
  have hF := h.fields; rw [hfs] at hF; simp only [List.drop_succ_cons, List.drop_zero] at hF
  have h1 := h.first
  rw [hfs] at h1; simp only [List.head?_cons, Option.map_some, Option.some.injEq, Prod.mk.injEq] at h1; obtain ⟨hn, ho, ht⟩ := h1
  have hne : fa.name ≠ "_" := by simpa using hn
  have hpart : ∀ (ps : List Int) (w : World), ps.length = (k1 ++ k2).length → (part fa.type (((k1 ++ k2).zip ps).map (fun p => Value.int p.1 p.2)).toArray fa.offset).run P w = .ok (encI k1 (ps.take k1.length)) w := fun ps w hl => by
    have hs : (sizeOf fa.type).run P w = .ok k1.length w := by
      rw [ht]; obtain ⟨i, hi, hs⟩ := Option.map_eq_some_iff.1 h.size; simp [sizeOf, typeInfo, hi, hs]
    have ha : (isAgg fa.type).run P w = .ok true w := by simp [isAgg, run_underlying (ht ▸ h.unda)]
    simp only [part, Sem.run_bind, ha, Result.andThen_ok, if_true, hs, Sem.run_pure]; unfold encI
    congr 2
    rw [ho]
    apply Array.ext'
    simp only [Array.toList_extract, List.extract_eq_take_drop, List.drop_zero, Nat.zero_add, Nat.sub_zero]; rw [← List.map_take, List.zip_eq_zipWith, List.take_zipWith, List.take_left, ← List.zip_eq_zipWith]
  have hget : ∀ (ps : List Int), ps.length = (k1 ++ k2).length → ∀ (j : Nat) (kk : IntKind) (p : Int), k2[j]? = some kk → (ps.drop k1.length)[j]? = some p → (((k1 ++ k2).zip ps).map (fun p => Value.int p.1 p.2)).toArray[k1.length + j]? = some (.int kk p) := fun ps hl j kk p a b => by
    rw [List.getElem?_toArray]
    refine zip_get ?_ ?_
    · rw [List.getElem?_append_right (by omega), Nat.add_sub_cancel_left]; exact a
    · rw [List.getElem?_drop] at b; exact b
  have hgeta : ∀ (ps : List Int) (j : Nat) (kk : IntKind) (p : Int), k1[j]? = some kk → ps[j]? = some p → ((k1.zip ps).map (fun p => Value.int p.1 p.2)).toArray[0 + j]? = some (.int kk p) := fun ps j kk p a b => by
    rw [Nat.zero_add, List.getElem?_toArray]; exact zip_get a b
  refine ⟨⟨_, h.und⟩, fun ps qs w hp hq => ?_, fun e ps w hp => ?_⟩
  · unfold encI; rw [run_equalIn_struct w 9999 t _ _ h.und h.held, hfs]; simp only [Op.eqFields, if_pos hne, Sem.run_bind]; rw [hpart ps w hp]; simp only [Result.andThen_ok]; rw [hpart qs w hq]; simp only [Result.andThen_ok]; rw [ht]; unfold encI
    have lp : (ps.take k1.length).length = k1.length := by rw [List.length_take]; simp at hp; omega
    have lq : (qs.take k1.length).length = k1.length := by rw [List.length_take]; simp at hq; omega
    rw [run_equalIn_struct w 9998 ta _ _ h.unda h.helda, run_eqFields 9997 _ _ w _ k1 _ _ 0 lp lq h.fieldsa (hgeta _) (hgeta _)]; simp only [Result.andThen_ok]; by_cases h2 : ps.take k1.length = qs.take k1.length
    · simp only [h2, decide_true, Bool.not_true, Bool.false_eq_true, if_false]; rw [run_eqFields 9998 _ _ w fs k2 (ps.drop k1.length) (qs.drop k1.length) k1.length (by simp at hp ⊢; omega) (by simp at hq ⊢; omega) hF (hget ps hp) (hget qs hq)]
      congr 1
      refine decide_eq_decide.2 ⟨fun h3 => ?_, fun h3 => by rw [h3]⟩; rw [← List.take_append_drop k1.length ps, ← List.take_append_drop k1.length qs, h2, h3]
    · have h4 : ps ≠ qs := fun h5 => h2 (by rw [h5])
      simp [h2, h4]
  · refine run_ckStruct h.und e 9999 _ w ?_
    rw [hfs]; intro f hf; rcases List.mem_cons.1 hf with rfl | hf
    · refine ⟨hne, _, hpart ps w hp, ?_⟩; rw [ht]; refine run_ckStruct h.unda e 9998 _ w (ck_ints e 9997 _ w _ k1 (ps.take k1.length) 0 (by rw [List.length_take]; simp at hp; omega) h.fieldsa (hgeta _))
    · exact ck_ints e 9998 _ w fs k2 (ps.drop k1.length) k1.length (by simp at hp ⊢; omega) hF (hget ps hp) f hf
theorem sameBits_ints (n : Nat) (l : List (IntKind × Int)) : Instr.sameBits (n + 1) (.agg (l.map (fun p => Value.int p.1 p.2)).toArray) (.agg (l.map (fun p => Value.int p.1 p.2)).toArray) = true := by
  simp only [Instr.sameBits, beq_self_eq_true, Bool.true_and]; rw [List.all_eq_true]
  rintro ⟨x, y⟩ hxy
  have : x = y := by
    simp only [List.zip_eq_zipWith] at hxy; obtain ⟨i, hi⟩ := List.getElem?_of_mem hxy; rw [List.getElem?_zipWith] at hi; split at hi
    · rename_i u v hu hv; rw [hu] at hv; injection hv with hv; injection hi with hi; injection hi with h1 h2; rw [← h1, ← h2, hv]
    · cases hi
  subst this; have hm := (List.of_mem_zip hxy).1; simp only [List.mem_map] at hm; obtain ⟨p, _, rfl⟩ := hm; simp [Instr.sameBits]
theorem FlatK.key {P : Program} {t : TypeId} {ks : List IntKind} (h : FlatK P t ks) {κ : Type} [DecidableEq κ] (f : κ → List Int) (hl : ∀ a, (f a).length = ks.length) (hi : ∀ a b, f a = f b → a = b) : KeyT P t (fun a => encI ks (f a)) where
  now l i a D hD hne hl := by
    obtain ⟨fs, hu⟩ := h.und
    rw [hu] at hD; injection hD with hD; subst hD
    cases l with
    | nil => exact absurd J hne
    | cons e l => simp [Instr.findNow, encI, Instr.sameNow]
  und := by obtain ⟨fs, hu⟩ := h.und; exact ⟨_, hu⟩
  eq a b w := by
    have := h.eq (f a) (f b) w (hl a) (hl b); show (Op.equalIn 10000 t _ _).run P w = _; rw [this]
    congr 1
    exact decide_eq_decide.2 ⟨hi a b, fun h => by rw [h]⟩
  ck e a w := h.ck e (f a) w (hl a)
  sb a := sameBits_ints 9999 _
section
variable {X : Ctx} {L : AL} {B : BL} {ops : Array Oper} {K : Act → World → Prop} {r : Pl} {k : Kd}
  {x y z : Operand} {d : Nat} {t t2 t' : TypeId} {pos : String} {af : Array Edge} {g : Option (Nat × Bool)}
theorem Ops.eqK {ks : List IntKind} (ps qs : List Int) (hg : gd ops L g = some true) (hx : ev L x = some (.ct (.fr (aggT (kc ks ps))))) (hy : ev L y = some (.ct (.fr (aggT (kc ks qs))))) (h1 : ps.length = ks.length) (h2 : qs.length = ks.length) (hE : FlatK X.P t ks) (hG : X.P.eqGuardType X.P.depth t = false) (hn : Nat.blt d X.n = true)
    (h : Ops X ops r ((d, .ct (.ex (.bool (decide (ps = qs))))) :: L) B K) : Ops X ops (.cons ⟨some d, .binOp .eql t x y t2, t', pos, af, g⟩ k r) L B K :=
  X7 (s := .ct (.ex (.bool (decide (ps = qs))))) hg rfl hn (fun a ρ w hI => ⟨_, fun w' _ => by
    obtain ⟨us, e1, c1⟩ := hI.ev hx
    obtain ⟨vs, e2, c2⟩ := hI.ev hy
    have d1 := Y9 h1 c1
    have d2 := Y9 h2 c2
    subst d1; subst d2
    show (do pure (Next.value (← (do eqGuard .eql t x y (a.eval x) (a.eval y); binOp .eql t (a.eval x) (a.eval y) : Sem Value))) : Sem Next).run X.P w' = _
    rw [e1, e2]
    refine Xf ?_
    simp only [Sem.run_bind, run_eqGuard_agg w' _ t x y _ _ hG, Result.andThen_ok]
    have := hE.eq ps qs w' h1 h2
    unfold Go.Own.encI at this
    rw [run_eql_struct, this]; rfl, rfl⟩) h
end
end Go.Own
namespace Go.Proofs.YtlkdkbdgnjcopaaGreat
open Go.Own Go.Limbs
attribute [local irreducible] St Ops Go.Own.Fin Ok OkB OkN OkT OkL OkF
def tk0 : Tk := ⟨0, 0, 0⟩
instance : Inhabited Tk := ⟨tk0⟩
def ik0 : Ik := ⟨0, 0, 0⟩
abbrev wr0 : Wr := (0, 0)
abbrev wrCs (x : Wr) : List CT := [adrF x.1, adrF x.2]
abbrev wrC (x : Wr) : CT := .fr (aggT (wrCs x))
def ikI (x : Ik) : List Int := [x.va, x.ru, x.nu]
def wrI (x : Wr) : List Int := [(x.1.val : Int), (x.2.val : Int)]
theorem Xm : LdN Tryz.prog 37 2 := LdN.of _ Tryz.underlying37 rfl (by kernel_rfl)
theorem szWire : (Tryz.prog.info? 37).map (·.size) = some 2 := by kernel_rfl
theorem zvWire : (Tryz.prog.info? 37).map (·.zero) = some (some (.agg #[.int .u32 0, .int .u32 0])) := by kernel_rfl
theorem bWire : bInfo Tryz.prog 37 = some (.agg #[.int .u32 0, .int .u32 0], [(0, some 1), (1, some 1)]) := by kernel_rfl
theorem tkI_inj (x y : Tk) (h : tkI x = tkI y) : x = y := by
  obtain ⟨a1, a2, a3⟩ := x; obtain ⟨b1, b2, b3⟩ := y; simp only [tkI, List.cons.injEq, and_true, Int.ofNat_inj, Fin.val_inj] at h; obtain ⟨h1, h2, h3⟩ := h; rw [h1, h2, h3]
theorem ikI_inj (x y : Ik) (h : ikI x = ikI y) : x = y := by
  obtain ⟨a1, a2, a3⟩ := x; obtain ⟨b1, b2, b3⟩ := y; simp only [ikI, List.cons.injEq, and_true] at h; obtain ⟨h1, h2, h3⟩ := h; rw [h1, h2, h3]
theorem wrI_inj (x y : Wr) (h : wrI x = wrI y) : x = y := by
  obtain ⟨a1, a2⟩ := x; obtain ⟨b1, b2⟩ := y; simp only [wrI, List.cons.injEq, and_true, Int.ofNat_inj, Fin.val_inj] at h; obtain ⟨h1, h2⟩ := h; rw [h1, h2]
theorem tk_len (x : Tk) : (tkCs x).length = 3 := rfl
abbrev tksC (l : List Tk) : CT := .fr (sliceT 3 (l.map tkCs))
def tks (l : List Tk) : List CT := (l.map tkCs).flatten
theorem tks_frozen (e : Nat) (l : List Tk) : (Ent.row e 3 (tks l)).frozen (sliceT 3 (l.map tkCs)) :=
  ⟨_, rfl, fun e he => by obtain ⟨m, _, rfl⟩ := List.mem_map.mp he; rfl, by decide, rfl⟩
theorem tks_at {l : List Tk} {j : Int} (h0 : 0 ≤ j) (h : j < (l.length : Int)) : (l.map tkCs)[j.toNat]? = some (tkCs (l.getD j.toNat tk0)) := by
  have : j.toNat < l.length := by omega
  simp [List.getElem?_map, List.getElem?_eq_getElem this, List.getD_eq_getElem?_getD]
theorem tks_len (l : List Tk) : (tks l).length = l.length * 3 := el_len tk_len l
theorem tks_snoc (l : List Tk) (r : Tk) : tks (l ++ [r]) = tks l ++ tkCs r := by simp [tks]
theorem tks_take (l : List Tk) (i : Nat) : (tks l).take (i * 3) = tks (l.take i) := el_take tk_len l i
theorem sTks : SlcT Tryz.prog 82 86 3 24 (.agg #[.int .i64 0, .int .u32 0, .int .i64 0]) := SlcT.of Tryz.underlying82 (by kernel_rfl) rfl (by decide)
theorem eTk : EqS Tryz.prog 86 [.i64, .u32, .i64] := ⟨by kernel_rfl, by kernel_rfl, by kernel_rfl, by kernel_rfl⟩
theorem tk_inj {x y : Tk} : (tkI x = tkI y) ↔ x = y := ⟨tkI_inj _ _, fun h => by rw [h]⟩
theorem keyTk : KeyT Tryz.prog 86 (fun x : Tk => Go.Own.encI [.i64, .u32, .i64] (tkI x)) := eTk.flat.key tkI (fun _ => rfl) (fun _ _ => tk_inj.1)
section
variable {X : Ctx} {L : AL} {B : BL} {ops : Array Oper} {K : Act → World → Prop} {r : Pl} {k : Kd}
  {x y z : Operand} {d : Nat} {t t2 t' : TypeId} {pos : String} {af : Array Edge} {g : Option (Nat × Bool)}
theorem eqTk (p q : Tk) (hg : gd ops L g = some true) (hx : ev L x = some (.ct (.fr (aggT (tkCs p))))) (hy : ev L y = some (.ct (.fr (aggT (tkCs q))))) (hP : X.P = Tryz.prog) (hn : Nat.blt d X.n = true)
    (h : Ops X ops r ((d, .ct (boolC (decide (p = q)))) :: L) B K) : Ops X ops (.cons ⟨some d, .binOp .eql 86 x y t2, t', pos, af, g⟩ k r) L B K :=
  Ops.eqS (ks := [.i64, .u32, .i64]) (tkI p) (tkI q) hg hx hy rfl rfl (hP ▸ eTk) hn (by rw [decide_eq_decide.2 tk_inj]; exact h)
theorem neTk (p q : Tk) (hg : gd ops L g = some true) (hx : ev L x = some (.ct (.fr (aggT (tkCs p))))) (hy : ev L y = some (.ct (.fr (aggT (tkCs q))))) (hP : X.P = Tryz.prog) (hn : Nat.blt d X.n = true)
    (h : Ops X ops r ((d, .ct (boolC (decide (¬ p = q)))) :: L) B K) : Ops X ops (.cons ⟨some d, .binOp .neq 86 x y t2, t', pos, af, g⟩ k r) L B K :=
  Ops.neS (ks := [.i64, .u32, .i64]) (tkI p) (tkI q) hg hx hy rfl rfl (hP ▸ eTk) hn (by rw [decide_eq_decide.2 tk_inj, ← decide_not]; exact h)
end
theorem ik_len (x : Ik) : (ikCs x).length = 3 := rfl
abbrev iksC (l : List Ik) : CT := .fr (sliceT 3 (l.map ikCs))
def iks (l : List Ik) : List CT := (l.map ikCs).flatten
theorem iks_frozen (e : Nat) (l : List Ik) : (Ent.row e 3 (iks l)).frozen (sliceT 3 (l.map ikCs)) :=
  ⟨_, rfl, fun e he => by obtain ⟨m, _, rfl⟩ := List.mem_map.mp he; rfl, by decide, rfl⟩
theorem iks_at {l : List Ik} {j : Int} (h0 : 0 ≤ j) (h : j < (l.length : Int)) : (l.map ikCs)[j.toNat]? = some (ikCs (l.getD j.toNat ik0)) := by
  have : j.toNat < l.length := by omega
  simp [List.getElem?_map, List.getElem?_eq_getElem this, List.getD_eq_getElem?_getD]
theorem iks_len (l : List Ik) : (iks l).length = l.length * 3 := el_len ik_len l
theorem iks_snoc (l : List Ik) (r : Ik) : iks (l ++ [r]) = iks l ++ ikCs r := by simp [iks]
theorem sIks : SlcT Tryz.prog 67 124 3 24 (.agg #[.int .i64 0, .int .i64 0, .int .i64 0]) := SlcT.of Tryz.underlying67 (by kernel_rfl) rfl (by decide)
theorem eIk : EqS Tryz.prog 124 [.i64, .i64, .i64] := ⟨by kernel_rfl, by kernel_rfl, by kernel_rfl, by kernel_rfl⟩
theorem ik_inj {x y : Ik} : (ikI x = ikI y) ↔ x = y := ⟨ikI_inj _ _, fun h => by rw [h]⟩
section
variable {X : Ctx} {L : AL} {B : BL} {ops : Array Oper} {K : Act → World → Prop} {r : Pl} {k : Kd}
  {x y z : Operand} {d : Nat} {t t2 t' : TypeId} {pos : String} {af : Array Edge} {g : Option (Nat × Bool)}
theorem eqIk (p q : Ik) (hg : gd ops L g = some true) (hx : ev L x = some (.ct (.fr (aggT (ikCs p))))) (hy : ev L y = some (.ct (.fr (aggT (ikCs q))))) (hP : X.P = Tryz.prog) (hn : Nat.blt d X.n = true)
    (h : Ops X ops r ((d, .ct (boolC (decide (p = q)))) :: L) B K) : Ops X ops (.cons ⟨some d, .binOp .eql 124 x y t2, t', pos, af, g⟩ k r) L B K :=
  Ops.eqS (ks := [.i64, .i64, .i64]) (ikI p) (ikI q) hg hx hy rfl rfl (hP ▸ eIk) hn (by rw [decide_eq_decide.2 ik_inj]; exact h)
theorem neIk (p q : Ik) (hg : gd ops L g = some true) (hx : ev L x = some (.ct (.fr (aggT (ikCs p))))) (hy : ev L y = some (.ct (.fr (aggT (ikCs q))))) (hP : X.P = Tryz.prog) (hn : Nat.blt d X.n = true)
    (h : Ops X ops r ((d, .ct (boolC (decide (¬ p = q)))) :: L) B K) : Ops X ops (.cons ⟨some d, .binOp .neq 124 x y t2, t', pos, af, g⟩ k r) L B K :=
  Ops.neS (ks := [.i64, .i64, .i64]) (ikI p) (ikI q) hg hx hy rfl rfl (hP ▸ eIk) hn (by rw [decide_eq_decide.2 ik_inj, ← decide_not]; exact h)
end
theorem wr_len (x : Wr) : (wrCs x).length = 2 := rfl
abbrev wrsC (l : List Wr) : CT := .fr (sliceT 2 (l.map wrCs))
def wrs (l : List Wr) : List CT := (l.map wrCs).flatten
theorem wrs_frozen (e : Nat) (l : List Wr) : (Ent.row e 2 (wrs l)).frozen (sliceT 2 (l.map wrCs)) :=
  ⟨_, rfl, fun e he => by obtain ⟨m, _, rfl⟩ := List.mem_map.mp he; rfl, by decide, rfl⟩
theorem wrs_at {l : List Wr} {j : Int} (h0 : 0 ≤ j) (h : j < (l.length : Int)) : (l.map wrCs)[j.toNat]? = some (wrCs (l.getD j.toNat wr0)) := by
  have : j.toNat < l.length := by omega
  simp [List.getElem?_map, List.getElem?_eq_getElem this, List.getD_eq_getElem?_getD]
theorem Zr (l : List Wr) : (wrs l).length = l.length * 2 := el_len wr_len l
theorem wrs_app (l m : List Wr) : wrs (l ++ m) = wrs l ++ wrs m := by simp [wrs]
theorem wrs_snoc (l : List Wr) (r : Wr) : wrs (l ++ [r]) = wrs l ++ wrCs r := by simp [wrs]
theorem wrs_take (l : List Wr) (i : Nat) : (wrs l).take (i * 2) = wrs (l.take i) := el_take wr_len l i
theorem sWrs : SlcT Tryz.prog 64 37 2 8 (.agg #[.int .u32 0, .int .u32 0]) := SlcT.of Tryz.underlying64 (by kernel_rfl) rfl (by decide)
theorem eWr : EqS Tryz.prog 37 [.u32, .u32] := ⟨by kernel_rfl, by kernel_rfl, by kernel_rfl, by kernel_rfl⟩
theorem wr_inj {x y : Wr} : (wrI x = wrI y) ↔ x = y := ⟨wrI_inj _ _, fun h => by rw [h]⟩
theorem keyWr : KeyT Tryz.prog 37 (fun x : Wr => Go.Own.encI [.u32, .u32] (wrI x)) := eWr.flat.key wrI (fun _ => rfl) (fun _ _ => wr_inj.1)
section
variable {X : Ctx} {L : AL} {B : BL} {ops : Array Oper} {K : Act → World → Prop} {r : Pl} {k : Kd}
  {x y z : Operand} {d : Nat} {t t2 t' : TypeId} {pos : String} {af : Array Edge} {g : Option (Nat × Bool)}
theorem eqWr (p q : Wr) (hg : gd ops L g = some true) (hx : ev L x = some (.ct (.fr (aggT (wrCs p))))) (hy : ev L y = some (.ct (.fr (aggT (wrCs q))))) (hP : X.P = Tryz.prog) (hn : Nat.blt d X.n = true)
    (h : Ops X ops r ((d, .ct (boolC (decide (p = q)))) :: L) B K) : Ops X ops (.cons ⟨some d, .binOp .eql 37 x y t2, t', pos, af, g⟩ k r) L B K :=
  Ops.eqS (ks := [.u32, .u32]) (wrI p) (wrI q) hg hx hy rfl rfl (hP ▸ eWr) hn (by rw [decide_eq_decide.2 wr_inj]; exact h)
end
theorem goCompact_Tk : InGo Tryz.prog 125 := InGo.of Tryz.func125 (by kernel_rfl) (by kernel_rfl)
set_option maxHeartbeats 4000000 in
theorem Compact_Tk_ok (l : List Tk) (hl : l.length ≤ 100000) : OkT Tryz.prog 125 86 3 (tks l) [] (tks (dd l)) := by
  refine OkT.enter Tryz.func125 J _ Tryz.ntmps125 J ?_
  intro S w h0; refine Qw (Qx fun K hK => ?_); refine Qv J J J (Qj (hK _ _ (Qz (Qw (Qw ?_))))); clear hK K; refine Qx (fun K hK => ?_); refine Qq J J J (ZZ l.length J J J (by decide) (tks_len l) sTks.und J ?_); refine Qk ilss J J J J (Qj (hK _ _ (Qz ?_))); clear hK K; refine Q2 J (fun h => ?_) (fun h => ?_)
  · rw [dd_small (l := l) (by omega)]; refine Qw (Qx fun K hK => ?_); refine Qq J J J (Qv J J J (Qj (hK _ _ (Qz (Q0 (QZ ?_)))))); clear hK K; refine Fin.retT J J J
  refine Q1 (Qz (Qw (Qw (Qx fun K hK => ?_)))); refine Qv J J J (Qj (hK _ _ (Qz (Q5 ?_)))); clear hK K
  refine Xx (α := Nat) (fun i => i + 1 ≤ l.length ∧ dd (l.take (i + 1)) = l.take (i + 1))
    (fun i => [(0, .own 0), (3, .ct (intC (i + 1)))]) (fun _ => [(0, .row 86 3 (tks l))]) (fun i => l.length - i) 0 ⟨by omega, dd_small (by rw [List.length_take]; omega)⟩ (by exact QX J ⟨rfl, rfl, trivial⟩) ?_
  rintro i ⟨hi, hd⟩
  try dsimp only at hi hd
  try dsimp only
  refine Qw (Qw (Qx fun K hK => ?_)); refine Qq J J J (Qq J J J (ZZ l.length J J J (by decide) (tks_len l) sTks.und J ?_)); refine Qk ilss J J J J (Qj (hK _ _ (Qz ?_))); clear hK K; refine Q2 J (fun h => ?_) (fun h => ?_); rotate_left
  · have e : dd l = l := by
      have := hd; rw [List.take_of_length_le (by omega)] at this; exact this
    rw [e]; refine Qs (Qz (Qw (Qx fun K hK => ?_))); refine Qq J J J (Qv J J J (Qj (hK _ _ (Qz (Q0 ?_))))); clear hK K; refine Fin.retT J J J
  refine Q1 (Qz (Qw (Q5 (Qw ?_)))); refine Xw mixed 10 (.p 0 (.p 1 (.p 2 (.p 4 (.p 5 (.p 6 (.p 7 (.f 3 (.f 8 (.p 9 .done)))))))))) (by kernel_rfl) (fun K hK => ?_); refine Qq J J J (Qq J J J (Xu l.length J J J (tks_len l) J sTks (by omega) (by omega) J ?_)); refine Qq J J J (Qq J J J (Qk (isub (by omega) (by omega)) J J J J ?_))
  refine Xu l.length J J J (tks_len l) J sTks (by omega) (by omega) J ?_
  skip
  refine ldE tkCs tk0 tk_len J J J J J (by omega) Y5 J ?_
  refine ldE tkCs tk0 tk_len J J J J J (by omega) Y5 J ?_
  rw [show ((i : Int) + 1).toNat = i + 1 by omega, show ((i : Int) + 1 - 1).toNat = i by omega]; generalize hx : l.getD i tk0 = x; generalize hy : l.getD (i + 1) tk0 = y; refine eqTk y x J J J J J (Qj (hK _ _ (Qz ?_))); clear hK K; have hs := dd_step (l := l) (z := tk0) (p := i + 1) (by omega) (by omega); rw [show i + 1 - 1 = i by omega, hx, hy] at hs; refine Q2 J (fun he => ?_) (fun he => ?_); rotate_left
  · refine Q1 (Qz (Qx fun K hK => ?_)); refine Qq J J J (Qk (iadd (by omega) (by omega)) J J J J ?_); refine Qv J J J (Qj (hK _ _ (Q4 ?_))); clear hK K; refine Q8 (i + 1) (by omega) ⟨by omega, ?_⟩ (by exact QX J ⟨rfl, by simp only [Int.natCast_add]; rfl, trivial⟩); rw [hs, if_neg he, hd, List.take_add_one (i := i + 1), List.getElem?_eq_getElem (by omega), ← hy, List.getD_eq_getElem?_getD, List.getElem?_eq_getElem (by omega)]; rfl
  rw [if_pos he, hd] at hs; refine St.nameS 0 0 l.length J J (tks_len l) (by omega) (by decide) (fun gb c hc1 hc2 => ?_); refine Qw (Qx fun K hK => ?_); refine Qq J J J (Qq J J J (Ops.cutKl (i + 1) J J J (by omega) sTks (by omega) J ?_)); rw [if_neg (show ¬ c = i + 1 by omega), Nat.zero_add]; refine Qv J J J (Qj (hK _ _ (Qz (Qw (Qw ?_))))); clear hK K; refine Qx (fun K hK => ?_); refine Qv J J J (Qj (hK _ _ (Qz (Q5 ?_)))); clear hK K
  refine Xx (α := Nat) (fun j => i + 2 + j ≤ l.length ∧ (dd (l.take (i + 2 + j))).length < i + 2 + j)
    (fun j => [(0, .ct (.ex (kh gb 0 l.length c))), (3, .ct (intC (dd (l.take (i + 2 + j))).length)), (4, .ct (.ex (kh gb ((i + 1) * 3) (l.length - (i + 1)) (c - (i + 1))))), (5, .ct (intC (j + 1)))])
    (fun j => [(0, .rowx (kh gb 0 l.length c) 86 3 (tks (dd (l.take (i + 2 + j)) ++ l.drop (dd (l.take (i + 2 + j))).length)))]) (fun j => l.length - j) 0
    ⟨by omega, by rw [Nat.add_zero, hs, List.length_take]; omega⟩ (by
      rw [Nat.add_zero, hs, List.length_take, Nat.min_eq_left hi, List.take_append_drop]
      exact QX J ⟨rfl, rfl, rfl, rfl, trivial⟩) ?_
  clear hs
  rintro j ⟨hj, hD⟩
  try dsimp only at hj hD
  try dsimp only
  have hs := dd_step (l := l) (z := tk0) (p := i + 2 + j) (by omega); generalize hDD : dd (l.take (i + 2 + j)) = D at hs hD ⊢
  have hrl : (D ++ l.drop D.length).length = l.length := by rw [List.length_append, List.length_drop]; omega
  have hat : ∀ q, D.length ≤ q → (D ++ l.drop D.length).getD q tk0 = l.getD q tk0 := fun q hq => row_at D l q tk0 hq
  refine Qw (Qw (Qx fun K hK => ?_)); refine Qq J J J (Qq J J J (Ops.lenKv J J sTks.und J (Qk ilss J J J J (Qj (hK _ _ (Qz ?_)))))); clear hK K; refine Q2 J (fun h2 => ?_) (fun h2 => ?_)
  · refine Q1 (Qz (Qw (Q5 (Qw ?_)))); refine Xw mixed 10 (.p 0 (.p 1 (.p 2 (.p 4 (.p 5 (.p 6 (.p 7 (.f 3 (.f 8 (.p 9 .done)))))))))) (by kernel_rfl) (fun K hK => ?_); refine Qq J J J (Qq J J J (YK 0 (i + 1) J J J J sTks (by omega) (by omega) J ?_)); refine Qq J J J (Qq J J J (Qk (isub (by omega) (by omega)) J J J J ?_))
    refine YK 0 (i + 1) J J J J sTks (by omega) (by omega) J ?_
    skip
    refine ldE tkCs tk0 tk_len J J J J J (by omega) Y5 J ?_
    refine ldE tkCs tk0 tk_len J J J J J (by omega) Y5 J ?_
    rw [show i + 1 + ((j : Int) + 1).toNat = i + 2 + j by omega, show i + 1 + ((j : Int) + 1 - 1).toNat = i + 2 + j - 1 by omega, hat _ (by omega), hat _ (by omega)]; have hs := hs (by omega); generalize hx2 : l.getD (i + 2 + j - 1) tk0 = x2 at hs ⊢; generalize hy2 : l.getD (i + 2 + j) tk0 = y2 at hs ⊢; refine neTk y2 x2 J J J J J (Qj (hK _ _ (Qz ?_))); clear hK K; refine Q2 J (fun he2 => ?_) (fun he2 => ?_)
    · rw [if_neg he2] at hs; refine Qw (Qx fun K hK => ?_); refine Qq J J J (Qq J J J (Qq J J J (Qq J J J (YK 0 (i + 1) J J J J sTks (by omega) (by omega) J ?_))))
      refine ldE tkCs tk0 tk_len J J J J J (by omega) Y5 J ?_
      rw [show i + 1 + ((j : Int) + 1).toNat = i + 2 + j by omega, hat _ (by omega), hy2]
      refine YK 0 0 J J J J sTks (by omega) (by omega) J ?_
      rw [Nat.zero_add, show ((D.length : Int)).toNat = D.length by omega]
      refine stEX tkCs y2 tk_len J J J J J (by omega) szTrace ?_
      rw [row_set D l y2 (by omega)]; refine Qj (hK _ _ (Qz ?_)); clear hK K; refine Qx (fun K hK => ?_); refine Qq J J J (Qk (iadd (by omega) (by omega)) J J J J ?_); refine Qv J J J (Qj (hK _ _ (Qz ?_))); clear hK K; refine Qx (fun K hK => ?_); refine Qq J J J (Qk (iadd (by omega) (by omega)) J J J J ?_); refine Qv J J J (Qj (hK _ _ (Q4 ?_))); clear hK K
      refine Q8 (j + 1) (by omega) ⟨by omega, by show (dd (l.take (i + 2 + j + 1))).length < _; rw [hs, List.length_append]; show D.length + 1 < _; omega⟩ ?_
      rw [show i + 2 + (j + 1) = i + 2 + j + 1 by omega, hs, List.length_append]; exact QX J ⟨rfl, by simp only [Int.natCast_add]; rfl, rfl, by simp only [Int.natCast_add]; rfl, trivial⟩
    · rw [if_pos (Decidable.not_not.1 he2)] at hs; refine Q1 (Qz (Qx fun K hK => ?_)); refine Qq J J J (Qk (iadd (by omega) (by omega)) J J J J ?_); refine Qv J J J (Qj (hK _ _ (Q4 ?_))); clear hK K
      refine Q8 (j + 1) (by omega) ⟨by omega, by show (dd (l.take (i + 2 + j + 1))).length < _; rw [hs]; omega⟩ ?_
      rw [show i + 2 + (j + 1) = i + 2 + j + 1 by omega, hs]; exact QX J ⟨rfl, rfl, rfl, by simp only [Int.natCast_add]; rfl, trivial⟩
  · have e : dd l = D := by rw [← hDD, List.take_of_length_le (by omega)]
    rw [e]; refine Qs (Qz (Qw (Qx fun K hK => ?_))); refine Qq J J J (Qq J J J (Ops.cutKl D.length J J J J sTks (by omega) J ?_)); skip
    refine Ops.cutOff 0 D.length J (by show (tks _).length = _; rw [tks_len, hrl]) (by decide) (by omega) (by show (tks _).take _ = tks D; rw [tks_take, List.take_left]) ?_
    refine Ops.clearK 0 J J (by split <;> omega) J (tks_len D) (by omega) sTks (by decide) ?_
    refine Qj (hK _ _ (Qz (Qw ?_))); clear hK K; refine Qx (fun K hK => ?_); refine Qq J J J (Qq J J J (Ops.cutKh D.length J J J J sTks (by omega) J ?_)); refine Qv J J J (Qj (hK _ _ (Qz (Q0 (Q3 (QZ (QZ (Q3 (QZ ?_))))))))); clear hK K; refine Fin.link 2 0 J J (Fin.retT J J J)
end Go.Proofs.YtlkdkbdgnjcopaaGreat
namespace Go.Proofs.YtlkdkbdgnjcopaaGreat
open Go.Own Go.Limbs
theorem fTk0 : fldInfo Tryz.prog 86 0 = some (0, some 1) := by kernel_rfl
theorem fTk1 : fldInfo Tryz.prog 86 1 = some (1, some 1) := by kernel_rfl
theorem fTk2 : fldInfo Tryz.prog 86 2 = some (2, some 1) := by kernel_rfl
theorem fWr0 : fldInfo Tryz.prog 37 0 = some (0, some 1) := by kernel_rfl
theorem fWr1 : fldInfo Tryz.prog 37 1 = some (1, some 1) := by kernel_rfl
end Go.Proofs.YtlkdkbdgnjcopaaGreat
namespace Go.Proofs.YtlkdkbdgnjcopaaGreat
open Go.Shelf
def laySortT_ren : Go.Shelf.Ren := ⟨fun | 6 => 122 | 15 => 118 | 14 => 159 | 28 => 155 | 29 => 156 | 20 => 186 | 21 => 187 | 22 => 188 | 23 => 189 | 24 => 190 | 25 => 191 | 26 => 192 | 27 => 193 | 46 => 199 | 47 => 182 | 48 => 183 | 49 => 200 | 50 => 201 | 57 => 203 | n => n, fun | 22 => 82 | 24 => 86 | 25 => 139 | 3 => 3 | 39 => 172 | 0 => 0 | 53 => 26 | 55 => 153 | 4 => 4 | 46 => 201 | 45 => 200 | 50 => 205 | 5 => 5 | 9 => 9 | 66 => 227 | 70 => 231 | 76 => 240 | 77 => 241 | n => n, fun | n => n⟩
theorem laySortT : Go.Proofs.SlLaysF0.n6 Tryz.prog laySortT_ren := {
  mixed := by kernel_rfl
  f6 := ⟨Tryz.f122.name, by decide, Tryz.func122.trans (congrArg some (by kernel_rfl))⟩
  f14 := ⟨Tryz.f159.name, by decide, Tryz.func159.trans (congrArg some (by kernel_rfl))⟩
  f15 := Tryz.func118.trans (congrArg some (by kernel_rfl))
  f20 := ⟨Tryz.f186.name, by decide, Tryz.func186.trans (congrArg some (by kernel_rfl))⟩
  f21 := ⟨Tryz.f187.name, by decide, Tryz.func187.trans (congrArg some (by kernel_rfl))⟩
  f22 := ⟨Tryz.f188.name, by decide, Tryz.func188.trans (congrArg some (by kernel_rfl))⟩
  f23 := ⟨Tryz.f189.name, by decide, Tryz.func189.trans (congrArg some (by kernel_rfl))⟩
  f24 := ⟨Tryz.f190.name, by decide, Tryz.func190.trans (congrArg some (by kernel_rfl))⟩
  f25 := ⟨Tryz.f191.name, by decide, Tryz.func191.trans (congrArg some (by kernel_rfl))⟩
  f26 := ⟨Tryz.f192.name, by decide, Tryz.func192.trans (congrArg some (by kernel_rfl))⟩
  f27 := ⟨Tryz.f193.name, by decide, Tryz.func193.trans (congrArg some (by kernel_rfl))⟩
  f28 := Tryz.func155.trans (congrArg some (by kernel_rfl))
  f29 := Tryz.func156.trans (congrArg some (by kernel_rfl))
  f46 := ⟨Tryz.f199.name, by decide, Tryz.func199.trans (congrArg some (by kernel_rfl))⟩
  f47 := Tryz.func182.trans (congrArg some (by kernel_rfl))
  f48 := Tryz.func183.trans (congrArg some (by kernel_rfl))
  f49 := ⟨Tryz.f200.name, by decide, Tryz.func200.trans (congrArg some (by kernel_rfl))⟩
  f50 := ⟨Tryz.f201.name, by decide, Tryz.func201.trans (congrArg some (by kernel_rfl))⟩
  f57 := ⟨Tryz.f203.name, by decide, Tryz.func203.trans (congrArg some (by kernel_rfl))⟩
  t0 := Tryz.underlying0
  a0 := Tryz.isAgg0
  z0 := Tryz.sizeOf0
  v0 := Tryz.zeroValue0
  t3 := Tryz.underlying3
  a3 := Tryz.isAgg3
  z3 := Tryz.sizeOf3
  v3 := Tryz.zeroValue3
  t4 := Tryz.underlying4
  a4 := Tryz.isAgg4
  z4 := Tryz.sizeOf4
  v4 := Tryz.zeroValue4
  t5 := Tryz.underlying5
  a5 := Tryz.isAgg5
  z5 := Tryz.sizeOf5
  v5 := Tryz.zeroValue5
  t9 := Tryz.underlying9
  a9 := Tryz.isAgg9
  z9 := Tryz.sizeOf9
  v9 := Tryz.zeroValue9
  t22 := Tryz.underlying82
  a22 := Tryz.isAgg82
  z22 := Tryz.sizeOf82
  v22 := Tryz.zeroValue82
  t25 := Tryz.underlying139
  a25 := Tryz.isAgg139
  z25 := Tryz.sizeOf139
  v25 := Tryz.zeroValue139
  t39 := Tryz.underlying172
  a39 := Tryz.isAgg172
  z39 := Tryz.sizeOf172
  v39 := Tryz.zeroValue172
  t45 := Tryz.underlying200
  a45 := Tryz.isAgg200
  z45 := Tryz.sizeOf200
  v45 := Tryz.zeroValue200
  t46 := Tryz.underlying201
  a46 := Tryz.isAgg201
  z46 := Tryz.sizeOf201
  v46 := Tryz.zeroValue201
  t50 := Tryz.underlying205
  a50 := Tryz.isAgg205
  z50 := Tryz.sizeOf205
  v50 := Tryz.zeroValue205
  t53 := Tryz.underlying26
  a53 := Tryz.isAgg26
  z53 := Tryz.sizeOf26
  v53 := Tryz.zeroValue26
  t55 := Tryz.underlying153
  a55 := Tryz.isAgg153
  z55 := Tryz.sizeOf153
  v55 := Tryz.zeroValue153
  t66 := Tryz.underlying227
  a66 := Tryz.isAgg227
  z66 := Tryz.sizeOf227
  v66 := Tryz.zeroValue227
  t70 := Tryz.underlying231
  a70 := Tryz.isAgg231
  z70 := Tryz.sizeOf231
  v70 := Tryz.zeroValue231
  t76 := Tryz.underlying240
  a76 := Tryz.isAgg240
  z76 := Tryz.sizeOf240
  v76 := Tryz.zeroValue240
  t77 := Tryz.underlying241
  a77 := Tryz.isAgg241
  z77 := Tryz.sizeOf241
  v77 := Tryz.zeroValue241 }
end Go.Proofs.YtlkdkbdgnjcopaaGreat
namespace Go.Proofs.YtlkdkbdgnjcopaaGreat
open Go.Own Go.Limbs Go.Shelf
open Go.Sort hiding Ok
attribute [local irreducible] St Ops Go.Own.Fin Ok OkB OkN OkT OkL OkF
theorem goTr1 : InGo Tryz.prog 123 := InGo.of Tryz.func123 rfl (by decide)
theorem Tr1_ok (a b : Tk) : Ok Tryz.prog 123 [tkC a, tkC b] (intC (cmpT a b)) := by
  have e0 : cmpT a b = firstN [cmp3 a.va b.va, cmp3 a.ds.val b.ds.val, cmp3 a.pr b.pr] := by
    unfold cmpT tkI; simp only [cmpL, firstN]
  rw [e0]; clear e0; have h1 := cm_ok a.va b.va; have h2 := cmA_ok (a.ds.val : Int) (b.ds.val : Int); have h3 := cm_ok a.pr b.pr; have hO := Or_ok [cmp3 a.va b.va, cmp3 a.ds.val b.ds.val, cmp3 a.pr b.pr] (by simp); generalize cmp3 a.va b.va = c1 at h1 hO ⊢; generalize cmp3 (a.ds.val : Int) (b.ds.val : Int) = c2 at h2 hO ⊢; generalize cmp3 a.pr b.pr = c3 at h3 hO ⊢
  refine Ok.enter Tryz.func123 J _ Tryz.ntmps123 J ?_
  intro S w; refine Qw (Qx fun K hK => ?_); refine Xz 0 J J J J J J J (Xz 1 J J J J J J J (Qv J J J (Qj (hK _ _ (Qz (Qw ?_)))))); clear hK K; refine Xw mixed 18 (.p 0 (.p 2 (.p 5 (.p 7 (.p 10 (.p 12 (.f 1 (.f 3 (.f 6 (.f 8 (.f 11 (.f 13 (.m 4 (.m 9 (.m 14 (.m 15 (.m 16 (.p 17 .done)))))))))))))))))) (by kernel_rfl) (fun K hK => ?_); refine QV J J J fTk0 J (QV J J J fTk0 J (QV J J J fTk1 J (QV J J J fTk1 J (QV J J J fTk2 J (QV J J J fTk2 J (QY J J J J J lInt J (QY J J J J J lInt J (QY J J J J J lAddr J (QY J J J J J lAddr J (QY J J J J J lInt J (QY J J J J J lInt J (QW gocm h1 J J J J (QW gocmA h2 J J J J (QW gocm h3 J J J J (YV [c1, c2, c3] rfl rfl sInts J ⟨rfl, rfl, rfl, rfl, rfl, rfl, trivial⟩ (by decide) J ?_))))))))))))))); refine QW goOr hO J J J J (Qv J J J (Qj (hK _ _ (Qz (Q0 ?_))))); clear hK K; refine QU [_] rfl (Qu J QQ) J J
def tkV (t : Tk) : List Value := [.int .i64 t.va, .int .u32 t.ds.val, .int .i64 t.pr]
abbrev cmpTV : CT := .ex (.func (.func 123) #[] #[])
theorem goSortT : InGo Tryz.prog 122 := InGo.of Tryz.func122 rfl (by decide)
theorem SortT_ok (l : List Tk) (hl : l.length < 4611686018427387904) : OkL Tryz.prog 122 86 3 (tks l) [cmpTV] unitC (tks (l.mergeSort fun x y => !(ltOf cmpT) y x)) :=
  sortFunc_L laySortT (enc := tkV) (k := 3) (cf := cmpT) (g := 123) (by decide) Tryz.isAgg86 Tryz.sizeOf86 (fun _ => rfl) (fun x v hv => by
    simp only [tkV, List.mem_cons, List.not_mem_nil, or_false] at hv
    rcases hv with rfl | rfl | rfl <;> rfl)
    ordT.swo ordT.tot goTr1 Tr1_ok 86 l hl
def trsF (l : List Rs) : List Tk := sd cmpT ((l.filter okR).map trOf)
theorem goTraces : InGo Tryz.prog 86 := InGo.of Tryz.func86 rfl (by decide)
set_option maxHeartbeats 4000000 in
theorem Traces_ok (l : List Rs) (hl : l.length ≤ 10000) : OkF Tryz.prog 86 [rssC l] 86 3 (tks (trsF l)) := by
  refine OkF.enter Tryz.func86 J _ Tryz.ntmps86 J ?_
  intro S w; refine Qw (Qx fun K hK => ?_); refine Qv J J J (Qj (hK _ _ (Qz (Qw ?_)))); clear hK K; refine Qx (fun K hK => ?_); refine Qv J J J (Qj (hK _ _ (Qz (Qw (Qw ?_))))); clear hK K; refine Qx (fun K hK => ?_); refine Qq J J J (Qb J J sRes.und (List.length_map ..) J (Qq J J J (Qj (hK _ _ (Qz (Q5 ?_)))))); clear hK K
  refine Xg 3 0 86 3 J J J ?_
  refine Xx (α := Nat) (fun i => i ≤ l.length)
    (fun i => [(3, .own 0), (6, .ct (rssC l)), (7, .ct (intC l.length)), (8, .ct (intC i))]) (fun i => [(0, .row 86 3 (tks (((l.take i).filter okR).map trOf)))]) (fun i => l.length - i) 0 (Nat.zero_le _) (by exact QX J ⟨rfl, rfl, rfl, rfl, trivial⟩) ?_
  intro i hi
  try dsimp only at hi
  try dsimp only
  refine Qw (Qx fun K hK => ?_); refine Qk ilss J J J J (Qj (hK _ _ (Qz (Qw ?_)))); clear hK K; refine Q2 J (fun h => ?_) (fun h => ?_)
  · have e2 : (i : Int).toNat = i := Int.toNat_natCast i; have hs := Zn okR (z := rs0) (i := i) (l := l) (by omega); have hfl := Yu okR l i; refine Q1 (Qz (Qw (Q5 (Qw (Qx fun K hK => ?_)))))
    refine Qh J J J sRes (by omega) (Xd (by omega) (by omega)) J ?_
    refine XX (n := 17) J J J lRes J J (Qg 1 J J zvRes J J J (Qa 17 J J J J J Z4 J J (Qj (hK _ _ (Qz (Qw ?_)))))); clear hK K; refine Qx (fun K hK => ?_)
    refine Q6 (n := 17) J J J J J lRes J ?_
    rw [e2]; generalize l.getD i rs0 = c at hs; skip; refine QW goValidR (ValidR_ok c) J J J J (Qj (hK _ _ (Qz ?_))); clear hK K; refine XZ J (fun h2 => ?_) (fun h2 => ?_)
    · rw [if_pos h2] at hs; refine Qx (fun K hK => ?_); refine Qq J J J (Q6 (n := 17) J J J J J lRes J (QW goTraceOf (TraceOf_ok c) J J J J ?_)); generalize (l.take i).filter okR = out at hs hfl ⊢
      refine X6 (n := 3) J J sTks J J (by decide) J ?_
      refine Qt (out.map trOf).length (tks (out.map trOf ++ [trOf c])) J J J J sTks (tks_len _) J (by rw [List.length_map]; omega) (by rw [List.length_map]; omega) (tks_snoc _ _) J ?_
      refine Qv J J J (Qj (hK _ _ (Qz ?_))); clear hK K; refine Qx (fun K hK => ?_)
      refine Qk (iadd (by omega) (by omega)) J J J J ?_
      refine Qq J J J (Qj (hK _ _ (Q4 ?_))); clear hK K; refine Ql 1 (Q8 (i + 1) (by omega) (by omega) (by rw [hs, List.map_append]; exact QX J ⟨rfl, rfl, rfl, by simp only [Int.natCast_add]; rfl, trivial⟩))
    · rw [if_neg (by rw [h2]; decide)] at hs; refine Q1 (Qz (Qx fun K hK => ?_))
      refine Qk (iadd (by omega) (by omega)) J J J J ?_
      refine Qq J J J (Qj (hK _ _ (Q4 ?_))); clear hK K; refine Ql 1 (Q8 (i + 1) (by omega) (by omega) (by rw [hs]; exact QX J ⟨rfl, rfl, rfl, by simp only [Int.natCast_add]; rfl, trivial⟩))
  · have hi' : i = l.length := by omega
    rw [hi', List.take_length]
    have hfl : ((l.filter okR).map trOf).length ≤ l.length := by rw [List.length_map]; exact List.length_filter_le _ _
    unfold trsF; generalize (l.filter okR).map trOf = m at hfl ⊢; refine Qs (Qz (Qw (Qx fun K hK => ?_))); refine Qq J J J (Ops.callL goSortT (SortT_ok m (by omega)) J J J J J ?_); refine Qj (hK _ _ (Qz (Qw ?_))); clear hK K; refine Qx (fun K hK => ?_); refine Qq J J J (Ops.callT goCompact_Tk (Compact_Tk_ok _ (by rw [List.length_mergeSort]; omega)) J J J J J ?_); refine Qv J J J (Qj (hK _ _ (Qz (Q0 ?_)))); clear hK K; refine Y3 J J J J
def ofF (l : List Rs) (t : Tk) : List Rs := (sd cmpR (l.filter okR)).filter fun r => decide (trOf r = t)
theorem goOf : InGo Tryz.prog 87 := InGo.of Tryz.func87 rfl (by decide)
set_option maxHeartbeats 4000000 in
theorem Of_ok (l : List Rs) (t : Tk) (hl : l.length ≤ 10000) : OkF Tryz.prog 87 [rssC l, tkC t] 35 17 (rss (ofF l t)) := by
  have hO := Order_ok l hl
  have hol : (sd cmpR (l.filter okR)).length ≤ 10000 := by
    have := Yv cmpR (l.filter okR); have := List.length_filter_le okR l; omega
  unfold ofF; generalize sd cmpR (l.filter okR) = o at hO hol ⊢
  refine OkF.enter Tryz.func87 J _ Tryz.ntmps87 J ?_
  intro S w; refine Qw (Qx fun K hK => ?_); refine Xz 0 J J J J J J J (Qv J J J (Qj (hK _ _ (Qz (Qw ?_))))); clear hK K; refine Qx (fun K hK => ?_); refine Qv J J J (Qj (hK _ _ (Qz (Qw (Qw ?_))))); clear hK K; refine Qx (fun K hK => ?_); refine Qq J J J (ZQ 3 goOrder hO J J J J J J (Zx 3 _ J (rss_frozen _ _) noBor_sub (Qb J J sRes.und (List.length_map ..) J (Qq J J J (Qj (hK _ _ (Qz (Q5 ?_)))))))); clear hK K
  refine Xg 5 1 35 17 J J J ?_
  refine Xx (α := Nat) (fun i => i ≤ o.length)
    (fun i => [(3, .own 0), (5, .own 1), (9, .ct (rssC o)), (10, .ct (intC o.length)), (11, .ct (intC i))]) (fun i => [(1, .row 35 17 (rss ((o.take i).filter fun r => decide (trOf r = t)))), (0, .box 86 (tkCs t))]) (fun i => o.length - i) 0 (Nat.zero_le _) (by exact QX J ⟨rfl, rfl, rfl, rfl, rfl, trivial⟩) ?_
  intro i hi
  try dsimp only at hi
  try dsimp only
  refine Qw (Qx fun K hK => ?_); refine Qk ilss J J J J (Qj (hK _ _ (Qz (Qw ?_)))); clear hK K; refine Q2 J (fun h => ?_) (fun h => ?_)
  · have e2 : (i : Int).toNat = i := Int.toNat_natCast i; have hs := Zn (fun r => decide (trOf r = t)) (z := rs0) (i := i) (l := o) (by omega); have hfl := Yu (fun r => decide (trOf r = t)) o i; refine Q1 (Qz (Qw (Q5 (Qw (Qx fun K hK => ?_)))))
    refine Qh J J J sRes (by omega) (Xd (by omega) (by omega)) J ?_
    refine XX (n := 17) J J J lRes J J (Qg 2 J J zvRes J J J (Qa 17 J J J J J Z4 J J (Qj (hK _ _ (Qz (Qw ?_)))))); clear hK K; rw [e2]; generalize o.getD i rs0 = c at hs; generalize (o.take i).filter (fun r => decide (trOf r = t)) = out at hs hfl ⊢; refine Xw mixed 4 (.f 0 (.f 2 (.m 1 (.p 3 .done)))) (by kernel_rfl) (fun K hK => ?_); refine Q6 (n := 17) J J J J J lRes J (Q6 (n := 3) J J J J J Y5 J (QW goTraceOf (TraceOf_ok c) J J J J (eqTk (trOf c) t J J J J J (Qj (hK _ _ (Qz ?_)))))); clear hK K; refine Q2 J (fun h2 => ?_) (fun h2 => ?_)
    · rw [if_pos (decide_eq_true h2)] at hs; refine Qx (fun K hK => ?_); refine Qq J J J (Q6 (n := 17) J J J J J lRes J (X6 (n := 17) J J sRes J J (by decide) J ?_))
      refine Qt out.length (rss (out ++ [c])) J J J J sRes (rss_len out) J (by omega) (by omega) (Z9 out c) J ?_
      refine Qv J J J (Qj (hK _ _ (Qz ?_))); clear hK K; refine Qx (fun K hK => ?_)
      refine Qk (iadd (by omega) (by omega)) J J J J ?_
      refine Qq J J J (Qj (hK _ _ (Q4 ?_))); clear hK K; refine Ql 2 (Q8 (i + 1) (by omega) (by omega) (by rw [hs]; exact QX J ⟨rfl, rfl, rfl, rfl, by simp only [Int.natCast_add]; rfl, trivial⟩))
    · rw [if_neg (by rw [decide_eq_false h2]; decide)] at hs; refine Q1 (Qz (Qx fun K hK => ?_))
      refine Qk (iadd (by omega) (by omega)) J J J J ?_
      refine Qq J J J (Qj (hK _ _ (Q4 ?_))); clear hK K; refine Ql 2 (Q8 (i + 1) (by omega) (by omega) (by rw [hs]; exact QX J ⟨rfl, rfl, rfl, rfl, by simp only [Int.natCast_add]; rfl, trivial⟩))
  · have hi' : i = o.length := by omega
    rw [hi', List.take_length]; refine Qs (Qz (Qw (Qx fun K hK => ?_))); refine Qq J J J (Qv J J J (Qj (hK _ _ (Qz (Q0 ?_))))); clear hK K; refine Y3 J J J J
end Go.Proofs.YtlkdkbdgnjcopaaGreat
namespace Go.Own
variable {P : Program} {n : Nat} {S : BSet} {w0 : World} {B0 : BL} {fx : List Nat} {ρ0 : Nat → Value} {α : Type} {J : α → Prop} {R : α → Sl} {B1 : α → BL} {L : AL} {B : BL}
theorem Is.dropsB {X : Ctx} {a : Act} {ρ : Nat → Value} {w : World} {v : Value} {c : CT} : ∀ (ds : List Nat) {B : BL}, (ds.all fun i => noFix X i) = true → Is X L B a ρ w → c.p (Sof X B ρ) w v → Is X L (ds.foldl bdel B) a ρ w ∧ c.p (Sof X (ds.foldl bdel B) ρ) w v
  | [], _, _, h, hv => ⟨h, hv⟩
  | i :: ds, B, hf, h, hv => by
    rw [List.all_cons, Bool.and_eq_true] at hf
    exact Is.dropsB ds hf.2 (h.dropB i hf.1) (CT.mono (Sof_del i) hv)
theorem Fin.retMCG {fn : Func} {cs : List CT} {rv : List ResultVar} (ds : List Nat) (q : α) (hfn : fn.results = rv.toArray) (hr : AllRes (lentM P n S w0 B0 fx ρ0) L B rv cs) (hR : R q = .ct (retC cs)) (hf : (ds.all fun i => noFix (lentM P n S w0 B0 fx ρ0) i) = true) (hB : ∀ j, bget (B1 q) j = bget (ds.foldl bdel B) j) (hJ : J q) :
    ∀ a ρ w, Is (lentM P n S w0 B0 fx ρ0) L B a ρ w → a.defers = [] ∧ ∃ v, (results fn a.tmps).run P w = .ok v w ∧ Own.postM S w0 ρ0 B0 fx J R B1 (.returned v) w := fun a ρ w hI => by
  obtain ⟨v, h1, h2⟩ := results_run hfn hr hI
  obtain ⟨h3, h4⟩ := Is.dropsB ds hf hI h2
  exact ⟨hI.defers, v, h1, h3.postM q hB hJ (by rw [hR]; exact h4)⟩
theorem ZV {fn : Func} {cs : List CT} (ds : List Nat) (q : α) (rv : List ResultVar) (hfn : fn.results = rv.toArray) (hr : AllRes (lentM P n S w0 B0 fx ρ0) L B rv cs) (hR : R q = .ct (retC cs)) (hf : (ds.all fun i => noFix (lentM P n S w0 B0 fx ρ0) i) = true) (hB : ∀ j, bget (B1 q) j = bget (ds.foldl bdel B) j) (hJ : J q) :
    Fin (lentM P n S w0 B0 fx ρ0) L B (fun a w => bodyPost P fn (Own.postM S w0 ρ0 B0 fx J R B1) .ret a w) := Fin.retMCG ds q hfn hr hR hf hB hJ
theorem St.cutR {X : Ctx} {c y : Code} {Q : Exit → Act → World → Prop} {α : Type} (J : α → Prop) (Lx : α → AL) (Bx : α → BL) (h1 : ∀ q, J q → St X (Lx q) (Bx q) y Q)
    (h2 : ∀ K : Exit → Act → World → Prop, (∀ q, J q → Fin X (Lx q) (Bx q) (fun a w => K .normal a w)) → (∀ a w, Q .ret a w → K .ret a w) → St X L B c K) : St X L B c (Exit.then (y.wp X.P Q) Q) :=
  h2 _ (fun q hq => h1 q hq) (fun _ _ h => h)
theorem Fin.up {X : Ctx} {K1 K2 : Act → World → Prop} (h : ∀ a w, K1 a w → K2 a w) (h1 : Fin X L B K1) : Fin X L B K2 := fun a ρ w hI => h a w (h1 a ρ w hI)
end Go.Own
namespace Go.Proofs.YtlkdkbdgnjcopaaGreat
open Go.Own Go.Limbs
attribute [local irreducible] St Ops Go.Own.Fin Ok OkB OkN OkT OkL OkF OkM
abbrev Stm := Tk × Int
abbrev stmI (s : Stm) : List Int := [s.1.va, (s.1.ds.val : Int), s.1.pr, s.2]
abbrev stmE (s : Stm) : Value := Go.Own.encI ([.i64, .u32, .i64] ++ [.i64]) (stmI s)
abbrev stmV (s : Stm) : List Value := [.int .i64 s.1.va, .int .u32 (s.1.ds.val : Int), .int .i64 s.1.pr, .int .i64 s.2]
abbrev stmCs (s : Stm) : List CT := [intC s.1.va, adrF s.1.ds, intC s.1.pr, intC s.2]
theorem eqStm : EqF Tryz.prog 145 86 [.i64, .u32, .i64] [.i64] := ⟨by kernel_rfl, by kernel_rfl, by kernel_rfl, by kernel_rfl, by kernel_rfl, by kernel_rfl, by kernel_rfl, by kernel_rfl⟩
theorem stmI_inj (a b : Stm) (h : stmI a = stmI b) : a = b := by
  obtain ⟨⟨a1, a2, a3⟩, a4⟩ := a; obtain ⟨⟨b1, b2, b3⟩, b4⟩ := b; simp only [List.cons.injEq, and_true, Int.ofNat_inj, Fin.val_inj] at h; obtain ⟨h1, h2, h3, h4⟩ := h; rw [h1, h2, h3, h4]
theorem keyStm : KeyT Tryz.prog 145 stmE := eqStm.flat.key stmI (fun _ => rfl) stmI_inj
theorem lStm : LdN Tryz.prog 145 4 := LdN.of _ Tryz.underlying145 rfl (by kernel_rfl)
theorem szStm : (Tryz.prog.info? 145).map (·.size) = some 4 := by kernel_rfl
theorem zvStm : (Tryz.prog.info? 145).map (·.zero) = some (some (.agg #[.int .i64 0, .int .u32 0, .int .i64 0, .int .i64 0])) := by kernel_rfl
theorem bStm : bInfo Tryz.prog 145 = some (.agg #[.int .i64 0, .int .u32 0, .int .i64 0, .int .i64 0], [(0, some 3), (3, some 1)]) := by kernel_rfl
theorem fStm0 : fldInfo Tryz.prog 145 0 = some (0, some 3) := by kernel_rfl
theorem uMOwn : Tryz.prog.underlying 91 = some (.map 86 29) := Tryz.underlying91
theorem uMKnown : Tryz.prog.underlying 92 = some (.map 145 28) := Tryz.underlying92
theorem lMOwn : Ld1 Tryz.prog 91 := Ld1.of _ Tryz.underlying91 rfl
theorem lMKnown : Ld1 Tryz.prog 92 := Ld1.of _ Tryz.underlying92 rfl
theorem lTrav : LdN Tryz.prog 94 2 := LdN.of _ Tryz.underlying94 rfl (by kernel_rfl)
theorem szTrav : (Tryz.prog.info? 94).map (·.size) = some 2 := by kernel_rfl
theorem zvTrav : (Tryz.prog.info? 94).map (·.zero) = some (some (.agg #[.map none, .map none])) := by kernel_rfl
theorem bTrav : bInfo Tryz.prog 94 = some (.agg #[.map none, .map none], [(0, some 1), (1, some 1)]) := by kernel_rfl
theorem fTrav0 : fldInfo Tryz.prog 94 0 = some (0, some 1) := by kernel_rfl
theorem fTrav1 : fldInfo Tryz.prog 94 1 = some (1, some 1) := by kernel_rfl
theorem z0Rss (w : World) : (zeroValue 29).run Tryz.prog w = .ok (.slice none 0 0) w := Xs (by kernel_rfl) w
theorem z0Ads (w : World) : (zeroValue 28).run Tryz.prog w = .ok (.slice none 0 0) w := Xs (by kernel_rfl) w
abbrev tkE (t : Tk) : Value := Go.Own.encI [.i64, .u32, .i64] (tkI t)
abbrev tkVs (t : Tk) : List Value := [.int .i64 t.va, .int .u32 (t.ds.val : Int), .int .i64 t.pr]
abbrev OwM := List (Tk × List Rs)
def owF (l : List Rs) : OwM := (trsF l).foldl (fun m t => ins m t (ofF l t)) []
abbrev owM (m : OwM) : List (Value × CT) := kvs tkE rssC m
abbrev adsC (l : List (Fin 4294967296)) : CT := .fr (sliceT 1 (l.map fun x => [adrF x]))
abbrev KnM := List (Stm × List (Fin 4294967296))
abbrev knM (m : KnM) : List (Value × CT) := kvs stmE adsC m
abbrev travC (om : OwM) (v : Value) : CT := .fr (aggT [.fr (mapT (owM om)), .ex v])
theorem owF_look (l : List Rs) (t : Tk) : (look1 (owF l) t).getD [] = ofF l t := by
  have key : ∀ (q : List Tk) (m : OwM), look1 (q.foldl (fun m t => ins m t (ofF l t)) m) t = if t ∈ q then some (ofF l t) else look1 m t := by
    intro q
    induction q with
    | nil => intro m; rw [if_neg (by simp)]; rfl
    | cons x q ih =>
      intro m; rw [List.foldl_cons, ih, look1_ins]; by_cases h : t ∈ q
      · rw [if_pos h, if_pos (List.mem_cons_of_mem _ h)]
      · rw [if_neg h]; by_cases e : t = x
        · subst e; rw [if_pos rfl, if_pos (List.mem_cons_self ..)]
        · rw [if_neg e, if_neg (fun hm => (List.mem_cons.1 hm).elim e h)]
  unfold owF; rw [key]; by_cases h : t ∈ trsF l
  · rw [if_pos h]; rfl
  · rw [if_neg h]; show [] = ofF l t; unfold ofF
    symm
    refine List.filter_eq_nil_iff.2 fun r hr => ?_
    intro he
    refine h ?_
    have hm := ((Zt ordR (l.filter okR)).2 r).1 hr; exact ((Zt ordT ((l.filter okR).map trOf)).2 t).2 (List.mem_map.2 ⟨r, hm, of_decide_eq_true he⟩)
def knOk (l : List Rs) (m : KnM) : Prop := ∀ s p, look1 m s = some p → p = pathF (ofF l s.1) s.2
end Go.Proofs.YtlkdkbdgnjcopaaGreat
namespace Go.Own
open Go.RowKit
variable {X : Ctx} {L : AL} {B : BL} {ops : Array Oper} {K : Act → World → Prop}
theorem Fin.linkX (dd i : Nat) {v : Value} {el n : Nat} {cs : List CT} (hd : look L dd = some (.ct (.ex v))) (hi : bget B i = some (.rowx v el n cs)) (h : Fin X ((dd, .own i) :: L) B K) : Fin X L B K := fun a ρ w hI => by
  have h1 : a.tmps.getD dd undef = v := hI.slot dd _ hd
  obtain ⟨h2, _⟩ := (hI.ent i _ hi).1
  exact h a ρ w (hI.slotx (s := .own i) (h1.trans h2.symm))
theorem Ops.linkX {l : Pl} (dd i : Nat) {v : Value} {el n : Nat} {cs : List CT} (hd : look L dd = some (.ct (.ex v))) (hi : bget B i = some (.rowx v el n cs)) (h : Ops X ops l ((dd, .own i) :: L) B K) : Ops X ops l L B K := Fin.linkX dd i hd hi h
theorem OkB.weak {P : Program} {f : FuncId} {t : TypeId} {cs As : List CT} {α β : Type} {J : α → Prop} {R : α → CT} {D : α → List CT} {J' : β → Prop} {R' : β → CT} {D' : β → List CT} (h : OkB P f t cs As J R D) (hw : ∀ q, J q → ∃ q', J' q' ∧ R q = R' q' ∧ D q = D' q') : OkB P f t cs As J' R' D' := fun S w g us vs h1 h2 h3 h4 h5 =>
  Calls.mono (h S w g us vs h1 h2 h3 h4 h5) (by
    rintro e w' ⟨v, q, he, hJ, hR, hD, hF⟩
    obtain ⟨q', a, b, c⟩ := hw q hJ
    exact ⟨v, q', he, a, b ▸ hR, c ▸ hD, hF⟩)
end Go.Own
namespace Go.Proofs.YtlkdkbdgnjcopaaGreat
open Go.Own
attribute [local irreducible] St Ops Go.Own.Fin Ok OkB OkN OkT OkL OkF wpR
abbrev Ad := Fin 4294967296
theorem sAdrs : SlcT Tryz.prog 28 27 1 4 (.int .u32 0) := SlcT.of Tryz.underlying28 (by kernel_rfl) rfl (by decide)
theorem sPths : SlcT Tryz.prog 111 28 1 24 (.slice none 0 0) := SlcT.of Tryz.underlying111 (by kernel_rfl) rfl (by decide)
theorem lAdrs : Ld1 Tryz.prog 28 := Ld1.of _ Tryz.underlying28 rfl
theorem lPths : Ld1 Tryz.prog 111 := Ld1.of _ Tryz.underlying111 rfl
theorem zPths : (Tryz.prog.info? 111).map (·.size) = some 1 := by kernel_rfl
abbrev zNet : Value := .agg #[.int .i64 0, .int .u32 0, .int .i64 0, .slice none 0 0, .int .u32 0]
theorem sNets : SlcT Tryz.prog 115 113 5 56 zNet := SlcT.of Tryz.underlying115 (by kernel_rfl) rfl (by decide)
theorem lNet : LdN Tryz.prog 113 5 := LdN.of _ Tryz.underlying113 rfl (by kernel_rfl)
theorem szNet : (Tryz.prog.info? 113).map (·.size) = some 5 := by kernel_rfl
theorem zvNet : (Tryz.prog.info? 113).map (·.zero) = some (some zNet) := by kernel_rfl
theorem bNet : bInfo Tryz.prog 113 = some (zNet, [(0, some 3), (3, some 1), (4, some 1)]) := by kernel_rfl
theorem fH0 : fldInfo Tryz.prog 113 0 = some (0, some 3) := by kernel_rfl
theorem fH1 : fldInfo Tryz.prog 113 1 = some (3, some 1) := by kernel_rfl
theorem fH2 : fldInfo Tryz.prog 113 2 = some (4, some 1) := by kernel_rfl
abbrev adrsC (p : List Ad) : CT := .fr (sliceT 1 (p.map fun x => [adrF x]))
def adrs (p : List Ad) : List CT := p.map adrF
theorem adrs_frozen (e : Nat) (p : List Ad) : (Ent.row e 1 (adrs p)).frozen (sliceT 1 (p.map fun x => [adrF x])) :=
  ⟨p.map fun x => [adrF x], (flat_one adrF p).symm, by simp, by decide, rfl⟩
theorem adrs_at {p : List Ad} {j : Int} (h0 : 0 ≤ j) (h : j < (p.length : Int)) : (p.map fun x => [adrF x])[j.toNat]? = some [adrF (p.getD j.toNat 0)] := by
  have hl : j.toNat < p.length := by omega
  rw [List.getElem?_map, List.getElem?_eq_getElem hl, List.getD_eq_getElem?_getD, List.getElem?_eq_getElem hl]; rfl
abbrev pthsC (ps : List (List Ad)) : CT := .fr (sliceT 1 (ps.map fun p => [adrsC p]))
def pths (ps : List (List Ad)) : List CT := ps.map adrsC
theorem pths_len (ps : List (List Ad)) : (pths ps).length = ps.length * 1 := by simp [pths]
theorem pths_frozen (e : Nat) (ps : List (List Ad)) : (Ent.row e 1 (pths ps)).frozen (sliceT 1 (ps.map fun p => [adrsC p])) :=
  ⟨ps.map fun x => [adrsC x], (flat_one adrsC ps).symm, by simp, by decide, rfl⟩
theorem pths_at {ps : List (List Ad)} {j : Int} (h0 : 0 ≤ j) (h : j < (ps.length : Int)) : (ps.map fun x => [adrsC x])[j.toNat]? = some [adrsC (ps.getD j.toNat [])] := by
  have hl : j.toNat < ps.length := by omega
  rw [List.getElem?_map, List.getElem?_eq_getElem hl, List.getD_eq_getElem?_getD, List.getElem?_eq_getElem hl]; rfl
theorem pths_get {ps : List (List Ad)} (h : 0 < ps.length) : (pths ps)[0]? = some (adrsC (ps.getD 0 [])) := by
  cases ps with
  | nil => simp at h
  | cons p q => rfl
structure Nt where
  va : Int
  ds : Ad
  pr : Int
  ps : List (List Ad)
  la : Ad
abbrev ntCs (q : Nt) : List CT := [intC q.va, adrF q.ds, intC q.pr, pthsC q.ps, adrF q.la]
structure NtIn (q : Nt) : Prop where
  v0 : 0 ≤ q.va
  v1 : q.va < 2
  d0 : q.ds ≠ 0
  p0 : q.pr = 17 ∨ q.pr = 1 ∨ q.pr = 6
  a0 : q.la ≠ 0
  l0 : 1 ≤ q.ps.length
  l1 : q.ps.length ≤ 3
  pl : ∀ p ∈ q.ps, 1 ≤ p.length ∧ p.length ≤ 3
def nts (l : List Nt) : List CT := (l.map ntCs).flatten
theorem nts_len (l : List Nt) : (nts l).length = l.length * 5 := el_len (f := ntCs) (n := 5) (fun _ => rfl) l
theorem mem_snocG {α : Type} {P : α → Prop} {xs : List α} {x : α} (h : ∀ y ∈ xs, P y) (hx : P x) : ∀ y ∈ xs ++ [x], P y := fun y hy => by
  rcases List.mem_append.1 hy with h1 | h1
  · exact h y h1
  · rcases List.mem_singleton.1 h1 with rfl; exact hx
theorem Yx (bs : List Int) (p : Nat) (hb : Bytes bs) : OkB Tryz.prog 23 78 (codes bs p) [] (fun q : Ad × Nat => q.1 ≠ 0) (fun q => adrF q.1) (fun q => codes bs q.2) :=
  (Address_ok bs p hb).weak fun q hq => ⟨(⟨q.1.toNat, by omega⟩, q.2), fun h => by
    have h := congrArg _root_.Fin.val h
    have h0 : ((0 : Ad).val) = 0 := rfl
    rw [h0] at h
    dsimp only at h
    omega, by
    show adrC q.1 = adrC ((q.1.toNat : Nat) : Int)
    rw [Int.toNat_of_nonneg (by omega)], rfl⟩
theorem goScene : InGo Tryz.prog 57 := InGo.of Tryz.func57 rfl (by decide)
set_option maxHeartbeats 8000000 in
theorem scene_ok (bs : List Int) (p : Nat) (hb : Bytes bs) : OkB Tryz.prog 57 78 (codes bs p) [] (fun q : Nt × Nat => NtIn q.1) (fun q => .fr (aggT (ntCs q.1))) (fun q => codes bs q.2) := by
  refine OkB.enter Tryz.func57 J _ Tryz.ntmps57 J ?_
  intro S w g; refine Qw (Qx fun K hK => ?_); refine Qg 1 J J zvNet J J J (Qj (hK _ _ (Qz (Qw ?_)))); clear hK K; refine Qx (fun K hK => ?_); refine Qq J J J (Qe goTrace (Trace_ok bs p hb) J J J J J (fun q hq => ?_)); obtain ⟨va, ds, pr, p1⟩ := q; dsimp only at hq ⊢; refine Qi J bNet J (.agg J J J J .nil) J (Qg 2 J J zvNet J J J (Qa 5 J J J J J szNet J J (Qj (hK _ _ (Qz (Qw ?_)))))); clear hK K; refine Qx (fun K hK => ?_); refine QV J J J fH0 J (XK J J fR1t J (QY J J J J J lAddr J (QV J J J fH2 J (XY J J J J J zAddr (Nat.le_of_ble_eq_true J) (Qj (hK _ _ (Qz (Qw (Qw ?_))))))))); clear hK K; refine Qx (fun K hK => ?_); refine Qq J J J (Qe goBool (BoolB_ok bs p1 4 (by decide) (by decide) hb) J J J J J (fun q _ => ?_)); obtain ⟨b1, p2⟩ := q; dsimp only; refine Qj (hK _ _ (Qz ?_)); clear hK K; refine Xo (α := Ad × Nat) (fun x => x.1 ≠ 0) (fun _ => [(0, .own 0), (2, .own 1), (3, .own 2)]) (fun x => [(2, .box 113 [intC va, adrF ds, intC pr, .ex (.slice none 0 0), adrF x.1]), (1, .box 113 (zNet.cells.toList.map CT.ex)), (0, .box 78 (codes bs x.2))]) (fun x hla => ?_) (fun KK hN => ?_); rotate_left
  · refine XZ J (fun _ => ?_) (fun _ => ?_)
    · refine Qx (fun K hK => ?_); refine Qq J J J (Qe Zc (Yx bs p2 hb) J J J J J (fun q hla => ?_)); obtain ⟨a, p3⟩ := q; dsimp only at hla ⊢; refine QV J J J fH2 J (XY J J J J J zAddr (Nat.le_of_ble_eq_true J) (Qj (hK _ _ ?_))); clear hK K; exact Qr hN (a, p3) hla (by exact QX J ⟨rfl, rfl, rfl, trivial⟩)
    · refine Q1 ?_
      exact Qr hN (ds, p2) hq.2.1 (by exact QX J ⟨rfl, rfl, rfl, trivial⟩)
  obtain ⟨la, p4⟩ := x; dsimp only at hla ⊢; refine Qw (Qx fun K hK => ?_); refine Qq J J J (Qe goNext (Next_ok bs p4 3 (by decide) (by decide) hb) J J J J J (fun q hq2 => ?_)); obtain ⟨lo, p5⟩ := q; dsimp only at hq2 ⊢
  refine Qk (iadd (by omega) (by omega)) J J J J ?_
  refine Qv J J J (Qj (hK _ _ (Qz (Qw (Qw ?_))))); clear hK K; refine Qx (fun K hK => ?_); refine Qv J J J (Qj (hK _ _ (Qz (Q5 ?_)))); clear hK K
  refine St.nilX 3 28 1 J J ?_
  refine Xx (α := Int × List (List Ad) × Value × Nat) (fun x => x.1 = x.2.1.length ∧ x.2.1.length ≤ 3 ∧ (∀ q ∈ x.2.1, 1 ≤ q.length ∧ q.length ≤ 3) ∧ x.2.2.1.oneCell' = true)
    (fun x => [(0, .own 0), (2, .own 1), (3, .own 2), (4, .ct (intC (1 + lo))), (5, .ct (intC x.1))])
    (fun x => [(3, .rowx x.2.2.1 28 1 (pths x.2.1)), (2, .box 113 [intC va, adrF ds, intC pr, .ex x.2.2.1, adrF la]), (1, .box 113 (zNet.cells.toList.map CT.ex)), (0, .box 78 (codes bs x.2.2.2))])
    (fun x => 3 - x.2.1.length) (0, [], .slice none 0 0, p5) ⟨rfl, by simp, by simp, rfl⟩ (by exact QX J ⟨rfl, rfl, rfl, rfl, rfl, trivial⟩) ?_
  rintro ⟨f, ps, v, p6⟩ ⟨hf, hfl, hps, hv⟩
  dsimp only at hf hfl hps hv ⊢; refine Qw (Qw (Qx fun K hK => ?_)); refine Qq J J J (Qq J J J (Qe goNext (Next_ok bs p6 3 (by decide) (by decide) hb) J J J J J (fun q hq3 => ?_))); obtain ⟨x, p7⟩ := q; dsimp only at hq3 ⊢
  refine Qk (iadd (by omega) (by omega)) J J J J ?_
  refine Qk ilss J J J J (Qj (hK _ _ (Qz ?_))); clear hK K; refine Q2 J (fun hk => ?_) (fun hk => ?_)
  · refine Q1 (Qz (Qw (Q5 (Qw (Qx fun K hK => ?_))))); refine Qv J J J (Qj (hK _ _ (Qz (Qw (Qw ?_))))); clear hK K; refine Qx (fun K hK => ?_); refine Qv J J J (Qj (hK _ _ (Qz (Q5 ?_)))); clear hK K
    refine Xg 6 4 27 1 J J J ?_
    skip
    refine Xx (α := Int × List Ad × Nat) (fun x => 0 ≤ x.1 ∧ x.2.1.length = x.1 ∧ x.1 ≤ 1 + lo)
      (fun x => [(0, .own 0), (2, .own 1), (3, .own 2), (4, .ct (intC (1 + lo))), (5, .ct (intC f)), (6, .own 4), (7, .ct (intC x.1))])
      (fun x => [(4, .row 27 1 (adrs x.2.1)), (3, .rowx v 28 1 (pths ps)), (2, .box 113 [intC va, adrF ds, intC pr, .ex v, adrF la]), (1, .box 113 (zNet.cells.toList.map CT.ex)), (0, .box 78 (codes bs x.2.2))])
      (fun x => (1 + lo - x.1).toNat) (0, [], p7) ⟨by dsimp only; omega, rfl, by dsimp only; omega⟩ (by exact QX J ⟨rfl, rfl, rfl, rfl, rfl, rfl, rfl, trivial⟩) ?_
    rintro ⟨i, pp, p8⟩ ⟨hi0, hil, hi1⟩
    dsimp only at hi0 hil hi1 ⊢; refine Qw (Qw (Qx fun K hK => ?_)); refine Qq J J J (Qq J J J (Qk ilss J J J J (Qj (hK _ _ (Qz ?_))))); clear hK K; refine Q2 J (fun hi => ?_) (fun hi => ?_)
    · refine Q1 (Qz (Qw (Q5 (Qw (Qx fun K hK => ?_))))); refine Qq J J J (Qe Zc (Yx bs p8 hb) J J J J J (fun q _ => ?_)); obtain ⟨a0, p9⟩ := q; dsimp only; refine Qv J J J (Qj (hK _ _ (Qz (Qw (Qw ?_))))); clear hK K; refine Qx (fun K hK => ?_); refine Qq J J J (Qe goBool (BoolB_ok bs p9 6 (by decide) (by decide) hb) J J J J J (fun q _ => ?_)); obtain ⟨b2, p10⟩ := q; dsimp only; refine Qj (hK _ _ (Qz ?_)); clear hK K
      refine Xo (α := Ad) (fun _ => True) (fun a => [(0, .own 0), (2, .own 1), (3, .own 2), (4, .ct (intC (1 + lo))), (5, .ct (intC f)), (6, .own 4), (7, .ct (intC i)), (8, .ct (adrF a))])
        (fun _ => [(4, .row 27 1 (adrs pp)), (3, .rowx v 28 1 (pths ps)), (2, .box 113 [intC va, adrF ds, intC pr, .ex v, adrF la]), (1, .box 113 (zNet.cells.toList.map CT.ex)), (0, .box 78 (codes bs p10))]) (fun a _ => ?_) (fun KK hN => ?_)
      rotate_left
      · refine XZ J (fun _ => ?_) (fun _ => ?_)
        · refine Qx (fun K hK => ?_); refine Qv J J J (Qj (hK _ _ ?_)); clear hK K; exact Qr hN 0 trivial (by exact QX J ⟨rfl, rfl, rfl, rfl, rfl, rfl, rfl, rfl, trivial⟩)
        · refine Q1 ?_
          exact Qr hN a0 trivial (by exact QX J ⟨rfl, rfl, rfl, rfl, rfl, rfl, rfl, rfl, trivial⟩)
      refine Qw (Qw (Qx fun K hK => ?_)); refine Qq J J J (Qk igtr J J J J (Qq J J J (Q7 42 (p := 0 < f) J (fun h0 => ?_) (fun h0 => ?_))))
      · have hp0 : 0 < ps.length := by omega
        refine Qq J J J (QV J J J fH1 J (QY J J J J J lPths J (Ops.linkX 45 3 J J (Ops.idxX ps.length J J J (pths_len ps) J sPths (by decide) (by omega) J ?_)))); refine QY J J J J (pths_get hp0) lAdrs J (Qb J J sAdrs.und (List.length_map ..) J (Qk ilss J J J J (QJ J J J J (Qq J J J (Q7 51 (p := i < ((ps.getD 0 []).length : Int)) J (fun h1 => ?_) (fun h1 => ?_))))))
        · refine Qq J J J (Qe goBool (BoolB_ok bs p10 3 (by decide) (by decide) hb) J J J J J (fun q _ => ?_)); obtain ⟨b3, p11⟩ := q; dsimp only; refine Qm J J J (QJ J J J J (Qj (hK _ _ (Qz ?_)))); clear hK K; refine XZ J (fun _ => ?_) (fun _ => ?_)
          · refine Qx (fun K hK => ?_); refine QV J J J fH1 J (QY J J J J J lPths J (Ops.linkX 57 3 J J (Ops.idxX ps.length J J J (pths_len ps) J sPths (by decide) (by omega) J ?_))); refine QY J J J J (pths_get hp0) lAdrs J (Qq J J J (Qh J J J sAdrs (by omega) (adrs_at (by omega) (by omega)) J ?_)); refine XQ J J J lAddr J (Qv J J J (Qj (hK _ _ (Qz ?_)))); clear hK K; refine Qx (fun K hK => ?_); refine Qq J J J (Qq J J J (Zj J J sAdrs J J J (Qt pp.length (adrs (pp ++ [(ps.getD 0 []).getD i.toNat 0])) J J J J sAdrs (by simp [adrs]) J (by omega) (by omega) (by simp [adrs]) J ?_))); refine Qv J J J (Qj (hK _ _ (Qz ?_))); clear hK K; refine Qx (fun K hK => ?_); refine Qq J J J (Qk (iadd (by omega) (by omega)) J J J J ?_); refine Qv J J J (Qj (hK _ _ (Q4 ?_))); clear hK K; refine Q8 (i + 1, pp ++ [(ps.getD 0 []).getD i.toNat 0], p11) (by dsimp only; omega) ⟨by dsimp only; omega, by simp; omega, by dsimp only; omega⟩ (by exact QX J ⟨rfl, rfl, rfl, rfl, rfl, rfl, rfl, trivial⟩)
          · skip; refine Q1 (Qz (Qx fun K hK => ?_)); refine Qq J J J (Qq J J J (Zj J J sAdrs J J J (Qt pp.length (adrs (pp ++ [a])) J J J J sAdrs (by simp [adrs]) J (by omega) (by omega) (by simp [adrs]) J ?_))); refine Qv J J J (Qj (hK _ _ (Qz ?_))); clear hK K; refine Qx (fun K hK => ?_); refine Qq J J J (Qk (iadd (by omega) (by omega)) J J J J ?_); refine Qv J J J (Qj (hK _ _ (Q4 ?_))); clear hK K; refine Q8 (i + 1, pp ++ [a], p11) (by dsimp only; omega) ⟨by dsimp only; omega, by simp; omega, by dsimp only; omega⟩ (by exact QX J ⟨rfl, rfl, rfl, rfl, rfl, rfl, rfl, trivial⟩)
        · skip; refine Qy J J J (Qy J J J (Qy J J J (QK J J J J (Qj (hK _ _ (Qz (Xv J (Q1 (Qz ?_))))))))); clear hK K; refine Qx (fun K hK => ?_); refine Qq J J J (Qq J J J (Zj J J sAdrs J J J (Qt pp.length (adrs (pp ++ [a])) J J J J sAdrs (by simp [adrs]) J (by omega) (by omega) (by simp [adrs]) J ?_))); refine Qv J J J (Qj (hK _ _ (Qz ?_))); clear hK K; refine Qx (fun K hK => ?_); refine Qq J J J (Qk (iadd (by omega) (by omega)) J J J J ?_); refine Qv J J J (Qj (hK _ _ (Q4 ?_))); clear hK K; refine Q8 (i + 1, pp ++ [a], p10) (by dsimp only; omega) ⟨by dsimp only; omega, by simp; omega, by dsimp only; omega⟩ (by exact QX J ⟨rfl, rfl, rfl, rfl, rfl, rfl, rfl, trivial⟩)
      · skip; refine Qy J J J (Qy J J J (Qy J J J (Qy J J J (Qy J J J (Qy J J J (Qy J J J (QK J J J J (Qq J J J (Qy J J J (Qy J J J (Qy J J J (QK J J J J (Qj (hK _ _ (Qz (Xv J (Q1 (Qz ?_)))))))))))))))))); clear hK K; refine Qx (fun K hK => ?_); refine Qq J J J (Qq J J J (Zj J J sAdrs J J J (Qt pp.length (adrs (pp ++ [a])) J J J J sAdrs (by simp [adrs]) J (by omega) (by omega) (by simp [adrs]) J ?_))); refine Qv J J J (Qj (hK _ _ (Qz ?_))); clear hK K; refine Qx (fun K hK => ?_); refine Qq J J J (Qk (iadd (by omega) (by omega)) J J J J ?_); refine Qv J J J (Qj (hK _ _ (Q4 ?_))); clear hK K; refine Q8 (i + 1, pp ++ [a], p10) (by dsimp only; omega) ⟨by dsimp only; omega, by simp; omega, by dsimp only; omega⟩ (by exact QX J ⟨rfl, rfl, rfl, rfl, rfl, rfl, rfl, trivial⟩)
    · refine St.frz 4 _ J (adrs_frozen _ _) (Zs J) (Qs (Qz (Qx fun K hK => ?_))); refine QV J J J fH1 J (QY J J J J J lPths J (Qq J J J (Zj J J sPths J J J (Ops.link 68 3 J J (Qt ps.length (pths (ps ++ [pp])) J J J J sPths (pths_len ps) J (by omega) (by omega) (by simp [pths]) J ?_))))); refine QV J J J fH1 J (Ops.name 71 3 J J (fun v' hv' => ?_)); refine XY (c := .ex v') J J J J hv' zPths (Nat.le_of_ble_eq_true J) (Qj (hK _ _ (Qz ?_))); clear hK K; refine Qx (fun K hK => ?_); refine Qq J J J (Qk (iadd (by omega) (by omega)) J J J J ?_); refine Qv J J J (Qj (hK _ _ (Q4 ?_))); clear hK K; refine Q8 (f + 1, ps ++ [pp], v', p8) (by simp; omega) ⟨by simp; omega, by simp; omega, mem_snocG hps (by omega), hv'⟩ (by exact QX J ⟨rfl, rfl, rfl, rfl, rfl, trivial⟩)
  · refine St.frzX 3 2 3 _ J J J (pths_frozen _ _) (Zs J) (Qs (Qz (Qw (Qx fun K hK => ?_)))); refine Q6 (n := 5) J J J J J lNet J (Qa 5 J J J J J szNet J J (Qj (hK _ _ (Qz (Q0 ?_))))); clear hK K; refine Fin.endB (⟨va, ds, pr, ps, la⟩, p7) [_] rfl (Qc (n := 5) J J lNet J QQ) J J ⟨hq.1.1, hq.1.2, hq.2.1, hq.2.2, hla, by dsimp only; omega, hfl, hps⟩
end Go.Proofs.YtlkdkbdgnjcopaaGreat
namespace Go.Proofs.YtlkdkbdgnjcopaaGreat
open Go.Own Go.Limbs
attribute [local irreducible] St Ops Go.Own.Fin Ok OkB OkN OkT OkL OkF
abbrev spE (s : Sp) : Value := Go.Own.encI [.i64, .i64] [s.1, s.2]
theorem eqSp : EqS Tryz.prog 188 [.i64, .i64] := ⟨by kernel_rfl, by kernel_rfl, by kernel_rfl, by kernel_rfl⟩
theorem Xp : KeyT Tryz.prog 188 spE := eqSp.flat.key (fun s : Sp => [s.1, s.2]) (fun _ => rfl) (fun a b h => by
  obtain ⟨a1, a2⟩ := a; obtain ⟨b1, b2⟩ := b
  simp only [List.cons.injEq, and_true] at h
  rw [h.1, h.2])
theorem uMAd : Tryz.prog.underlying 181 = some (.map 188 27) := Tryz.underlying181
theorem uMSt : Tryz.prog.underlying 182 = some (.map 188 3) := Tryz.underlying182
theorem lMAd : Ld1 Tryz.prog 181 := Ld1.of _ Tryz.underlying181 rfl
theorem lMSt : Ld1 Tryz.prog 182 := Ld1.of _ Tryz.underlying182 rfl
theorem fV0 : fldInfo Tryz.prog 184 0 = some (0, some 1) := by kernel_rfl
theorem fV1 : fldInfo Tryz.prog 184 1 = some (1, some 1) := by kernel_rfl
theorem fV2 : fldInfo Tryz.prog 184 2 = some (2, some 1) := by kernel_rfl
theorem lView : LdN Tryz.prog 184 3 := LdN.of _ Tryz.underlying184 rfl (by kernel_rfl)
theorem szView : (Tryz.prog.info? 184).map (·.size) = some 3 := by kernel_rfl
theorem zvView : (Tryz.prog.info? 184).map (·.zero) = some (some (.agg #[.int .i64 0, .map none, .map none])) := by kernel_rfl
theorem bView : bInfo Tryz.prog 184 = some (.agg #[.int .i64 0, .map none, .map none], [(0, some 1), (1, some 1), (2, some 1)]) := by kernel_rfl
theorem Y7 : LdN Tryz.prog 188 2 := LdN.of _ Tryz.underlying188 rfl (by kernel_rfl)
theorem szSpot : (Tryz.prog.info? 188).map (·.size) = some 2 := by kernel_rfl
theorem zvSpot : (Tryz.prog.info? 188).map (·.zero) = some (some (.agg #[.int .i64 0, .int .i64 0])) := by kernel_rfl
theorem bSpot : bInfo Tryz.prog 188 = some (.agg #[.int .i64 0, .int .i64 0], [(0, some 1), (1, some 1)]) := by kernel_rfl
theorem z0Int (w : World) : (zeroValue 3).run Tryz.prog w = .ok (.int .i64 0) w := Xs (by kernel_rfl) w
theorem z0Adr (w : World) : (zeroValue 27).run Tryz.prog w = .ok (.int .u32 0) w := Xs (by kernel_rfl) w
abbrev adM (m : AdM) : List (Value × CT) := kvs spE adrF m
abbrev stM (m : StM) : List (Value × CT) := kvs spE intC m
abbrev viewC (e : Int) (m : AdM × StM) : CT := .fr (aggT [intC e, .fr (mapT (adM m.1)), .fr (mapT (stM m.2))])
theorem goHas : InGo Tryz.prog 129 := InGo.of Tryz.func129 rfl (by decide)
theorem Has_ok (e fl tt : Int) (m : AdM × StM) : Ok Tryz.prog 129 [viewC e m, intC fl, intC tt] (boolC (hasS m.2 fl tt)) := by
  have e0 : hasS m.2 fl tt = (decide ((look1 m.2 (fl, tt)).getD 0 = 2) || decide ((look1 m.2 (fl, tt)).getD 0 = 1)) := rfl
  refine Ok.enter Tryz.func129 J _ Tryz.ntmps129 J ?_
  intro S w; refine Qw (Qx fun K hK => ?_); refine Xz 0 J J J J J J J (Qv J J J (Qj (hK _ _ (Qz (Qw ?_))))); clear hK K; refine Qx (fun K hK => ?_); refine QV J J J fV2 J (QY J J J J J lMSt J (Qq J J J (Qq J J J (Qi J bSpot J (.one J J J J (.one J J J J .nil)) J (Ops.lookF (cv := intC) (enc := spE) 0 (fl, tt) J J J (KeyIs.agg (us := [.int .i64 fl, .int .i64 tt]) J) uMSt z0Int (fun _ _ => rfl) Xp J ?_))))); generalize (look1 m.2 (fl, tt)).getD 0 = q at e0; refine Qv J J J (Qj (hK _ _ (Qz (Qw ?_)))); clear hK K; refine Qx (fun K hK => ?_); refine Qq J J J (Qk ieql J J J J (Qq J J J (Q7 16 (p := q = 2) J (fun h => ?_) (fun h => ?_))))
  · refine Qy J J J (Qy J J J (QJ J J J J (Qv J J J (Qj (hK _ _ (Qz (Q0 ?_))))))); clear hK K; refine QU [_] rfl (Qu J QQ) (by rw [e0, decide_eq_true h, Bool.true_or]; rfl) J
  · refine Qq J J J (Qk ieql J J J J (QK J J J J (Qv J J J (Qj (hK _ _ (Qz (Q0 ?_))))))); clear hK K; refine QU [_] rfl (Qu J QQ) (by rw [e0, decide_eq_false h, Bool.false_or]; rfl) J
theorem goLook : InGo Tryz.prog 128 := InGo.of Tryz.func128 rfl (by decide)
set_option maxHeartbeats 8000000 in
theorem Look_ok (l : List Rs) (hl : l.length ≤ 100000) : Ok Tryz.prog 128 [rssC l] (viewC (endF l) (lookG l)) := by
  have hE := End_ok l hl; have e0 : lookG l = l.foldl (lookS (endF l)) ([], []) := rfl; rw [e0]; clear e0; generalize endF l = e at hE ⊢
  refine Ok.enter Tryz.func128 J _ Tryz.ntmps128 J ?_
  intro S w; refine Qw (Qx fun K hK => ?_); refine Qg 0 J J zvView J J J (Qj (hK _ _ (Qz (Qw ?_)))); clear hK K; refine Qx (fun K hK => ?_); refine Qq J J J (QW goEnd hE J J J J (Ops.mkMap 8 J J J J J (fun v1 hv1 => ?_))); refine Ops.mkMap 9 J J J J J (fun v2 hv2 => ?_); refine Qi J bView J (.one J J J J (.one J J hv1 J (.one J J hv2 J .nil))) J (Qg 1 J J zvView J J J (Qa 3 J J J J (by show (true && (Value.oneCell' v1 && (Value.oneCell' v2 && true))) = true; rw [hv1, hv2]; rfl) szView J J ?_)); refine Qj (hK _ _ (Qz (Qw (Qw ?_)))); clear hK K; refine Qx (fun K hK => ?_); refine Qq J J J (Qb J J sRes.und (List.length_map ..) J (Qq J J J (Qj (hK _ _ (Qz (Q5 ?_)))))); clear hK K
  refine Xx (α := Nat) (fun i => i ≤ l.length)
    (fun i => [(2, .own 0), (3, .own 1), (13, .ct (rssC l)), (14, .ct (intC l.length)), (15, .ct (intC i))])
    (fun i => [(1, .box 184 [intC e, .ex v1, .ex v2]), (9, .mpx v2 (stM ((l.take i).foldl (lookS e) ([], [])).2)), (8, .mpx v1 (adM ((l.take i).foldl (lookS e) ([], [])).1)), (0, .box 184 [intC 0, .ex (.map none), .ex (.map none)])])
    (fun i => l.length - i) 0 (Nat.zero_le _) (by exact QX J ⟨rfl, rfl, rfl, rfl, rfl, trivial⟩) ?_
  intro i hi
  try dsimp only at hi ⊢
  refine Qw (Qx fun K hK => ?_); refine Qk ilss J J J J (Qj (hK _ _ (Qz (Qw ?_)))); clear hK K; refine Q2 J (fun h => ?_) (fun h => ?_)
  · have e2 : (i : Int).toNat = i := Int.toNat_natCast i; have hs := YY (lookS e) ([], []) (z := rs0) (l := l) (i := i) (by omega); generalize (l.take i).foldl (lookS e) ([], []) = m at hs ⊢
    have next : ∀ m' : AdM × StM, lookS e m (l.getD i rs0) = m' → (l.take (i + 1)).foldl (lookS e) ([], []) = m' := fun m' h => by rw [hs, h]
    clear hs; refine Q1 (Qz (Qw ?_))
    refine Xo (α := AdM × StM) (fun q => lookS e m (l.getD i rs0) = q) (fun _ => [(2, .own 0), (3, .own 1), (13, .ct (rssC l)), (14, .ct (intC l.length)), (15, .ct (intC i))])
      (fun q => [(1, .box 184 [intC e, .ex v1, .ex v2]), (9, .mpx v2 (stM q.2)), (8, .mpx v1 (adM q.1)), (0, .box 184 [intC 0, .ex (.map none), .ex (.map none)])]) (fun q hq => ?_) (fun KN hM => ?_)
    · have en := next q hq; refine Qx (fun K hK => ?_)
      refine Qk (iadd (by omega) (by omega)) J J J J ?_
      refine Qq J J J (Qj (hK _ _ (Q4 ?_))); clear hK K; refine Q8 (i + 1) (by omega) (by omega) (by rw [en]; exact QX J ⟨rfl, rfl, rfl, rfl, by simp only [Int.natCast_add]; rfl, trivial⟩)
    clear next; refine Q5 (Qw (Qx (fun K hK => ?_)))
    refine Qh J J J sRes (by omega) (Xd (by omega) (by omega)) J ?_
    rw [e2]; generalize l.getD i rs0 = c at hM ⊢; refine XX (n := 17) J J J lRes J J (Qg 2 J J zvRes J J J (Qa 17 J J J J J Z4 J J (Qj (hK _ _ ?_)))); clear hK K
    refine Qz ?_
    have hU := Usable_ok c
    have es : lookS e m c = if usR c = false ∨ (0 < e ∧ e < c.tt) then m
      else if c.an = false then (m.1, ins m.2 (c.fl, c.tt) (max ((look1 m.2 (c.fl, c.tt)).getD 0) 1))
      else if (look1 m.2 (c.fl, c.tt)).getD 0 ≤ 1 then (ins m.1 (c.fl, c.tt) c.fr, ins m.2 (c.fl, c.tt) 2)
      else if (look1 m.2 (c.fl, c.tt)).getD 0 = 2 ∧ (look1 m.1 (c.fl, c.tt)).getD 0 ≠ c.fr then (ins m.1 (c.fl, c.tt) 0, ins m.2 (c.fl, c.tt) 3)
      else m := rfl
    generalize usR c = ub at hU es; refine Qw (Qw ?_)
    refine Xo (α := Bool) (fun b => b = true ↔ (ub = false ∨ (0 < e ∧ e < c.tt)))
      (fun b => [(2, .own 0), (3, .own 1), (5, .own 2), (13, .ct (rssC l)), (14, .ct (intC l.length)), (15, .ct (intC i)), (33, .ct (boolC b))])
      (fun _ => [(2, .box 35 (rsCs c)), (1, .box 184 [intC e, .ex v1, .ex v2]), (9, .mpx v2 (stM m.2)), (8, .mpx v1 (adM m.1)), (0, .box 184 [intC 0, .ex (.map none), .ex (.map none)])]) (fun b hb => ?_) (fun KK hN => ?_)
    rotate_left
    · refine Qx (fun K hK => ?_); refine Q6 (n := 17) J J J J J lRes J (QW goUsable hU J J J J (Qm J J J (Qq J J J (X3 22 (b := !ub) J (fun h1 => ?_) (fun h1 => ?_)))))
      · refine Qy J J J (Qy J J J (Qy J J J (Qy J J J (Qy J J J (Qy J J J (Qy J J J (Qy J J J (Qy J J J (Qy J J J (QJ J J J J (Qj (hK _ _ ?_)))))))))))); clear hK K; exact Qr hN true (iff_of_true J (.inl (by simpa using h1))) (by exact QX J ⟨rfl, rfl, rfl, rfl, rfl, rfl, rfl, trivial⟩)
      · have hub : ub = true := by simpa using h1
        refine QV J J J fV0 J (QY J J J J J lInt J (Qk igtr J J J J (Qq J J J (Q7 26 (p := 0 < e) J (fun h3 => ?_) (fun h3 => ?_)))))
        · refine QV J J J fS7 J (QY J J J J J lInt J (QV J J J fV0 J (QY J J J J J lInt J (Qk igtr J J J J (QJ J J J J (QK J J J J (Qj (hK _ _ ?_)))))))); clear hK K; exact Qr hN (decide (e < c.tt)) (by rw [decide_eq_true_iff]; constructor; exact fun h => .inr ⟨h3, h⟩; exact fun h => h.elim (fun h => by rw [hub] at h; cases h) (·.2)) (by exact QX J ⟨rfl, rfl, rfl, rfl, rfl, rfl, rfl, trivial⟩)
        · refine Qy J J J (Qy J J J (Qy J J J (Qy J J J (Qy J J J (QK J J J J (QK J J J J (Qj (hK _ _ ?_)))))))); clear hK K; exact Qr hN false (iff_of_false (by decide) (fun h => h.elim (fun h => by rw [hub] at h; cases h) (fun h => h3 h.1))) (by exact QX J ⟨rfl, rfl, rfl, rfl, rfl, rfl, rfl, trivial⟩)
    cases b with
    | true =>
      have es : lookS e m c = m := by rw [es, if_pos (hb.1 J)]
      refine Qp J (Qs (Fin.thenExit (Fin.blockE ?_))); exact Qr hM _ es (Qn 2 (by exact QX J ⟨rfl, rfl, rfl, rfl, rfl, trivial⟩))
    | false =>
      rw [if_neg (fun h => by have := hb.2 h; cases this)] at es; refine Xv J (Q1 (Qz (Qw (Qx fun K hK => ?_)))); refine QV J J J fS6 J (QY J J J J J lInt J (QV J J J fS7 J (QY J J J J J lInt J (Qi J bSpot J (.one J J J J (.one J J J J .nil)) J (Qg 3 J J zvSpot J J J (Qa 2 J J J J J szSpot J J (Qj (hK _ _ (Qz (Qw ?_)))))))))); clear hK K; refine Qx (fun K hK => ?_); refine QV J J J fV2 J (QY J J J J J lMSt J (Q6 (n := 2) J J J J J Y7 J (Ops.lookM (i := 9) (cv := intC) (enc := spE) 0 (c.fl, c.tt) J J J J (KeyIs.agg (us := [.int .i64 c.fl, .int .i64 c.tt]) J) uMSt z0Int (fun _ _ => rfl) Xp J ?_))); generalize (look1 m.2 (c.fl, c.tt)).getD 0 = kn at es ⊢; refine Qv J J J (Qj (hK _ _ (Qz (Q5 (Qw ?_))))); clear hK K; refine Qx (fun K hK => ?_); refine QV J J J fS8 J (QY J J J J J lBool1 J (Qm J J J (Qv J J J (Qj (hK _ _ (Qz ?_)))))); clear hK K; refine XZ J (fun h1 => ?_) (fun h1 => ?_)
      · have h1' : c.an = false := by simpa using h1
        rw [if_pos h1'] at es; refine Qx (fun K hK => ?_); refine QV J J J fV2 J (QY J J J J J lMSt J (Q6 (n := 2) J J J J J Y7 J (Qq J J J (Ops.max2 J J J J (XJ (i := 9) (enc := spE) (cv := intC) (c.fl, c.tt) (max kn 1) J J J (KeyIs.agg (us := [.int .i64 c.fl, .int .i64 c.tt]) J) J uMSt Xp (Qj (hK _ _ (Qd (Qd ?_))))))))); clear hK K; exact Qr hM _ es (Qn 3 (Qn 2 (by exact QX J ⟨rfl, rfl, rfl, rfl, rfl, trivial⟩)))
      · have h1' : c.an = true := by simpa using h1
        rw [if_neg (fun h => by rw [h1'] at h; cases h)] at es; refine Qw (Qx fun K hK => ?_); refine Qq J J J (Qk ileq J J J J (Qv J J J (Qj (hK _ _ (Qz ?_))))); clear hK K; refine Q2 J (fun h2 => ?_) (fun h2 => ?_)
        · rw [if_pos h2] at es; refine Yq mixed [9, 10] (.p 0 (.p 3 (.p 6 (.p 7 (.f 1 (.f 2 (.m 4 (.m 5 (.m 8 (.a 9 (.a 10 .done .non) .non) (.a 9 (.f 8 (.a 10 .done .non)) .non)) (.m 8 (.m 5 (.a 9 (.a 10 .done .non) .non) (.a 9 (.f 5 (.a 10 .done .non)) .non)) (.a 9 (.f 5 (.f 8 (.a 10 .done .non))) .non))) (.m 5 (.m 4 (.m 8 (.a 9 (.a 10 .done .non) .non) (.a 9 (.f 8 (.a 10 .done .non)) .non)) (.m 8 (.m 4 (.a 9 (.a 10 .done .non) .non) (.a 9 (.f 4 (.a 10 .done .non)) .non)) (.a 9 (.f 4 (.f 8 (.a 10 .done .non))) .non))) (.m 8 (.m 4 (.m 5 (.a 9 (.a 10 .done .non) .non) (.a 9 (.f 5 (.a 10 .done .non)) .non)) (.m 5 (.m 4 (.a 9 (.a 10 .done .non) .non) (.a 9 (.f 4 (.a 10 .done .non)) .non)) (.a 9 (.f 4 (.f 5 (.a 10 .done .non))) .non))) (.a 9 (.f 4 (.f 5 (.f 8 (.a 10 .done .non)))) .non)))))))))) (by kernel_rfl) (fun K hK => ?_); refine Qo (QV J J J fV2 J (Qj (Qo (QV J J J fV1 J (Qj (Qo (QV J J J fS11 J (Qj (Qo (XK J J fN0 J (Qj (XU (QY J J J J J lMSt J (Qj (XU (Q6 (n := 2) J J J J J Y7 J (Qj (X1 ?_ ?_))))))))))))))))))
          · refine QY J J J J J lMAd J (Qj (X1 ?_ ?_))
            · refine Q6 (n := 2) J J J J J Y7 J (Qj (X1 ?_ ?_))
              · refine QY J J J J J lAddr J (Qj (Xk ?_ Qf)); refine XJ (i := 9) (enc := spE) (cv := intC) (c.fl, c.tt) 2 J J J (KeyIs.agg (us := [.int .i64 c.fl, .int .i64 c.tt]) J) J uMSt Xp (Qj (Xk ?_ Qf)); refine XJ (i := 8) (enc := spE) (cv := adrF) (c.fl, c.tt) c.fr J J J (KeyIs.agg (us := [.int .i64 c.fl, .int .i64 c.tt]) J) J uMAd Xp (Qj (Xy (hK _ _ ?_))); refine Qd (Qd ?_); exact Qr hM _ es (Qn 3 (Qn 2 (by exact QX J ⟨rfl, rfl, rfl, rfl, rfl, trivial⟩)))
              refine Xk ?_ Qf
              refine XJ (i := 9) (enc := spE) (cv := intC) (c.fl, c.tt) 2 J J J (KeyIs.agg (us := [.int .i64 c.fl, .int .i64 c.tt]) J) J uMSt Xp (Qj (XU (QY J J J J J lAddr J (Qj (Xk ?_ Qf))))); refine XJ (i := 8) (enc := spE) (cv := adrF) (c.fl, c.tt) c.fr J J J (KeyIs.agg (us := [.int .i64 c.fl, .int .i64 c.tt]) J) J uMAd Xp (Qj (Xy (hK _ _ ?_))); refine Qd (Qd ?_); exact Qr hM _ es (Qn 3 (Qn 2 (by exact QX J ⟨rfl, rfl, rfl, rfl, rfl, trivial⟩)))
            refine X1 ?_ ?_
            · refine QY J J J J J lAddr J (Qj (X1 ?_ ?_))
              · refine Q6 (n := 2) J J J J J Y7 J (Qj (Xk ?_ Qf)); refine XJ (i := 9) (enc := spE) (cv := intC) (c.fl, c.tt) 2 J J J (KeyIs.agg (us := [.int .i64 c.fl, .int .i64 c.tt]) J) J uMSt Xp (Qj (Xk ?_ Qf)); refine XJ (i := 8) (enc := spE) (cv := adrF) (c.fl, c.tt) c.fr J J J (KeyIs.agg (us := [.int .i64 c.fl, .int .i64 c.tt]) J) J uMAd Xp (Qj (Xy (hK _ _ ?_))); refine Qd (Qd ?_); exact Qr hM _ es (Qn 3 (Qn 2 (by exact QX J ⟨rfl, rfl, rfl, rfl, rfl, trivial⟩)))
              refine Xk ?_ Qf
              refine XJ (i := 9) (enc := spE) (cv := intC) (c.fl, c.tt) 2 J J J (KeyIs.agg (us := [.int .i64 c.fl, .int .i64 c.tt]) J) J uMSt Xp (Qj (XU (Q6 (n := 2) J J J J J Y7 J (Qj (Xk ?_ Qf))))); refine XJ (i := 8) (enc := spE) (cv := adrF) (c.fl, c.tt) c.fr J J J (KeyIs.agg (us := [.int .i64 c.fl, .int .i64 c.tt]) J) J uMAd Xp (Qj (Xy (hK _ _ ?_))); refine Qd (Qd ?_); exact Qr hM _ es (Qn 3 (Qn 2 (by exact QX J ⟨rfl, rfl, rfl, rfl, rfl, trivial⟩)))
            refine Xk ?_ Qf
            refine XJ (i := 9) (enc := spE) (cv := intC) (c.fl, c.tt) 2 J J J (KeyIs.agg (us := [.int .i64 c.fl, .int .i64 c.tt]) J) J uMSt Xp (Qj (XU (Q6 (n := 2) J J J J J Y7 J (Qj (XU (QY J J J J J lAddr J (Qj (Xk ?_ Qf)))))))); refine XJ (i := 8) (enc := spE) (cv := adrF) (c.fl, c.tt) c.fr J J J (KeyIs.agg (us := [.int .i64 c.fl, .int .i64 c.tt]) J) J uMAd Xp (Qj (Xy (hK _ _ ?_))); refine Qd (Qd ?_); exact Qr hM _ es (Qn 3 (Qn 2 (by exact QX J ⟨rfl, rfl, rfl, rfl, rfl, trivial⟩)))
          refine X1 ?_ ?_
          · refine Q6 (n := 2) J J J J J Y7 J (Qj (X1 ?_ ?_))
            · refine QY J J J J J lMAd J (Qj (X1 ?_ ?_))
              · refine QY J J J J J lAddr J (Qj (Xk ?_ Qf)); refine XJ (i := 9) (enc := spE) (cv := intC) (c.fl, c.tt) 2 J J J (KeyIs.agg (us := [.int .i64 c.fl, .int .i64 c.tt]) J) J uMSt Xp (Qj (Xk ?_ Qf)); refine XJ (i := 8) (enc := spE) (cv := adrF) (c.fl, c.tt) c.fr J J J (KeyIs.agg (us := [.int .i64 c.fl, .int .i64 c.tt]) J) J uMAd Xp (Qj (Xy (hK _ _ ?_))); refine Qd (Qd ?_); exact Qr hM _ es (Qn 3 (Qn 2 (by exact QX J ⟨rfl, rfl, rfl, rfl, rfl, trivial⟩)))
              refine Xk ?_ Qf
              refine XJ (i := 9) (enc := spE) (cv := intC) (c.fl, c.tt) 2 J J J (KeyIs.agg (us := [.int .i64 c.fl, .int .i64 c.tt]) J) J uMSt Xp (Qj (XU (QY J J J J J lAddr J (Qj (Xk ?_ Qf))))); refine XJ (i := 8) (enc := spE) (cv := adrF) (c.fl, c.tt) c.fr J J J (KeyIs.agg (us := [.int .i64 c.fl, .int .i64 c.tt]) J) J uMAd Xp (Qj (Xy (hK _ _ ?_))); refine Qd (Qd ?_); exact Qr hM _ es (Qn 3 (Qn 2 (by exact QX J ⟨rfl, rfl, rfl, rfl, rfl, trivial⟩)))
            refine X1 ?_ ?_
            · refine QY J J J J J lAddr J (Qj (X1 ?_ ?_))
              · refine QY J J J J J lMAd J (Qj (Xk ?_ Qf)); refine XJ (i := 9) (enc := spE) (cv := intC) (c.fl, c.tt) 2 J J J (KeyIs.agg (us := [.int .i64 c.fl, .int .i64 c.tt]) J) J uMSt Xp (Qj (Xk ?_ Qf)); refine XJ (i := 8) (enc := spE) (cv := adrF) (c.fl, c.tt) c.fr J J J (KeyIs.agg (us := [.int .i64 c.fl, .int .i64 c.tt]) J) J uMAd Xp (Qj (Xy (hK _ _ ?_))); refine Qd (Qd ?_); exact Qr hM _ es (Qn 3 (Qn 2 (by exact QX J ⟨rfl, rfl, rfl, rfl, rfl, trivial⟩)))
              refine Xk ?_ Qf
              refine XJ (i := 9) (enc := spE) (cv := intC) (c.fl, c.tt) 2 J J J (KeyIs.agg (us := [.int .i64 c.fl, .int .i64 c.tt]) J) J uMSt Xp (Qj (XU (QY J J J J J lMAd J (Qj (Xk ?_ Qf))))); refine XJ (i := 8) (enc := spE) (cv := adrF) (c.fl, c.tt) c.fr J J J (KeyIs.agg (us := [.int .i64 c.fl, .int .i64 c.tt]) J) J uMAd Xp (Qj (Xy (hK _ _ ?_))); refine Qd (Qd ?_); exact Qr hM _ es (Qn 3 (Qn 2 (by exact QX J ⟨rfl, rfl, rfl, rfl, rfl, trivial⟩)))
            refine Xk ?_ Qf
            refine XJ (i := 9) (enc := spE) (cv := intC) (c.fl, c.tt) 2 J J J (KeyIs.agg (us := [.int .i64 c.fl, .int .i64 c.tt]) J) J uMSt Xp (Qj (XU (QY J J J J J lMAd J (Qj (XU (QY J J J J J lAddr J (Qj (Xk ?_ Qf)))))))); refine XJ (i := 8) (enc := spE) (cv := adrF) (c.fl, c.tt) c.fr J J J (KeyIs.agg (us := [.int .i64 c.fl, .int .i64 c.tt]) J) J uMAd Xp (Qj (Xy (hK _ _ ?_))); refine Qd (Qd ?_); exact Qr hM _ es (Qn 3 (Qn 2 (by exact QX J ⟨rfl, rfl, rfl, rfl, rfl, trivial⟩)))
          refine X1 ?_ ?_
          · refine QY J J J J J lAddr J (Qj (X1 ?_ ?_))
            · refine QY J J J J J lMAd J (Qj (X1 ?_ ?_))
              · refine Q6 (n := 2) J J J J J Y7 J (Qj (Xk ?_ Qf)); refine XJ (i := 9) (enc := spE) (cv := intC) (c.fl, c.tt) 2 J J J (KeyIs.agg (us := [.int .i64 c.fl, .int .i64 c.tt]) J) J uMSt Xp (Qj (Xk ?_ Qf)); refine XJ (i := 8) (enc := spE) (cv := adrF) (c.fl, c.tt) c.fr J J J (KeyIs.agg (us := [.int .i64 c.fl, .int .i64 c.tt]) J) J uMAd Xp (Qj (Xy (hK _ _ ?_))); refine Qd (Qd ?_); exact Qr hM _ es (Qn 3 (Qn 2 (by exact QX J ⟨rfl, rfl, rfl, rfl, rfl, trivial⟩)))
              refine Xk ?_ Qf
              refine XJ (i := 9) (enc := spE) (cv := intC) (c.fl, c.tt) 2 J J J (KeyIs.agg (us := [.int .i64 c.fl, .int .i64 c.tt]) J) J uMSt Xp (Qj (XU (Q6 (n := 2) J J J J J Y7 J (Qj (Xk ?_ Qf))))); refine XJ (i := 8) (enc := spE) (cv := adrF) (c.fl, c.tt) c.fr J J J (KeyIs.agg (us := [.int .i64 c.fl, .int .i64 c.tt]) J) J uMAd Xp (Qj (Xy (hK _ _ ?_))); refine Qd (Qd ?_); exact Qr hM _ es (Qn 3 (Qn 2 (by exact QX J ⟨rfl, rfl, rfl, rfl, rfl, trivial⟩)))
            refine X1 ?_ ?_
            · refine Q6 (n := 2) J J J J J Y7 J (Qj (X1 ?_ ?_))
              · refine QY J J J J J lMAd J (Qj (Xk ?_ Qf)); refine XJ (i := 9) (enc := spE) (cv := intC) (c.fl, c.tt) 2 J J J (KeyIs.agg (us := [.int .i64 c.fl, .int .i64 c.tt]) J) J uMSt Xp (Qj (Xk ?_ Qf)); refine XJ (i := 8) (enc := spE) (cv := adrF) (c.fl, c.tt) c.fr J J J (KeyIs.agg (us := [.int .i64 c.fl, .int .i64 c.tt]) J) J uMAd Xp (Qj (Xy (hK _ _ ?_))); refine Qd (Qd ?_); exact Qr hM _ es (Qn 3 (Qn 2 (by exact QX J ⟨rfl, rfl, rfl, rfl, rfl, trivial⟩)))
              refine Xk ?_ Qf
              refine XJ (i := 9) (enc := spE) (cv := intC) (c.fl, c.tt) 2 J J J (KeyIs.agg (us := [.int .i64 c.fl, .int .i64 c.tt]) J) J uMSt Xp (Qj (XU (QY J J J J J lMAd J (Qj (Xk ?_ Qf))))); refine XJ (i := 8) (enc := spE) (cv := adrF) (c.fl, c.tt) c.fr J J J (KeyIs.agg (us := [.int .i64 c.fl, .int .i64 c.tt]) J) J uMAd Xp (Qj (Xy (hK _ _ ?_))); refine Qd (Qd ?_); exact Qr hM _ es (Qn 3 (Qn 2 (by exact QX J ⟨rfl, rfl, rfl, rfl, rfl, trivial⟩)))
            refine Xk ?_ Qf
            refine XJ (i := 9) (enc := spE) (cv := intC) (c.fl, c.tt) 2 J J J (KeyIs.agg (us := [.int .i64 c.fl, .int .i64 c.tt]) J) J uMSt Xp (Qj (XU (QY J J J J J lMAd J (Qj (XU (Q6 (n := 2) J J J J J Y7 J (Qj (Xk ?_ Qf)))))))); refine XJ (i := 8) (enc := spE) (cv := adrF) (c.fl, c.tt) c.fr J J J (KeyIs.agg (us := [.int .i64 c.fl, .int .i64 c.tt]) J) J uMAd Xp (Qj (Xy (hK _ _ ?_))); refine Qd (Qd ?_); exact Qr hM _ es (Qn 3 (Qn 2 (by exact QX J ⟨rfl, rfl, rfl, rfl, rfl, trivial⟩)))
          refine Xk ?_ Qf
          refine XJ (i := 9) (enc := spE) (cv := intC) (c.fl, c.tt) 2 J J J (KeyIs.agg (us := [.int .i64 c.fl, .int .i64 c.tt]) J) J uMSt Xp (Qj (XU (QY J J J J J lMAd J (Qj (XU (Q6 (n := 2) J J J J J Y7 J (Qj (XU (QY J J J J J lAddr J (Qj (Xk ?_ Qf))))))))))); refine XJ (i := 8) (enc := spE) (cv := adrF) (c.fl, c.tt) c.fr J J J (KeyIs.agg (us := [.int .i64 c.fl, .int .i64 c.tt]) J) J uMAd Xp (Qj (Xy (hK _ _ ?_))); refine Qd (Qd ?_); exact Qr hM _ es (Qn 3 (Qn 2 (by exact QX J ⟨rfl, rfl, rfl, rfl, rfl, trivial⟩)))
        · rw [if_neg h2] at es; refine Qw (Xw mixed 13 (.p 0 (.p 1 (.p 2 (.p 3 (.p 7 (.p 8 (.f 4 (.f 5 (.f 6 (.f 9 (.p 10 (.p 11 (.p 12 .done))))))))))))) (by kernel_rfl) (fun K hK => ?_)); refine Qq J J J (Qk ieql J J J J (Qq J J J (Q7 67 (p := kn = 2) J (fun h3 => ?_) (fun h3 => ?_))))
          · refine QV J J J fV1 J (QV J J J fS11 J (XK J J fN0 J (QY J J J J J lMAd J (Q6 (n := 2) J J J J J Y7 J (Ops.lookM (i := 8) (cv := adrF) (enc := spE) 0 (c.fl, c.tt) J J J J (KeyIs.agg (us := [.int .i64 c.fl, .int .i64 c.tt]) J) uMAd z0Adr (fun _ _ => rfl) Xp J ?_))))); generalize (look1 m.1 (c.fl, c.tt)).getD 0 = a at es ⊢; refine QY J J J J J lAddr J (Qk ineq J J J J (QJ J J J J (Qv J J J (Qj (hK _ _ (Qz ?_)))))); clear hK K; refine Q2 J (fun h4 => ?_) (fun h4 => ?_)
            · rw [if_pos ⟨h3, fun h => h4 (by rw [h])⟩] at es; refine Yq mixed [6, 7] (.p 0 (.p 3 (.f 1 (.f 2 (.m 4 (.m 5 (.a 6 (.a 7 .done .non) .non) (.a 6 (.f 5 (.a 7 .done .non)) .non)) (.m 5 (.m 4 (.a 6 (.a 7 .done .non) .non) (.a 6 (.f 4 (.a 7 .done .non)) .non)) (.a 6 (.f 4 (.f 5 (.a 7 .done .non))) .non))))))) (by kernel_rfl) (fun K hK => ?_); refine Qo (QV J J J fV2 J (Qj (Qo (QV J J J fV1 J (Qj (XU (QY J J J J J lMSt J (Qj (XU (Q6 (n := 2) J J J J J Y7 J (Qj (X1 ?_ ?_))))))))))))
              · refine QY J J J J J lMAd J (Qj (X1 ?_ ?_))
                · refine Q6 (n := 2) J J J J J Y7 J (Qj (Xk ?_ Qf)); refine XJ (i := 9) (enc := spE) (cv := intC) (c.fl, c.tt) 3 J J J (KeyIs.agg (us := [.int .i64 c.fl, .int .i64 c.tt]) J) J uMSt Xp (Qj (Xk ?_ Qf)); refine XJ (i := 8) (enc := spE) (cv := adrF) (c.fl, c.tt) 0 J J J (KeyIs.agg (us := [.int .i64 c.fl, .int .i64 c.tt]) J) J uMAd Xp (Qj (Xy (hK _ _ ?_))); refine Qd (Qd ?_); exact Qr hM _ es (Qn 3 (Qn 2 (by exact QX J ⟨rfl, rfl, rfl, rfl, rfl, trivial⟩)))
                refine Xk ?_ Qf
                refine XJ (i := 9) (enc := spE) (cv := intC) (c.fl, c.tt) 3 J J J (KeyIs.agg (us := [.int .i64 c.fl, .int .i64 c.tt]) J) J uMSt Xp (Qj (XU (Q6 (n := 2) J J J J J Y7 J (Qj (Xk ?_ Qf))))); refine XJ (i := 8) (enc := spE) (cv := adrF) (c.fl, c.tt) 0 J J J (KeyIs.agg (us := [.int .i64 c.fl, .int .i64 c.tt]) J) J uMAd Xp (Qj (Xy (hK _ _ ?_))); refine Qd (Qd ?_); exact Qr hM _ es (Qn 3 (Qn 2 (by exact QX J ⟨rfl, rfl, rfl, rfl, rfl, trivial⟩)))
              refine X1 ?_ ?_
              · refine Q6 (n := 2) J J J J J Y7 J (Qj (X1 ?_ ?_))
                · refine QY J J J J J lMAd J (Qj (Xk ?_ Qf)); refine XJ (i := 9) (enc := spE) (cv := intC) (c.fl, c.tt) 3 J J J (KeyIs.agg (us := [.int .i64 c.fl, .int .i64 c.tt]) J) J uMSt Xp (Qj (Xk ?_ Qf)); refine XJ (i := 8) (enc := spE) (cv := adrF) (c.fl, c.tt) 0 J J J (KeyIs.agg (us := [.int .i64 c.fl, .int .i64 c.tt]) J) J uMAd Xp (Qj (Xy (hK _ _ ?_))); refine Qd (Qd ?_); exact Qr hM _ es (Qn 3 (Qn 2 (by exact QX J ⟨rfl, rfl, rfl, rfl, rfl, trivial⟩)))
                refine Xk ?_ Qf
                refine XJ (i := 9) (enc := spE) (cv := intC) (c.fl, c.tt) 3 J J J (KeyIs.agg (us := [.int .i64 c.fl, .int .i64 c.tt]) J) J uMSt Xp (Qj (XU (QY J J J J J lMAd J (Qj (Xk ?_ Qf))))); refine XJ (i := 8) (enc := spE) (cv := adrF) (c.fl, c.tt) 0 J J J (KeyIs.agg (us := [.int .i64 c.fl, .int .i64 c.tt]) J) J uMAd Xp (Qj (Xy (hK _ _ ?_))); refine Qd (Qd ?_); exact Qr hM _ es (Qn 3 (Qn 2 (by exact QX J ⟨rfl, rfl, rfl, rfl, rfl, trivial⟩)))
              refine Xk ?_ Qf
              refine XJ (i := 9) (enc := spE) (cv := intC) (c.fl, c.tt) 3 J J J (KeyIs.agg (us := [.int .i64 c.fl, .int .i64 c.tt]) J) J uMSt Xp (Qj (XU (QY J J J J J lMAd J (Qj (XU (Q6 (n := 2) J J J J J Y7 J (Qj (Xk ?_ Qf)))))))); refine XJ (i := 8) (enc := spE) (cv := adrF) (c.fl, c.tt) 0 J J J (KeyIs.agg (us := [.int .i64 c.fl, .int .i64 c.tt]) J) J uMAd Xp (Qj (Xy (hK _ _ ?_))); refine Qd (Qd ?_); exact Qr hM _ es (Qn 3 (Qn 2 (by exact QX J ⟨rfl, rfl, rfl, rfl, rfl, trivial⟩)))
            · rw [if_neg (fun h => h.2 (Fin.ext (by omega)))] at es; refine Q1 (Qd (Qd ?_)); exact Qr hM _ es (Qn 3 (Qn 2 (by exact QX J ⟨rfl, rfl, rfl, rfl, rfl, trivial⟩)))
          · rw [if_neg (fun h => h3 h.1)] at es; refine Qy J J J (Qy J J J (Qy J J J (Qy J J J (Qy J J J (Qy J J J (Qy J J J (Qy J J J (QK J J J J (Qv J J J (Qj (hK _ _ (Qz (Xv J (Q1 (Qd (Qd ?_)))))))))))))))); clear hK K; exact Qr hM _ es (Qn 3 (Qn 2 (by exact QX J ⟨rfl, rfl, rfl, rfl, rfl, trivial⟩)))
  · have hi' : i = l.length := by omega
    have el : (l.take i).foldl (lookS e) ([], []) = l.foldl (lookS e) ([], []) := by rw [hi', List.take_length]
    rw [el]
    refine St.frzM 8 1 1 J J J (fun _ h => h.elim) ?_
    refine St.frzM 9 1 2 J J J (fun _ h => h.elim) ?_
    refine Qs (Qz (Qw (Qx fun K hK => ?_))); refine Q6 (n := 3) J J J J J lView J (Qa 3 J J J J J szView J J (Qj (hK _ _ (Qz (Q0 ?_))))); clear hK K; refine Fin.end [_] rfl (Qc (n := 3) J J lView J QQ) J J
end Go.Proofs.YtlkdkbdgnjcopaaGreat
namespace Go.Proofs.YtlkdkbdgnjcopaaGreat
open Go.Own Go.Limbs
abbrev ESp := Tk × Int × Int
def plS (r : Rs) : ESp := (trOf r, r.fl, r.tt)
def plB (r : Rs) : Bool := r.an && usR r
abbrev SeenM := List (ESp × Fin 4294967296)
def clashG : SeenM → List Rs → Nat
  | _, [] => 0
  | m, r :: l =>
    if plB r = false then clashG m l + 1
    else if (look1 m (plS r)).isSome = true ∧ (look1 m (plS r)).getD 0 ≠ r.fr then 0
    else clashG (ins m (plS r) r.fr) l + 1
def conB (a b : Rs) : Bool := (plB a && plB b) && (decide (plS a = plS b) && decide (a.fr ≠ b.fr))
def witG (o : List Rs) : Option Nat :=
  let k := clashG [] o
  if k < o.length then (o.take k).findIdx? (fun a => conB a (o.getD k rs0)) else none
theorem clashG_le : ∀ (l : List Rs) (m : SeenM), clashG m l ≤ l.length
  | [], _ => Nat.le_refl _
  | r :: l, m => by
    simp only [clashG, List.length_cons]
    split
    · have := clashG_le l m; omega
    · split
      · omega
      · have := clashG_le l (ins m (plS r) r.fr); omega
theorem usR_tt {r : Rs} (h : usR r = true) : 1 ≤ r.tt ∧ r.tt ≤ 255 := by
  simp only [usR, okR, Bool.and_eq_true, decide_eq_true_eq] at h; have h1 := h.2.1; unfold ckE at h1; split at h1
  · cases h1
  · rename_i h2; unfold P1 at h2; omega
theorem hasS_tt {l : List Rs} {fl tt : Int} (h : hasS (lookG l).2 fl tt = true) : 1 ≤ tt ∧ tt ≤ 255 := by
  unfold hasS at h
  cases e : look1 (lookG l).2 (fl, tt) with
  | none => rw [e] at h; simp at h
  | some v =>
    obtain ⟨_, r, _, hu, hs⟩ := lookG_keys l _ _ e
    injection hs with h1 h2
    rw [h2]; exact usR_tt hu
theorem pathG_len (m : AdM × StM) (fl : Int) : ∀ (k : Nat) (tt : Int), (pathG m fl k tt).length ≤ k
  | 0, _ => Nat.le_refl _
  | k + 1, tt => by
    unfold pathG
    split
    · have := pathG_len m fl k (tt + 1); simp only [List.length_cons]; omega
    · exact Nat.zero_le _
attribute [local irreducible] Go.Own.Fin Ok OkB OkF OkL OkN OkT Ops St
theorem goPath : InGo Tryz.prog 93 := InGo.of Tryz.func93 rfl (by decide)
set_option maxHeartbeats 4000000 in
theorem Path_ok (l : List Rs) (fl : Int) (hl : l.length ≤ 100000) : OkF Tryz.prog 93 [rssC l, intC fl] 27 1 (adrs (pathF l fl)) := by
  have hL := Look_ok l hl
  have hb : ∀ tt, hasS (lookG l).2 fl tt = true → 1 ≤ tt ∧ tt ≤ 255 := fun tt h => hasS_tt h
  have e0 : pathF l fl = pathG (lookG l) fl 256 1 := rfl; rw [e0]; clear e0; generalize endF l = e at hL; generalize lookG l = m at hL hb ⊢
  refine OkF.enter Tryz.func93 J _ Tryz.ntmps93 J ?_
  intro S w; refine Qw (Qx fun K hK => ?_); refine Qv J J J (Qj (hK _ _ (Qz (Qw ?_)))); clear hK K; refine Qx (fun K hK => ?_); refine Qq J J J (QW goLook hL J J J J (Qg 0 J J zvView J J J (Qa 3 J J J J J szView J J (Qj (hK _ _ (Qz (Qw ?_))))))); clear hK K; refine Qx (fun K hK => ?_); refine Qv J J J (Qj (hK _ _ (Qz (Qw (Qw ?_))))); clear hK K; refine Qx (fun K hK => ?_); refine Qv J J J (Qj (hK _ _ (Qz (Q5 ?_)))); clear hK K
  refine Xg 6 1 27 1 J J J ?_
  refine Xx (α := List Ad) (fun pre => pre.length ≤ 255 ∧ pathG m fl 256 1 = pre ++ pathG m fl (256 - pre.length) (pre.length + 1))
    (fun pre => [(1, .ct (intC fl)), (5, .own 0), (6, .own 1), (7, .ct (intC (pre.length + 1)))])
    (fun pre => [(1, .row 27 1 (adrs pre)), (0, .box 184 [intC e, .fr (mapT (adM m.1)), .fr (mapT (stM m.2))])]) (fun pre => 256 - pre.length) [] ⟨Nat.zero_le _, rfl⟩ (by exact QX J ⟨rfl, rfl, rfl, rfl, trivial⟩) ?_
  intro pre ⟨hp, hq⟩
  try dsimp only
  have hH := Has_ok e fl (pre.length + 1) m; have hb1 := hb (pre.length + 1)
  have hun : ∀ k, pathG m fl (k + 1) (pre.length + 1) = if hasS m.2 fl (pre.length + 1) then (look1 m.1 (fl, (pre.length : Int) + 1)).getD 0 :: pathG m fl k (pre.length + 1 + 1) else [] := fun _ => rfl
  generalize hasS m.2 fl (pre.length + 1) = hs at hH hb1 hun; refine Qw (Qw (Qx fun K hK => ?_)); refine Q6 (n := 3) J J J J J lView J (Qq J J J (Qq J J J (QW goHas hH J J J J (Qj (hK _ _ (Qz ?_)))))); clear hK K; refine XZ J (fun h => ?_) (fun h => ?_)
  · have hl2 := hb1 h; obtain ⟨k, hk⟩ : ∃ k, 256 - pre.length = k + 1 := ⟨255 - pre.length, by omega⟩; rw [hk, hun, if_pos h] at hq; refine Q1 (Qz (Qw (Q5 (Qx fun K hK => ?_)))); refine Qq J J J (QV J J J fV1 J (QY J J J J J lMAd J (Qq J J J (Qq J J J (Qi J bSpot J (.one J J J J (.one J J J J .nil)) J (Ops.lookF (cv := adrF) (enc := spE) 0 (fl, (pre.length : Int) + 1) J J J (KeyIs.agg (us := [.int .i64 fl, .int .i64 ((pre.length : Int) + 1)]) J) uMAd z0Adr (fun _ _ => rfl) Xp J ?_)))))); generalize (look1 m.1 (fl, (pre.length : Int) + 1)).getD 0 = a at hq ⊢; skip; refine Zj J J sAdrs J J J (Qt pre.length (adrs (pre ++ [a])) J J J J sAdrs (by simp [adrs]) J (by omega) (by omega) (by simp [adrs]) J ?_); refine Qv J J J (Qj (hK _ _ (Qz ?_))); clear hK K; refine Qx (fun K hK => ?_); refine Qq J J J (Qk (iadd (by omega) (by omega)) J J J J ?_); refine Qv J J J (Qj (hK _ _ (Q4 ?_))); clear hK K; refine Q8 (pre ++ [a]) (by rw [List.length_append]; simp; omega) ⟨by rw [List.length_append]; simp; omega, ?_⟩ (by exact QX J ⟨rfl, rfl, rfl, by simp only [List.length_append, List.length_cons, List.length_nil, Int.natCast_add]; rfl, trivial⟩); rw [hq, List.length_append, List.append_assoc]
    have : 256 - (pre.length + [a].length) = k := by simp; omega
    rw [this]; simp
  · obtain ⟨k, hk⟩ : ∃ k, 256 - pre.length = k + 1 := ⟨255 - pre.length, by omega⟩; rw [hk, hun, if_neg (by rw [h]; decide), List.append_nil] at hq; refine Qs (Qz (Qw (Qx fun K hK => ?_))); refine Qq J J J (Qv J J J (Qj (hK _ _ (Qz (Q0 ?_))))); clear hK K; refine Y3 J J (by rw [hq]; rfl) J
abbrev esI (s : ESp) : List Int := [s.1.va, (s.1.ds.val : Int), s.1.pr, s.2.1, s.2.2]
abbrev esK : List IntKind := [.i64, .u32, .i64] ++ [.i64, .i64]
abbrev esE (s : ESp) : Value := Go.Own.encI esK (esI s)
abbrev esCs (s : ESp) : List CT := [intC s.1.va, adrF s.1.ds, intC s.1.pr, intC s.2.1, intC s.2.2]
abbrev esC (s : ESp) : CT := .fr (aggT (esCs s))
abbrev esV (s : ESp) : List Value := [.int .i64 s.1.va, .int .u32 (s.1.ds.val : Int), .int .i64 s.1.pr, .int .i64 s.2.1, .int .i64 s.2.2]
theorem eqES : EqF Tryz.prog 223 86 [.i64, .u32, .i64] [.i64, .i64] := ⟨by kernel_rfl, by kernel_rfl, by kernel_rfl, by kernel_rfl, by kernel_rfl, by kernel_rfl, by kernel_rfl, by kernel_rfl⟩
theorem esI_inj (a b : ESp) (h : esI a = esI b) : a = b := by
  obtain ⟨⟨a1, a2, a3⟩, a4, a5⟩ := a; obtain ⟨⟨b1, b2, b3⟩, b4, b5⟩ := b; simp only [esI, List.cons.injEq, and_true, Int.ofNat_inj, Fin.val_inj] at h; obtain ⟨h1, h2, h3, h4, h5⟩ := h; rw [h1, h2, h3, h4, h5]
theorem keyES : KeyT Tryz.prog 223 esE := eqES.flat.key esI (fun _ => rfl) esI_inj
theorem gES : Tryz.prog.eqGuardType Tryz.prog.depth 223 = false := by kernel_rfl
theorem lES : LdN Tryz.prog 223 5 := LdN.of _ Tryz.underlying223 rfl (by kernel_rfl)
theorem szES : (Tryz.prog.info? 223).map (·.size) = some 5 := by kernel_rfl
theorem zvES : (Tryz.prog.info? 223).map (·.zero) = some (some (.agg #[.int .i64 0, .int .u32 0, .int .i64 0, .int .i64 0, .int .i64 0])) := by kernel_rfl
theorem bES : bInfo Tryz.prog 223 = some (.agg #[.int .i64 0, .int .u32 0, .int .i64 0, .int .i64 0, .int .i64 0], [(0, some 3), (3, some 1), (4, some 1)]) := by kernel_rfl
theorem uMSeen : Tryz.prog.underlying 221 = some (.map 223 27) := Tryz.underlying221
theorem goPlace : InGo Tryz.prog 180 := InGo.of Tryz.func180 rfl (by decide)
set_option maxHeartbeats 4000000 in
theorem Place_ok (r : Rs) : Ok Tryz.prog 180 [rsC r] (.fr (tupT [esC (plS r), boolC (plB r)])) := by
  have hT := TraceOf_ok r; have hU := Usable_ok r; have e0 : plB r = (r.an && usR r) := rfl; generalize usR r = ub at hU e0
  refine Ok.enter Tryz.func180 J _ Tryz.ntmps180 J ?_
  intro S w; refine Qw (Qx fun K hK => ?_); refine Xz 0 J J J J J J J (Qg 1 J J zvES J J J (Qv J J J (Qj (hK _ _ (Qz (Qw ?_)))))); clear hK K; refine Xw mixed 13 (.p 2 (.p 4 (.p 7 (.f 0 (.f 3 (.f 5 (.fork 1 (.p 6 (.m 8 (.p 9 (.m 10 (.m 11 (.p 12 (.a 13 (.p 14 .done)))))))) 8 (.m 1 (.p 6 (.p 9 (.m 10 (.m 11 (.p 12 (.a 13 (.p 14 .done))))))))))))))) (by kernel_rfl) (fun K hK => ?_); refine QV J J J fS6 J (QV J J J fS7 J (QV J J J fS8 J (Q6 (n := 17) J J J J J lRes J (QY J J J J J lInt J (QY J J J J J lInt J (Y1 ?_ ?_))))))
  · refine QW goTraceOf hT J J J J (Qi J bES J (.agg J J J J (.one J J J J (.one J J J J .nil))) J (QY J J J J J lBool1 J (Qq J J J (X3 13 (b := r.an) J (fun h => ?_) (fun h => ?_)))))
    · refine Q6 (n := 17) J J J J J lRes J (QW goUsable hU J J J J (QJ J J J J (Qa 5 J J J J J szES J J (Qv J J J (Qj (hK _ _ (Qz (Q0 ?_)))))))); clear hK K; refine QU [_, _] rfl (Qc (n := 5) J J lES J (Qu J QQ)) (by rw [e0, h, Bool.true_and]; rfl) J
    · refine Qy J J J (Qy J J J (QK J J J J (Qa 5 J J J J J szES J J (Qv J J J (Qj (hK _ _ (Qz (Q0 ?_)))))))); clear hK K; refine QU [_, _] rfl (Qc (n := 5) J J lES J (Qu J QQ)) (by rw [e0, h, Bool.false_and]; rfl) J
  · refine QY J J J J J lBool1 J (QW goTraceOf hT J J J J (Qi J bES J (.agg J J J J (.one J J J J (.one J J J J .nil))) J (Qq J J J (X3 13 (b := r.an) J (fun h => ?_) (fun h => ?_)))))
    · refine Q6 (n := 17) J J J J J lRes J (QW goUsable hU J J J J (QJ J J J J (Qa 5 J J J J J szES J J (Qv J J J (Qj (hK _ _ (Qz (Q0 ?_)))))))); clear hK K; refine QU [_, _] rfl (Qc (n := 5) J J lES J (Qu J QQ)) (by rw [e0, h, Bool.true_and]; rfl) J
    · refine Qy J J J (Qy J J J (QK J J J J (Qa 5 J J J J J szES J J (Qv J J J (Qj (hK _ _ (Qz (Q0 ?_)))))))); clear hK K; refine QU [_, _] rfl (Qc (n := 5) J J lES J (Qu J QQ)) (by rw [e0, h, Bool.false_and]; rfl) J
theorem goContradict : InGo Tryz.prog 146 := InGo.of Tryz.func146 rfl (by decide)
set_option maxHeartbeats 4000000 in
theorem Contradict_ok (a b : Rs) : Ok Tryz.prog 146 [rsC a, rsC b] (boolC (conB a b)) := by
  have hA := Place_ok a; have hB := Place_ok b; have e0 : conB a b = ((plB a && plB b) && (decide (plS a = plS b) && decide (a.fr ≠ b.fr))) := rfl; have e1 : decide (esI (plS a) = esI (plS b)) = decide (plS a = plS b) := decide_eq_decide.2 ⟨esI_inj _ _, fun h => by rw [h]⟩; generalize plS a = sa at hA e0 e1; generalize plS b = sb at hB e0 e1; generalize plB a = pa at hA e0; generalize plB b = pb at hB e0
  refine Ok.enter Tryz.func146 J _ Tryz.ntmps146 J ?_
  intro S w; refine Qw (Qx fun K hK => ?_); refine Xz 0 J J J J J J J (Xz 1 J J J J J J J (Qv J J J (Qj (hK _ _ (Qz (Qw ?_)))))); clear hK K; refine Qx (fun K hK => ?_); refine Q6 (n := 17) J J J J J lRes J (QW goPlace hA J J J J (Qq J J J (Q9 J J J J (Q9 J J J J (Qg 2 J J zvES J J J (Qa 5 J J J J J szES J J (Qv J J J (Qj (hK _ _ (Qz (Qw ?_))))))))))); clear hK K; refine Qx (fun K hK => ?_); refine Q6 (n := 17) J J J J J lRes J (QW goPlace hB J J J J (Qq J J J (Q9 J J J J (Q9 J J J J (Qg 3 J J zvES J J J (Qa 5 J J J J J szES J J (Qv J J J (Qj (hK _ _ (Qz (Qw ?_))))))))))); clear hK K; refine Qx (fun K hK => ?_); refine Qq J J J (Qq J J J (X3 20 (b := pa) J (fun h => ?_) (fun h => ?_)))
  · refine Qq J J J (QJ J J J J (Qq J J J (X3 23 (b := pb) J (fun h2 => ?_) (fun h2 => ?_))))
    · skip; refine Q6 (n := 5) J J J J J lES J (Q6 (n := 5) J J J J J lES J (Ops.eqK (ks := esK) (esI sa) (esI sb) J J J J J eqES.flat gES J ?_)); rw [e1]; refine QJ J J J J (Qq J J J (Q7 28 (p := sa = sb) J (fun h3 => ?_) (fun h3 => ?_)))
      · refine QV J J J fS11 J (XK J J fN0 J (QY J J J J J lAddr J (QV J J J fS11 J (XK J J fN0 J (QY J J J J J lAddr J (Qk ineq J J J J (QJ J J J J (Qv J J J (Qj (hK _ _ (Qz (Q0 ?_)))))))))))); clear hK K; refine QU [_] rfl (Qu J QQ) (by rw [e0, h, h2, decide_eq_true h3]; simp only [Bool.true_and]; rw [show (decide (a.fr ≠ b.fr)) = decide (¬((a.fr.val : Int) = b.fr.val)) from decide_eq_decide.2 ⟨fun h h' => h (Fin.ext (by omega)), fun h h' => h (by rw [h'])⟩]; rfl) J
      · refine Qy J J J (Qy J J J (Qy J J J (Qy J J J (Qy J J J (Qy J J J (Qy J J J (QK J J J J (Qv J J J (Qj (hK _ _ (Qz (Q0 ?_)))))))))))); clear hK K; refine QU [_] rfl (Qu J QQ) (by rw [e0, h, h2, decide_eq_false h3]; rfl) J
    · refine Qy J J J (Qy J J J (Qy J J J (QK J J J J (Qq J J J (Qy J J J (Qy J J J (Qy J J J (Qy J J J (Qy J J J (Qy J J J (Qy J J J (QK J J J J (Qv J J J (Qj (hK _ _ (Qz (Q0 ?_))))))))))))))))); clear hK K; refine QU [_] rfl (Qu J QQ) (by rw [e0, h, h2]; rfl) J
  · refine Qy J J J (QK J J J J (Qq J J J (Qy J J J (Qy J J J (Qy J J J (QK J J J J (Qq J J J (Qy J J J (Qy J J J (Qy J J J (Qy J J J (Qy J J J (Qy J J J (Qy J J J (QK J J J J (Qv J J J (Qj (hK _ _ (Qz (Q0 ?_)))))))))))))))))))); clear hK K; refine QU [_] rfl (Qu J QQ) (by rw [e0, h]; rfl) J
attribute [local irreducible] OkM
theorem gotravel : InGo Tryz.prog 44 := InGo.of Tryz.func44 rfl (by decide)
set_option maxHeartbeats 4000000 in
theorem Travel_ok (l : List Rs) (hl : l.length ≤ 10000) : OkM Tryz.prog 44 [.ct (rssC l)] [] [] (fun v : Value => v.oneCell' = true) (fun v => .ct (travC (owF l) v)) (fun v => [(8, .mpx v (knM []))]) := by
  have hT := Traces_ok l hl
  have hO := fun t => Of_ok l t hl
  have hlen : (trsF l).length ≤ 10000 := by
    have h1 := Yv cmpT ((l.filter okR).map trOf); have h2 := List.length_filter_le okR l; rw [List.length_map] at h1; unfold trsF; omega
  unfold owF; generalize trsF l = ts at hT hlen ⊢
  refine OkM.enter Tryz.func44 J _ Tryz.ntmps44 J (fun i hi => by cases hi) ?_
  intro S w ρ0 hbor; refine Qw (Qx fun K hK => ?_); refine Qg 0 J J zvTrav J J J (Qj (hK _ _ (Qz (Qw ?_)))); clear hK K; refine Qx (fun K hK => ?_); refine Ops.mkMap 6 J J J J J (fun v1 hv1 => ?_); refine Ops.mkMap 8 J J J J J (fun v2 hv2 => ?_); refine Qi J bTrav J (.one J J hv1 J (.one J J hv2 J .nil)) J (Qg 1 J J zvTrav J J J (Qa 2 J J J J (by show (Value.oneCell' v1 && (Value.oneCell' v2 && true)) = true; rw [hv1, hv2]; rfl) szTrav J J ?_)); refine Qj (hK _ _ (Qz (Qw (Qw ?_)))); clear hK K; refine Qx (fun K hK => ?_); refine Qq J J J (ZQ 3 goTraces hT J J J J J J (Zx 3 _ J (tks_frozen _ _) hbor (Qb J J sTks.und (List.length_map ..) J (Qq J J J (Qj (hK _ _ (Qz (Q5 ?_)))))))); clear hK K
  refine Xx (α := Nat) (fun i => i ≤ ts.length)
    (fun i => [(0, .ct (rssC l)), (2, .own 0), (3, .own 1), (10, .ct (tksC ts)), (11, .ct (intC ts.length)), (12, .ct (intC i))])
    (fun i => [(1, .box 94 [.ex v1, .ex v2]), (8, .mpx v2 (knM [])), (6, .mpx v1 (owM ((ts.take i).foldl (fun m t => ins m t (ofF l t)) []))), (0, .box 94 [.ex (.map none), .ex (.map none)])])
    (fun i => ts.length - i) 0 (Nat.zero_le _) (by exact QX J ⟨rfl, rfl, rfl, rfl, rfl, rfl, trivial⟩) ?_
  intro i hi
  try dsimp only at hi ⊢
  refine Qw (Qx fun K hK => ?_); refine Qk ilss J J J J (Qj (hK _ _ (Qz (Qw ?_)))); clear hK K; refine Q2 J (fun h => ?_) (fun h => ?_)
  · have e2 : (i : Int).toNat = i := Int.toNat_natCast i; have hs := YY (fun m t => ins m t (ofF l t)) ([] : OwM) (z := tk0) (l := ts) (i := i) (by omega); generalize (ts.take i).foldl (fun m t => ins m t (ofF l t)) ([] : OwM) = m at hs ⊢; refine Q1 (Qz (Qw (Q5 (Qw (Qx fun K hK => ?_)))))
    refine Qh J J J sTks (by omega) (tks_at (by omega) (by omega)) J ?_
    rw [e2]; generalize ts.getD i tk0 = t at hs ⊢; refine XX (n := 3) J J J Y5 J J (Qg 2 J J zvTrace J J J (Qa 3 J J J J J szTrace J J (Qj (hK _ _ (Qz ?_))))); clear hK K; refine Xw mixed 6 (.p 0 (.p 3 (.f 1 (.f 2 (.f 4 (.m 5 (.a 6 .done))))))) (by kernel_rfl) (fun K hK => ?_); refine QV J J J fTrav0 J (Qq J J J (QY J J J J J lMOwn J (Q6 (n := 3) J J J J J Y5 J (Q6 (n := 3) J J J J J Y5 J (ZQ 3 goOf (hO t) J J J J J J (Zx 3 _ J (rss_frozen _ _) hbor (XJ (i := 6) (enc := tkE) (cv := rssC) t (ofF l t) J J J (KeyIs.agg (us := tkVs t) J) J uMOwn keyTk (Qj (hK _ _ (Qz ?_)))))))))); clear hK K; refine Qx (fun K hK => ?_)
    refine Qk (iadd (by omega) (by omega)) J J J J ?_
    refine Qq J J J (Qj (hK _ _ (Q4 ?_))); clear hK K; refine Ql 2 (Q8 (i + 1) (by omega) (by omega) (by rw [hs]; exact QX J ⟨rfl, rfl, rfl, rfl, rfl, by simp only [Int.natCast_add]; rfl, trivial⟩))
  · have hi' : i = ts.length := by omega
    rw [hi', List.take_length]; generalize ts.foldl (fun m t => ins m t (ofF l t)) ([] : OwM) = m
    refine St.frzM 6 1 0 J J J (fun q hq => .inl (hbor q hq)) ?_
    refine Qs (Qz (Qw (Qx fun K hK => ?_))); refine Q6 (n := 2) J J J J J lTrav J (Qa 2 J J J J (by show (true && (Value.oneCell' v2 && true)) = true; rw [hv2]; rfl) szTrav J J ?_); refine Qj (hK _ _ (Qz (Q0 ?_))); clear hK K; refine ZV [1, 0] v2 [_] rfl (Qc (n := 2) J J lTrav J QQ) J J (fun _ => rfl) hv2
theorem goway : InGo Tryz.prog 46 := InGo.of Tryz.func46 rfl (by decide)
theorem wayF_eq (l : List Rs) (r : Rs) : wayF l r = if usR r = false then [] else if r.tt ≤ ((pathF (ofF l (trOf r)) r.fl).length : Int) then wiresG 0 ((pathF (ofF l (trOf r)) r.fl).take r.tt.toNat) true
    else if ((pathF (ofF l (trOf r)) r.fl).length : Int) < r.tt - 1 ∨ r.an = true then [] else wiresG 0 (pathF (ofF l (trOf r)) r.fl) true := rfl
theorem knOk_ins {l : List Rs} {m : KnM} (h : knOk l m) (s : Stm) : knOk l (ins m s (pathF (ofF l s.1) s.2)) := fun x p hx => by
  rw [look1_ins] at hx
  split at hx
  · rename_i e; subst e; injection hx with hx; exact hx.symm
  · exact h x p hx
def prv (p : List (_root_.Fin 4294967296)) (i : Nat) : _root_.Fin 4294967296 := if i = 0 then 0 else p.getD (i - 1) 0
theorem wiresG_step {p : List (_root_.Fin 4294967296)} {i : Nat} (h : i < p.length) : wiresG (prv p i) (p.drop i) (decide (i = 0)) =
    (if p.getD i 0 ≠ 0 ∧ (i = 0 ∨ prv p i ≠ 0) then [(prv p i, p.getD i 0)] else []) ++ wiresG (prv p (i + 1)) (p.drop (i + 1)) (decide (i + 1 = 0)) := by
  have e : p.drop i = p.getD i 0 :: p.drop (i + 1) := by
    rw [List.drop_eq_getElem_cons h]; simp [List.getD_eq_getElem?_getD, List.getElem?_eq_getElem h]
  have e2 : prv p (i + 1) = p.getD i 0 := by unfold prv; rw [if_neg (by omega)]; rfl
  rw [e, e2]; show (if p.getD i 0 ≠ 0 ∧ (decide (i = 0) = true ∨ prv p i ≠ 0) then [(prv p i, p.getD i 0)] else []) ++ _ = _; simp only [decide_eq_true_eq]; rfl
theorem pathF_len (l : List Rs) (fl : Int) : (pathF l fl).length ≤ 256 := pathG_len _ _ _ _
set_option maxHeartbeats 8000000 in
theorem Way_ok (l : List Rs) (hl : l.length ≤ 10000) (v : Value) (hv : v.oneCell' = true) (r : Rs) (al : KnM) (hal : knOk l al) :
    OkM Tryz.prog 46 [.ct (travC (owF l) v), .ct (rsC r)] [(8, .mpx v (knM al))] [] (fun m : KnM => knOk l m) (fun _ => .ct (wrsC (wayF l r))) (fun m => [(8, .mpx v (knM m))]) := by
  have hU := Usable_ok r; have hTt : usR r = true → 1 ≤ r.tt ∧ r.tt ≤ 255 := usR_tt; have hW := wayF_eq l r; have hLo := owF_look l (trOf r)
  have hof : (ofF l (trOf r)).length ≤ 10000 := by
    have h1 := Yv cmpR (l.filter okR); have h2 := List.length_filter_le okR l; have h3 := List.length_filter_le (fun x => decide (trOf x = trOf r)) (sd cmpR (l.filter okR)); unfold ofF; omega
  have hP := Path_ok (ofF l (trOf r)) r.fl (by omega); have hpl := pathF_len (ofF l (trOf r)) r.fl
  have hkn := fun m (h : knOk l m) => knOk_ins h (trOf r, r.fl)
  have hal' := fun p => hal (trOf r, r.fl) p
  dsimp only at hkn hal'; generalize owF l = om at hLo ⊢; generalize wayF l r = W at hW ⊢; generalize pathF (ofF l (trOf r)) r.fl = p at hW hP hpl hkn hal'; generalize usR r = ub at hU hTt hW; rw [← hLo] at hP
  refine OkM.enter Tryz.func46 J _ Tryz.ntmps46 J (fun i hi => by cases hi) ?_
  intro S w ρ0 hbor; refine Qw (Qx (fun K hK => ?_))
  refine Xz 0 J J J (by show (true && (Value.oneCell' v && true)) = true; rw [hv]; rfl) J J J ?_
  refine Xz 1 J J J J J J J (Qv J J J (Qj (hK _ _ (Qz (Qw (Qw ?_)))))); clear hK K; refine Qx (fun K hK => ?_); refine Q6 (n := 17) J J J J J lRes J (QW goUsable hU J J J J (Qm J J J (Qj (hK _ _ (Qz ?_))))); clear hK K; refine XZ J (fun h => ?_) (fun h => ?_)
  · have h : ub = false := by simpa using h
    rw [if_pos h] at hW; refine Qw (Qx fun K hK => ?_); refine Qv J J J (Qj (hK _ _ (Qz (Q0 (QZ ?_))))); clear hK K; refine ZV [1, 0] al [_] rfl (Xj X5 (Qu J QQ)) (by rw [hW]; rfl) J (fun _ => rfl) hal
  have h : ub = true := by simpa using h
  rw [if_neg (by rw [h]; decide)] at hW; obtain ⟨ht1, ht2⟩ := hTt h; clear hTt hU; refine Q1 (Qz (Qw ?_))
  refine Xo (α := Unit) (fun _ => True) (fun _ => [(2, .own 0), (3, .own 1), (5, .own 2)])
    (fun _ => [(2, .box 145 (stmCs (trOf r, r.fl))), (1, .box 35 (rsCs r)), (0, .box 94 [.fr (mapT (owM om)), .ex v]), (8, .mpx v (knM al))]) (fun _ _ => ?_) (fun KN hM => ?_)
  rotate_left
  · refine Xw mixed 6 (.p 2 (.f 0 (.f 3 (.fork 1 (.p 4 (.m 5 (.a 6 .done))) 5 (.m 1 (.p 4 (.a 6 .done))))))) (by kernel_rfl) (fun K hK => ?_); refine QV J J J fS6 J (Q6 (n := 17) J J J J J lRes J (QY J J J J J lInt J (Y1 ?_ ?_)))
    · refine QW goTraceOf (TraceOf_ok r) J J J J (Qi J bStm J (.agg J J J J (.one J J J J .nil)) J (Qg 2 J J zvStm J J J (Qa 4 J J J J J szStm J J (Qj (hK _ _ ?_))))); clear hK K; exact Qr hM () trivial (QX J ⟨rfl, rfl, rfl, trivial⟩)
    · refine Qg 2 J J zvStm J J J (QW goTraceOf (TraceOf_ok r) J J J J (Qi J bStm J (.agg J J J J (.one J J J J .nil)) J (Qa 4 J J J J J szStm J J (Qj (hK _ _ ?_))))); clear hK K; exact Qr hM () trivial (QX J ⟨rfl, rfl, rfl, trivial⟩)
  refine Qw (Qx fun K hK => ?_); refine QV J J J fTrav1 J (QY J J J J J lMKnown J (Q6 (n := 4) J J J J J lStm J (Ops.lookM2 (i := 8) (cv := adsC) (enc := stmE) [] (trOf r, r.fl) J J J J (KeyIs.agg (us := stmV (trOf r, r.fl)) J) uMKnown z0Ads (fun S w => X5 S w _ J) keyStm J ?_))); generalize look1 al (trOf r, r.fl) = lk at hal'; refine Qq J J J (Q9 J J J J (Q9 J J J J (Qv J J J (Qv J J J (Qj (hK _ _ ?_)))))); clear hK K; refine Qz (Qw ?_)
  refine Xo (α := KnM) (fun m => knOk l m) (fun _ => [(2, .own 0), (3, .own 1), (5, .own 2), (6, .ct (adsC p))])
    (fun m => [(2, .box 145 (stmCs (trOf r, r.fl))), (1, .box 35 (rsCs r)), (0, .box 94 [.fr (mapT (owM om)), .ex v]), (8, .mpx v (knM m))]) (fun m hm => ?_) (fun KN hM => ?_)
  rotate_left
  · refine Qw (Qx fun K hK => ?_); refine Qq J J J (Qm J J J (Qj (hK _ _ (Qz ?_)))); clear hK K; refine XZ J (fun h2 => ?_) (fun h2 => ?_)
    · refine Qw (Xw mixed 9 (.p 0 (.p 2 (.p 5 (.f 1 (.f 3 (.f 4 (.f 6 (.m 7 (.p 8 .done))))))))) (by kernel_rfl) (fun K hK => ?_)); refine QV J J J fTrav0 J (QV J J J fStm0 J (QV J J J fS6 J (QY J J J J J lMOwn J (Ops.ldNA (n := 3) J J J J (Nat.le_of_ble_eq_true J) Y5 J (Ops.lookF (enc := tkE) (cv := rssC) [] (trOf r) J J J (KeyIs.agg (us := tkVs (trOf r)) J) uMOwn z0Rss (fun S w => X5 S w _ J) keyTk J ?_))))); refine QY J J J J J lInt J (ZQ 3 goPath hP J J J J J J (Zx 3 _ J (adrs_frozen _ _) hbor (Qv J J J (Qj (hK _ _ (Qz ?_)))))); clear hK K; refine Qx (fun K hK => ?_); refine QV J J J fTrav1 J (QY J J J J J lMKnown J (Q6 (n := 4) J J J J J lStm J (Qq J J J (XJ (i := 8) (enc := stmE) (cv := adsC) (trOf r, r.fl) p J J J (KeyIs.agg (us := stmV (trOf r, r.fl)) J) J uMKnown keyStm (Qj (hK _ _ ?_)))))); clear hK K; exact Qr hM _ (hkn al hal) (QX J ⟨rfl, rfl, rfl, rfl, trivial⟩)
    · cases lk with
      | none => cases h2
      | some p' =>
        rw [← hal' p' J] at hM
        refine Q1 ?_
        exact Qr hM al hal (QX J ⟨rfl, rfl, rfl, rfl, trivial⟩)
  refine Qw ?_
  refine St.cutR (α := List (_root_.Fin 4294967296)) (fun p' => W = wiresG 0 p' true ∧ p'.length ≤ 256) (fun p' => [(2, .own 0), (3, .own 1), (6, .ct (adsC p'))])
    (fun _ => [(2, .box 145 (stmCs (trOf r, r.fl))), (1, .box 35 (rsCs r)), (0, .box 94 [.fr (mapT (owM om)), .ex v]), (8, .mpx v (knM m))]) (fun p' hp' => ?_) (fun KN hM hR => ?_)
  rotate_left
  · refine Q5 (Qw (Qx fun K hK => ?_)); refine Qq J J J (Qb J J sAdrs.und (List.length_map ..) J (QV J J J fS7 J (QY J J J J J lInt J (Qk igeq J J J J (Qv J J J (Qj (hK _ _ (Qz ?_)))))))); clear hK K; refine Q2 J (fun h2 => ?_) (fun h2 => ?_)
    · rw [if_pos h2] at hW; refine Qx (fun K hK => ?_); refine Qq J J J (QV J J J fS7 J (QY J J J J J lInt J (Ops.cutHi J J J sAdrs (by omega) (by rw [List.length_map]; omega) J ?_))); rw [← List.map_take]; refine Qv J J J (Qj (hK _ _ (Qd ?_))); clear hK K; exact Qr hM (p.take r.tt.toNat) ⟨hW, by rw [List.length_take]; omega⟩ (QX J ⟨rfl, rfl, rfl, trivial⟩)
    rw [if_neg h2] at hW; refine Qw (Qx fun K hK => ?_); refine Qq J J J (Qb J J sAdrs.und (List.length_map ..) J (QV J J J fS7 J (QY J J J J J lInt J (Qk (isub (by omega) (by omega)) J J J J ?_)))); refine Qk ilss J J J J (Qq J J J (Q7 58 J (fun h3 => ?_) (fun h3 => ?_)))
    · rw [if_pos (Or.inl h3)] at hW; refine Qy J J J (Qy J J J (QJ J J J J (Qv J J J (Qj (hK _ _ (Qz (Qp J (Qw ?_)))))))); clear hK K; refine Qx (fun K hK => ?_); refine Qv J J J (Qj (hK _ _ (Qz (Q0 (Q3 ?_))))); clear hK K; exact Fin.up hR (ZV [2, 1, 0] m [_] rfl (Xj X5 (Qu J QQ)) (by rw [hW]; rfl) J (fun _ => rfl) hm)
    · refine QV J J J fS8 J (QY J J J J J lBool1 J (QK J J J J (Qv J J J (Qj (hK _ _ (Qz ?_)))))); clear hK K; refine XZ J (fun h4 => ?_) (fun h4 => ?_)
      · rw [if_pos (Or.inr h4)] at hW; refine Qw (Qx fun K hK => ?_); refine Qv J J J (Qj (hK _ _ (Qz (Q0 (Q3 ?_))))); clear hK K; exact Fin.up hR (ZV [2, 1, 0] m [_] rfl (Xj X5 (Qu J QQ)) (by rw [hW]; rfl) J (fun _ => rfl) hm)
      · rw [if_neg (fun h => h.elim h3 (fun h => by rw [h4] at h; cases h))] at hW; refine Q1 (Qd ?_); exact Qr hM p ⟨hW, hpl⟩ (QX J ⟨rfl, rfl, rfl, trivial⟩)
  obtain ⟨hW', hpl'⟩ := hp'; clear hW hpl hkn hP hal' hLo hof; refine Qw (Qx fun K hK => ?_); refine Qv J J J (Qj (hK _ _ (Qz (Qw (Qw ?_))))); clear hK K; refine Qx (fun K hK => ?_); refine Qq J J J (Qb J J sAdrs.und (List.length_map ..) J (Qq J J J (Qj (hK _ _ (Qz (Q5 ?_)))))); clear hK K
  refine Xg 8 4 37 2 J J J ?_
  refine Xx (α := Nat × List Wr) (fun q => q.1 ≤ p'.length ∧ q.2.length ≤ q.1 ∧ wiresG 0 p' true = q.2 ++ wiresG (prv p' q.1) (p'.drop q.1) (decide (q.1 = 0)))
    (fun q => [(3, .own 1), (6, .ct (adsC p')), (8, .own 4), (62, .ct (adsC p')), (63, .ct (intC p'.length)), (64, .ct (intC q.1))])
    (fun q => [(4, .row 37 2 (wrs q.2)), (2, .box 145 (stmCs (trOf r, r.fl))), (1, .box 35 (rsCs r)), (0, .box 94 [.fr (mapT (owM om)), .ex v]), (8, .mpx v (knM m))])
    (fun q => p'.length - q.1) (0, []) ⟨Nat.zero_le _, Nat.zero_le _, rfl⟩ (by exact QX J ⟨rfl, rfl, rfl, rfl, rfl, rfl, trivial⟩) ?_
  intro ⟨i, out⟩ ⟨hi, hol, hq⟩
  try dsimp only at hi hol hq ⊢
  refine Qw (Qx fun K hK => ?_); refine Qk ilss J J J J (Qj (hK _ _ (Qz (Qw ?_)))); clear hK K; refine Q2 J (fun h => ?_) (fun h => ?_)
  · have e2 : (i : Int).toNat = i := Int.toNat_natCast i; rw [wiresG_step (by omega)] at hq; refine Q1 (Qz (Qw (Q5 (Qw (Qx fun K hK => ?_))))); refine Qq J J J (Qh J J J sAdrs (by omega) (adrs_at (by omega) (by omega)) J ?_); rw [e2]
    refine XQ J J J lAddr J ?_
    generalize p'.getD i 0 = a at hq; refine Qv J J J (Qv J J J (Qj (hK _ _ ?_))); clear hK K; refine Qz (Qw (Qx (fun K hK => ?_))); refine Qv J J J (Qj (hK _ _ ?_)); clear hK K; refine Qz (Qw ?_)
    refine Xo (α := Unit) (fun _ => True) (fun _ => [(3, .own 1), (6, .ct (adsC p')), (8, .own 4), (9, .ct (intC i)), (10, .ct (adrF a)), (11, .ct (adrF (prv p' i))), (62, .ct (adsC p')), (63, .ct (intC p'.length)), (64, .ct (intC i))])
      (fun _ => [(4, .row 37 2 (wrs out)), (2, .box 145 (stmCs (trOf r, r.fl))), (1, .box 35 (rsCs r)), (0, .box 94 [.fr (mapT (owM om)), .ex v]), (8, .mpx v (knM m))]) (fun _ _ => ?_) (fun KN hM => ?_)
    rotate_left
    · refine Qw (Qx fun K hK => ?_); refine Qq J J J (Qk igtr J J J J (Qj (hK _ _ (Qz ?_)))); clear hK K; refine Q2 J (fun h2 => ?_) (fun h2 => ?_)
      · have e3 : ((i : Int) - 1).toNat = i - 1 := by omega
        have e4 : prv p' i = p'.getD (i - 1) 0 := if_neg (by omega); rw [e4] at hM; refine Qx (fun K hK => ?_); refine Qq J J J (Qq J J J (Qk (isub (by omega) (by omega)) J J J J ?_))
        refine Qh J J J sAdrs (by omega) (adrs_at (by omega) (by omega)) J ?_
        rw [e3]; refine XQ J J J lAddr J (Qv J J J (Qj (hK _ _ ?_))); clear hK K; exact Qr hM () trivial (QX J ⟨rfl, rfl, rfl, rfl, rfl, rfl, rfl, rfl, rfl, trivial⟩)
      · have e4 : prv p' i = 0 := if_pos (by omega); rw [e4] at hM
        refine Q1 ?_
        exact Qr hM () trivial (QX J ⟨rfl, rfl, rfl, rfl, rfl, rfl, rfl, rfl, rfl, trivial⟩)
    generalize prv p' i = f at hq; refine Qw (Qx fun K hK => ?_); refine Qq J J J (Qk ineq J J J J (Qq J J J ?_))
    have ez : ∀ x : _root_.Fin 4294967296, ((x.val : Int) ≠ 0) ↔ x ≠ 0 := fun x => ⟨fun h e => h (by rw [e]; rfl), fun h e => h (Fin.ext (by have e0 : ((0 : _root_.Fin 4294967296).val) = 0 := rfl; omega))⟩
    refine Q7 78 J (fun h1 => ?_) (fun h1 => ?_)
    · have h1 := (ez a).1 h1; refine Qq J J J (Qk ieql J J J J (Qq J J J (Q7 81 J (fun h2 => ?_) (fun h2 => ?_))))
      · refine Qy J J J (Qy J J J (QJ J J J J (QJ J J J J (Qj (hK _ _ (Qz (Qp J ?_))))))); clear hK K; refine Qx (fun K hK => ?_); refine Qq J J J (Qq J J J (Qq J J J (Qi J bWire J (.one J J J J (.one J J J J .nil)) J (X6 (n := 2) J J sWrs J J (by decide) J ?_))))
        refine Qt out.length (wrs (out ++ [(f, a)])) J J J J sWrs (Zr out) J (by omega) (by omega) (wrs_snoc out (f, a)) J ?_
        refine Qv J J J (Qj (hK _ _ (Qz ?_))); clear hK K; refine Qx (fun K hK => ?_)
        refine Qk (iadd (by omega) (by omega)) J J J J ?_
        refine Qq J J J (Qj (hK _ _ (Q4 ?_))); clear hK K; refine Q8 (i + 1, out ++ [(f, a)]) (by dsimp only; omega) ⟨by dsimp only; omega, by simp only [List.length_append, List.length_singleton]; omega, by rw [hq, if_pos (⟨h1, .inl (by omega)⟩ : a ≠ 0 ∧ (i = 0 ∨ f ≠ 0)), List.append_assoc]⟩ (by exact QX J ⟨rfl, rfl, rfl, rfl, rfl, by simp only [Int.natCast_add]; rfl, trivial⟩)
      · refine Qq J J J (Qk ineq J J J J (QK J J J J (QJ J J J J (Qj (hK _ _ (Qz ?_)))))); clear hK K; refine Q2 J (fun h3 => ?_) (fun h3 => ?_)
        · refine Qx (fun K hK => ?_); refine Qq J J J (Qq J J J (Qq J J J (Qi J bWire J (.one J J J J (.one J J J J .nil)) J (X6 (n := 2) J J sWrs J J (by decide) J ?_))))
          refine Qt out.length (wrs (out ++ [(f, a)])) J J J J sWrs (Zr out) J (by omega) (by omega) (wrs_snoc out (f, a)) J ?_
          refine Qv J J J (Qj (hK _ _ (Qz ?_))); clear hK K; refine Qx (fun K hK => ?_)
          refine Qk (iadd (by omega) (by omega)) J J J J ?_
          refine Qq J J J (Qj (hK _ _ (Q4 ?_))); clear hK K; refine Q8 (i + 1, out ++ [(f, a)]) (by dsimp only; omega) ⟨by dsimp only; omega, by simp only [List.length_append, List.length_singleton]; omega, by rw [hq, if_pos (⟨h1, .inr ((ez f).1 h3)⟩ : a ≠ 0 ∧ (i = 0 ∨ f ≠ 0)), List.append_assoc]⟩ (by exact QX J ⟨rfl, rfl, rfl, rfl, rfl, by simp only [Int.natCast_add]; rfl, trivial⟩)
        · refine Q1 (Qz (Qx fun K hK => ?_))
          refine Qk (iadd (by omega) (by omega)) J J J J ?_
          refine Qq J J J (Qj (hK _ _ (Q4 ?_))); clear hK K; refine Q8 (i + 1, out) (by dsimp only; omega) ⟨by dsimp only; omega, by dsimp only; omega, by rw [hq, if_neg (fun h => h.2.elim (fun e => h2 (by omega)) (fun e => h3 ((ez f).2 e)) : ¬ (a ≠ 0 ∧ (i = 0 ∨ f ≠ 0))), List.nil_append]⟩ (by exact QX J ⟨rfl, rfl, rfl, rfl, rfl, by simp only [Int.natCast_add]; rfl, trivial⟩)
    · refine Qy J J J (Qy J J J (Qy J J J (Qy J J J (Qy J J J (Qy J J J (QK J J J J (Qj (hK _ _ (Qz (Xv J (Q1 (Qz ?_)))))))))))); clear hK K; refine Qx (fun K hK => ?_)
      refine Qk (iadd (by omega) (by omega)) J J J J ?_
      refine Qq J J J (Qj (hK _ _ (Q4 ?_))); clear hK K; refine Q8 (i + 1, out) (by dsimp only; omega) ⟨by dsimp only; omega, by dsimp only; omega, by rw [hq, if_neg (fun h => h1 ((ez a).2 h.1) : ¬ (a ≠ 0 ∧ (i = 0 ∨ f ≠ 0))), List.nil_append]⟩ (by exact QX J ⟨rfl, rfl, rfl, rfl, rfl, by simp only [Int.natCast_add]; rfl, trivial⟩)
  · have hi' : i = p'.length := by omega
    rw [hi', List.drop_length] at hq
    have hq : wiresG 0 p' true = out := by rw [hq]; exact List.append_nil _
    rw [hq] at hW'; refine Qs (Qz (Qw (Qx fun K hK => ?_))); refine Qq J J J (Qv J J J (Qj (hK _ _ (Qz (Q0 ?_))))); clear hK K
    refine Z6 4 _ J (wrs_frozen _ _) hbor ?_
    exact ZV [2, 1, 0] m [_] rfl (Qu J QQ) (by rw [hW']; rfl) J (fun _ => rfl) hm
end Go.Proofs.YtlkdkbdgnjcopaaGreat
namespace Go.Proofs.YtlkdkbdgnjcopaaGreat
open Go.Own Go.Limbs
def kS (fl tt : Int) (s : Fin 4294967296 × Int) (r : Rs) : Fin 4294967296 × Int :=
  if usR r = false ∨ ¬ r.fl = fl ∨ ¬ r.tt = tt then s
  else if r.an = false then (s.1, max s.2 1)
  else if s.2 ≤ 1 then (r.fr, 2)
  else if s.2 = 2 ∧ s.1 ≠ r.fr then (0, 3) else s
abbrev spV (m : AdM × StM) (fl tt : Int) : Fin 4294967296 × Int := ((look1 m.1 (fl, tt)).getD 0, (look1 m.2 (fl, tt)).getD 0)
theorem look_step (e fl tt : Int) (h : ¬ (0 < e ∧ e < tt)) (m : AdM × StM) (r : Rs) : spV (lookS e m r) fl tt = kS fl tt (spV m fl tt) r := by
  unfold lookS kS; by_cases hu : usR r = false
  · rw [if_pos (.inl hu), if_pos (.inl hu)]
  by_cases h1 : r.fl = fl ∧ r.tt = tt
  · obtain ⟨h1, h2⟩ := h1; subst h1; subst h2; rw [if_neg (show ¬ (usR r = false ∨ (0 < e ∧ e < r.tt)) from fun x => x.elim hu h), if_neg (show ¬ (usR r = false ∨ ¬ r.fl = r.fl ∨ ¬ r.tt = r.tt) from fun x => x.elim hu (fun x => x.elim (fun y => y J) (fun y => y J)))]; by_cases ha : r.an = false
    · rw [if_pos ha, if_pos ha]; simp only [spV, look1_ins, if_pos, Option.getD_some]
    rw [if_neg ha, if_neg ha]; by_cases hb : (look1 m.2 (r.fl, r.tt)).getD 0 ≤ 1
    · rw [if_pos hb, if_pos hb]; simp only [spV, look1_ins, if_pos, Option.getD_some]
    rw [if_neg hb, if_neg hb]; by_cases hc : (look1 m.2 (r.fl, r.tt)).getD 0 = 2 ∧ (look1 m.1 (r.fl, r.tt)).getD 0 ≠ r.fr
    · rw [if_pos hc, if_pos hc]; simp only [spV, look1_ins, if_pos, Option.getD_some]
    · rw [if_neg hc, if_neg hc]
  · have hne : (fl, tt) ≠ (r.fl, r.tt) := fun x => h1 (by injection x with a b; exact ⟨a.symm, b.symm⟩)
    rw [if_pos (show usR r = false ∨ ¬ r.fl = fl ∨ ¬ r.tt = tt from .inr (by
      by_cases x : r.fl = fl
      · exact .inr (fun y => h1 ⟨x, y⟩)
      · exact .inl x))]
    have q1 : ∀ {β : Type} (m : List (Sp × β)) (b : β), look1 (ins m (r.fl, r.tt) b) (fl, tt) = look1 m (fl, tt) := fun m b => by rw [look1_ins, if_neg hne]
    split
    · rfl
    · split
      · simp only [spV, q1]
      · split
        · simp only [spV, q1]
        · split
          · simp only [spV, q1]
          · rfl
theorem look_skip (e fl tt : Int) (h : 0 < e ∧ e < tt) (m : AdM × StM) (r : Rs) : spV (lookS e m r) fl tt = spV m fl tt := by
  unfold lookS; by_cases h1 : r.fl = fl ∧ r.tt = tt
  · rw [if_pos (.inr (by rw [h1.2]; exact h))]
  · have hne : (fl, tt) ≠ (r.fl, r.tt) := fun x => h1 (by injection x with a b; exact ⟨a.symm, b.symm⟩)
    have q1 : ∀ {β : Type} (m : List (Sp × β)) (b : β), look1 (ins m (r.fl, r.tt) b) (fl, tt) = look1 m (fl, tt) := fun m b => by rw [look1_ins, if_neg hne]
    split
    · rfl
    · split
      · simp only [spV, q1]
      · split
        · simp only [spV, q1]
        · split
          · simp only [spV, q1]
          · rfl
theorem look_key (e fl tt : Int) : ∀ (l : List Rs) (m : AdM × StM), spV (l.foldl (lookS e) m) fl tt = if 0 < e ∧ e < tt then spV m fl tt else l.foldl (kS fl tt) (spV m fl tt)
  | [], m => by simp
  | r :: l, m => by
    rw [List.foldl_cons, List.foldl_cons, look_key e fl tt l]
    by_cases h : 0 < e ∧ e < tt
    · rw [if_pos h, if_pos h, look_skip e fl tt h]
    · rw [if_neg h, if_neg h, look_step e fl tt h]
theorem lookG_key (l : List Rs) (fl tt : Int) : spV (lookG l) fl tt = if 0 < endF l ∧ endF l < tt then (0, 0) else l.foldl (kS fl tt) (0, 0) := by
  unfold lookG; rw [look_key]; rfl
theorem kS_mixed (fl tt : Int) : ∀ l : List Rs, l.foldl (kS fl tt) (0, 3) = (0, 3)
  | [] => rfl
  | r :: l => by
    have : kS fl tt (0, 3) r = (0, 3) := by
      unfold kS; split
      · rfl
      · split
        · rfl
        · rw [if_neg (show ¬ ((3 : Int) ≤ 1) by decide), if_neg (show ¬ ((3 : Int) = 2 ∧ (0 : _root_.Fin 4294967296) ≠ r.fr) from fun h => absurd h.1 (by decide))]
    rw [List.foldl_cons, this]; exact kS_mixed fl tt l
attribute [local irreducible] Go.Own.Fin Ok OkB OkF OkL OkN OkT Ops St
theorem goClash : InGo Tryz.prog 145 := InGo.of Tryz.func145 rfl (by decide)
theorem drop_getD {α : Type} {l : List α} {z : α} {i : Nat} (h : i < l.length) : l.drop i = l.getD i z :: l.drop (i + 1) := by
  rw [List.drop_eq_getElem_cons h, List.getD_eq_getElem?_getD, List.getElem?_eq_getElem h]; rfl
set_option maxHeartbeats 4000000 in
theorem Clash_ok (l : List Rs) (hl : l.length ≤ 100000) : Ok Tryz.prog 145 [rssC l] (intC (clashG [] l)) := by
  refine Ok.enter Tryz.func145 J _ Tryz.ntmps145 J ?_
  intro S w; refine Qw (Qx fun K hK => ?_); refine Qv J J J (Qj (hK _ _ (Qz (Qw ?_)))); clear hK K; refine Qx (fun K hK => ?_); refine Ops.mkMap 8 J J J J J (fun v1 hv1 => ?_); refine Qv J J J (Qj (hK _ _ (Qz (Qw (Qw ?_))))); clear hK K; refine Qx (fun K hK => ?_); refine Qq J J J (Qb J J sRes.und (List.length_map ..) J (Qq J J J (Qj (hK _ _ (Qz (Q5 ?_)))))); clear hK K
  refine Xx (α := Nat × SeenM) (fun q => q.1 ≤ l.length ∧ clashG [] l = q.1 + clashG q.2 (l.drop q.1))
    (fun q => [(3, .ct (.ex v1)), (0, .ct (rssC l)), (11, .ct (rssC l)), (12, .ct (intC l.length)), (13, .ct (intC q.1))]) (fun q => [(8, .mpx v1 (kvs esE adrF q.2))]) (fun q => l.length - q.1) (0, []) ⟨Nat.zero_le _, (Nat.zero_add _).symm⟩ (by exact QX J ⟨rfl, rfl, rfl, rfl, rfl, trivial⟩) ?_
  rintro ⟨i, m⟩ ⟨hi, hq⟩
  try dsimp only at hi hq ⊢
  refine Qw (Qx fun K hK => ?_); refine Qk ilss J J J J (Qj (hK _ _ (Qz (Qw ?_)))); clear hK K; refine Q2 J (fun h => ?_) (fun h => ?_)
  · have e2 : (i : Int).toNat = i := Int.toNat_natCast i; rw [drop_getD (z := rs0) (show i < l.length by omega)] at hq; refine Q1 (Qz (Qw (Q5 (Qw (Qx fun K hK => ?_))))); refine Qq J J J (Qh J J J sRes (by omega) (Xd (by omega) (by omega)) J ?_); refine XX (n := 17) J J J lRes J J (Qg 0 J J zvRes J J J (Qv J J J (Qa 17 J J J J J Z4 J J (Qj (hK _ _ (Qz (Qw ?_))))))); clear hK K; refine Qx (fun K hK => ?_)
    refine Q6 (n := 17) J J J J J lRes J ?_
    rw [e2]; generalize l.getD i rs0 = c at hq ⊢; have hP := Place_ok c; simp only [clashG] at hq; generalize plS c = sc at hP hq; generalize plB c = pc at hP hq; skip; refine QW goPlace hP J J J J (Qq J J J (Q9 J J J J (Q9 J J J J (Qg 3 J J zvES J J J (Qa 5 J J J J J szES J J (Qv J J J (Qj (hK _ _ (Qz (Qw (Qw ?_))))))))))); clear hK K; refine Qx (fun K hK => ?_); refine Qq J J J (Qm J J J (Qj (hK _ _ (Qz ?_)))); clear hK K; refine XZ J (fun h1 => ?_) (fun h1 => ?_)
    · have h1' : pc = false := by simpa using h1
      rw [if_pos h1'] at hq; refine Qs (Qz (Qx fun K hK => ?_))
      refine Qk (iadd (by omega) (by omega)) J J J J ?_
      refine Qq J J J (Qj (hK _ _ (Q4 ?_))); clear hK K; refine Ql 3 (Ql 0 (Q8 (i + 1, m) (by dsimp only; omega) ⟨by dsimp only; omega, by dsimp only; omega⟩ (by exact QX J ⟨rfl, rfl, rfl, rfl, by simp only [Int.natCast_add]; rfl, trivial⟩)))
    · have h1' : pc = true := by simpa using h1
      rw [if_neg (by rw [h1']; decide)] at hq; refine Q1 (Qz (Qw (Qw (Qx fun K hK => ?_)))); refine Qq J J J (Q6 (n := 5) J J J J J lES J (Ops.lookM2 (i := 8) (cv := adrF) (enc := esE) 0 sc J J J J (KeyIs.agg (us := esV sc) J) uMSeen z0Adr (fun _ _ => rfl) keyES J ?_)); generalize (look1 m sc).isSome = b at hq ⊢; generalize (look1 m sc).getD 0 = a at hq ⊢; refine Qq J J J (Q9 J J J J (Q9 J J J J (Qv J J J (Qv J J J (Qj (hK _ _ (Qz (Qw ?_)))))))); clear hK K; refine Qx (fun K hK => ?_); refine Qq J J J (Qq J J J (X3 32 (b := b) J (fun h2 => ?_) (fun h2 => ?_)))
      · refine Qq J J J (QV J J J fS11 J (XK J J fN0 J (QY J J J J J lAddr J (Qk ineq J J J J (QJ J J J J (Qj (hK _ _ (Qz ?_)))))))); clear hK K; refine Q2 J (fun h3 => ?_) (fun h3 => ?_)
        · rw [if_pos ⟨h2, fun h => h3 (by rw [h])⟩] at hq; refine Qw (Qx fun K hK => ?_); refine Qq J J J (Qv J J J (Qj (hK _ _ (Qz (Q0 (QZ (Q3 (QZ (QZ (Q3 (QZ ?_))))))))))); clear hK K; refine QU [_] rfl (Qu J QQ) (by rw [hq]; rfl) J
        · rw [if_neg (fun h => h.2 (Fin.ext (by omega)))] at hq; refine Q1 (Qz (Qx fun K hK => ?_)); refine Qq J J J (Q6 (n := 5) J J J J J lES J (QV J J J fS11 J (XK J J fN0 J (QY J J J J J lAddr J (XJ (i := 8) (enc := esE) (cv := adrF) sc c.fr J J J (KeyIs.agg (us := esV sc) J) J uMSeen keyES (Qj (hK _ _ (Qz ?_)))))))); clear hK K; refine Qx (fun K hK => ?_)
          refine Qk (iadd (by omega) (by omega)) J J J J ?_
          refine Qq J J J (Qj (hK _ _ (Q4 ?_))); clear hK K; refine Ql 3 (Ql 0 (Q8 (i + 1, ins m sc c.fr) (by dsimp only; omega) ⟨by dsimp only; omega, by dsimp only; omega⟩ (by exact QX J ⟨rfl, rfl, rfl, rfl, by simp only [Int.natCast_add]; rfl, trivial⟩)))
      · rw [if_neg (fun h => by rw [h2] at h; cases h.1)] at hq; refine Qy J J J (Qy J J J (Qy J J J (Qy J J J (Qy J J J (QK J J J J (Qj (hK _ _ (Qz (Xv J (Q1 (Qz ?_))))))))))); clear hK K; refine Qx (fun K hK => ?_); refine Qq J J J (Q6 (n := 5) J J J J J lES J (QV J J J fS11 J (XK J J fN0 J (QY J J J J J lAddr J (XJ (i := 8) (enc := esE) (cv := adrF) sc c.fr J J J (KeyIs.agg (us := esV sc) J) J uMSeen keyES (Qj (hK _ _ (Qz ?_)))))))); clear hK K; refine Qx (fun K hK => ?_)
        refine Qk (iadd (by omega) (by omega)) J J J J ?_
        refine Qq J J J (Qj (hK _ _ (Q4 ?_))); clear hK K; refine Ql 3 (Ql 0 (Q8 (i + 1, ins m sc c.fr) (by dsimp only; omega) ⟨by dsimp only; omega, by dsimp only; omega⟩ (by exact QX J ⟨rfl, rfl, rfl, rfl, by simp only [Int.natCast_add]; rfl, trivial⟩)))
  · have hi' : i = l.length := by omega
    rw [hi', List.drop_length] at hq; simp only [clashG, Nat.add_zero] at hq; refine Qs (Qz (Qw (Qx fun K hK => ?_))); refine Qq J J J (Qb J J sRes.und (List.length_map ..) J (Qv J J J (Qj (hK _ _ (Qz (Q0 ?_)))))); clear hK K; refine QU [_] rfl (Qu J QQ) (by rw [hq]; rfl) J
theorem witG_loop {p : Rs → Bool} {z : Rs} : ∀ (l : List Rs) (i : Nat), (∀ j, j < i → j < l.length → p (l.getD j z) = false) → i ≤ l.length → l.findIdx? p = ((l.drop i).findIdx? p).map (· + i)
  | [], i, _, h => by
    have : i = 0 := by simpa using h
    subst this; rfl
  | a :: l, 0, _, _ => by simp
  | a :: l, i + 1, h, hi => by
    have h0 : p a = false := h 0 (Nat.succ_pos _) (Nat.succ_pos _)
    have ih := witG_loop l i (fun j h1 h2 => h (j + 1) (by omega) (by simpa using h2)) (by simpa using hi)
    rw [List.findIdx?_cons, h0, ih]
    simp only [List.drop_succ_cons, Bool.false_eq_true, if_false, Option.map_map, Function.comp_def]
    rfl
abbrev witC (o : List Rs) : List CT := match witG o with
  | some i => [ikC (idOf (o.getD i rs0)), ikC (idOf (o.getD (clashG [] o) rs0)), boolC true]
  | none => [ikC ⟨0, 0, 0⟩, ikC ⟨0, 0, 0⟩, boolC false]
theorem goWitness : InGo Tryz.prog 115 := InGo.of Tryz.func115 rfl (by decide)
theorem take_getD {l : List Rs} {z : Rs} {k i : Nat} (h : i < k) : (l.take k).getD i z = l.getD i z := by
  rw [List.getD_eq_getElem?_getD, List.getElem?_take_of_lt h, ← List.getD_eq_getElem?_getD]
theorem fidx_drop {p : Rs → Bool} {z : Rs} {l : List Rs} {k i : Nat} (hk : k ≤ l.length) (hi : i ≤ k) (h : ∀ j, j < i → p (l.getD j z) = false) : (l.take k).findIdx? p = (((l.take k).drop i).findIdx? p).map (· + i) := by
  refine witG_loop (z := z) (l.take k) i (fun j h1 h2 => ?_) (by rw [List.length_take]; omega); rw [List.getD_eq_getElem?_getD, List.getElem?_take_of_lt (by rw [List.length_take] at h2; omega), ← List.getD_eq_getElem?_getD]; exact h j h1
set_option maxHeartbeats 4000000 in
theorem Witness_ok (l : List Rs) (hl : l.length ≤ 10000) : Ok Tryz.prog 115 [rssC l] (.fr (tupT (witC (sd cmpR (l.filter okR))))) := by
  have hO := Order_ok l hl
  have hol : (sd cmpR (l.filter okR)).length ≤ 10000 := by
    have := Yv cmpR (l.filter okR); have := List.length_filter_le okR l; omega
  generalize sd cmpR (l.filter okR) = o at hO hol ⊢; have hC := Clash_ok o (by omega); have hle := clashG_le o []
  have ew : witG o = if clashG [] o < o.length then (o.take (clashG [] o)).findIdx? (fun a => conB a (o.getD (clashG [] o) rs0)) else none := rfl
  have eC : (CT.fr (tupT (witC o))) = .fr (tupT (match witG o with
    | some i => [ikC (idOf (o.getD i rs0)), ikC (idOf (o.getD (clashG [] o) rs0)), boolC true]
    | none => [ikC ⟨0, 0, 0⟩, ikC ⟨0, 0, 0⟩, boolC false])) := rfl
  rw [eC]; clear eC; generalize clashG [] o = k at hC hle ew ⊢; generalize witG o = wt at ew ⊢
  refine Ok.enter Tryz.func115 J _ Tryz.ntmps115 J ?_
  intro S w; refine Qw (Qx fun K hK => ?_); refine Qg 0 J J zvID J J J (Qg 1 J J zvID J J J (Qv J J J (Qj (hK _ _ (Qz (Qw ?_)))))); clear hK K; refine Qx (fun K hK => ?_); refine Qq J J J (ZQ 3 goOrder hO J J J J J J (Zx 3 _ J (rss_frozen _ _) noBor_sub (Qv J J J (Qj (hK _ _ (Qz (Qw ?_))))))); clear hK K; refine Qx (fun K hK => ?_); refine Qq J J J (QW goClash hC J J J J (Qv J J J (Qj (hK _ _ (Qz (Qw (Qw ?_))))))); clear hK K; refine Qx (fun K hK => ?_); refine Qv J J J (Qj (hK _ _ (Qz (Q5 ?_)))); clear hK K
  refine Xx (α := Nat) (fun i => i ≤ k ∧ (k < o.length → ∀ j, j < i → conB (o.getD j rs0) (o.getD k rs0) = false))
    (fun i => [(2, .own 0), (3, .own 1), (5, .ct (rssC o)), (6, .ct (intC k)), (7, .ct (intC i))]) (fun _ => [(1, .box 124 (ikCs ⟨0, 0, 0⟩)), (0, .box 124 (ikCs ⟨0, 0, 0⟩))]) (fun i => k - i) 0 ⟨Nat.zero_le _, fun _ j hj => by omega⟩ (by exact QX J ⟨rfl, rfl, rfl, rfl, rfl, trivial⟩) ?_
  intro i ⟨hi, hq⟩
  try dsimp only
  refine Qw (Qw (Qx fun K hK => ?_)); refine Qq J J J (Qq J J J (Qk ilss J J J J (Qq J J J (Q7 15 (p := (i : Int) < k) J (fun h => ?_) (fun h => ?_)))))
  · refine Qq J J J (Qq J J J (Qb J J sRes.und (List.length_map ..) J (Qk ilss J J J J (QJ J J J J (Qj (hK _ _ (Qz ?_))))))); clear hK K; refine Q2 J (fun h2 => ?_) (fun h2 => ?_)
    · have hk : k < o.length := by omega
      rw [if_pos hk, fidx_drop (i := i) hle hi (hq hk)] at ew; have e1 : (i : Int).toNat = i := Int.toNat_natCast i; have e2 : (k : Int).toNat = k := Int.toNat_natCast k; rw [drop_getD (z := rs0) (show i < (o.take k).length by rw [List.length_take]; omega), take_getD (by omega), List.findIdx?_cons] at ew; have hCo := Contradict_ok (o.getD i rs0) (o.getD k rs0)
      have hn : conB (o.getD i rs0) (o.getD k rs0) = false → ∀ j, j < i + 1 → conB (o.getD j rs0) (o.getD k rs0) = false := fun h j hj => by
        rcases Nat.lt_or_ge j i with h3 | h3
        · exact hq hk j h3
        · have : j = i := by omega
          rw [this]; exact h
      generalize conB (o.getD i rs0) (o.getD k rs0) = cb at hCo hn ew; have hA := Zo (o.getD i rs0); have hB := Zo (o.getD k rs0); refine Q1 (Qz (Qw (Q5 (Qw ?_)))); refine Xw mixed 9 (.p 0 (.p 1 (.p 2 (.p 4 (.p 5 (.p 6 (.f 3 (.f 7 (.m 8 .done))))))))) (by kernel_rfl) (fun K hK => ?_); refine Qq J J J (Qq J J J (Qh J J J sRes (by omega) (Xd (by omega) (by omega)) J ?_)); refine Qq J J J (Qq J J J (Qh J J J sRes (by omega) (Xd (by omega) (by omega)) J ?_)); refine XX (n := 17) J J J lRes J J (XX (n := 17) J J J lRes J J ?_); rw [e1, e2]; skip; refine QW goContradict hCo J J J J (Qj (hK _ _ (Qz ?_))); clear hK K; refine XZ J (fun h3 => ?_) (fun h3 => ?_)
      · rw [if_pos h3] at ew; simp only [Option.map_some, Nat.zero_add] at ew; refine Qw (Xw mixed 10 (.p 0 (.p 1 (.p 2 (.p 5 (.p 6 (.p 7 (.f 3 (.fork 4 (.m 8 (.m 9 (.a 10 (.a 11 (.p 12 .done))))) 8 (.m 4 (.m 9 (.a 10 (.a 11 (.p 12 .done))))))))))))) (by kernel_rfl) (fun K hK => ?_)); refine Qq J J J (Qq J J J (Qh J J J sRes (by omega) (Xd (by omega) (by omega)) J ?_)); refine Qq J J J (Qq J J J (Qh J J J sRes (by omega) (Xd (by omega) (by omega)) J ?_))
        refine XX (n := 17) J J J lRes J J ?_
        rw [e1]; skip
        refine Y1 ?_ ?_
        · refine QW Zh hA J J J J (XX (n := 17) J J J lRes J J ?_); rw [e2]; skip
          refine QW Zh hB J J J J ?_
          skip; refine Qa 3 J J J J J szID J J (Qa 3 J J J J J szID J J (Qv J J J (Qj (hK _ _ (Qz (Q0 (Q3 (QZ (QZ (Q3 (QZ ?_))))))))))); clear hK K; refine QU [_, _, _] rfl (Qc (n := 3) J J lID J (Qc (n := 3) J J lID J (Qu J QQ))) (by rw [ew]; rfl) J
        · refine XX (n := 17) J J J lRes J J ?_
          rw [e2]; skip
          refine QW Zh hA J J J J ?_
          skip
          refine QW Zh hB J J J J ?_
          skip; refine Qa 3 J J J J J szID J J (Qa 3 J J J J J szID J J (Qv J J J (Qj (hK _ _ (Qz (Q0 (Q3 (QZ (QZ (Q3 (QZ ?_))))))))))); clear hK K; refine QU [_, _, _] rfl (Qc (n := 3) J J lID J (Qc (n := 3) J J lID J (Qu J QQ))) (by rw [ew]; rfl) J
      · refine Q1 (Qz (Qx fun K hK => ?_)); refine Qq J J J (Qk (iadd (by omega) (by omega)) J J J J ?_); refine Qv J J J (Qj (hK _ _ (Q4 ?_))); clear hK K; refine Q8 (i + 1) (by omega) ⟨by omega, fun _ => hn h3⟩ (by exact QX J ⟨rfl, rfl, rfl, rfl, by simp only [Int.natCast_add]; rfl, trivial⟩)
    · rw [if_neg (by omega)] at ew; refine Qs (Qz (Qw (Qx fun K hK => ?_))); refine Qi J bID' J .nil J (Qi J bID' J .nil J (Qa 3 J J J J J szID J J (Qa 3 J J J J J szID J J (Qv J J J (Qj (hK _ _ (Qz (Q0 ?_)))))))); clear hK K; refine QU [_, _, _] rfl (Qc (n := 3) J J lID J (Qc (n := 3) J J lID J (Qu J QQ))) (by rw [ew]; rfl) J
  · have ew : wt = none := by
      rw [ew]; split
      · rename_i hk
        rw [fidx_drop (i := i) hle hi (hq hk), show i = k by omega, List.drop_of_length_le (by rw [List.length_take]; omega)]; rfl
      · rfl
    refine Qy J J J (Qy J J J (Qy J J J (Qy J J J (QK J J J J (Qj (hK _ _ (Qz (Xv J (Qs (Qz (Qw ?_))))))))))); clear hK K; refine Qx (fun K hK => ?_); refine Qi J bID' J .nil J (Qi J bID' J .nil J (Qa 3 J J J J J szID J J (Qa 3 J J J J J szID J J (Qv J J J (Qj (hK _ _ (Qz (Q0 ?_)))))))); clear hK K; refine QU [_, _, _] rfl (Qc (n := 3) J J lID J (Qc (n := 3) J J lID J (Qu J QQ))) (by rw [ew]; rfl) J
theorem goConsistent : InGo Tryz.prog 74 := InGo.of Tryz.func74 rfl (by decide)
def consB (l : List Rs) : Bool := (witG (sd cmpR (l.filter okR))).isNone
theorem Consistent_ok (l : List Rs) (hl : l.length ≤ 10000) : Ok Tryz.prog 74 [rssC l] (boolC (consB l)) := by
  have hW := Witness_ok l hl; have e0 : consB l = (witG (sd cmpR (l.filter okR))).isNone := rfl
  have hw : ∃ i j : Ik, witC (sd cmpR (l.filter okR)) = [ikC i, ikC j, boolC (!consB l)] := by
    rw [e0]; unfold witC
    cases witG (sd cmpR (l.filter okR)) <;> exact ⟨_, _, rfl⟩
  obtain ⟨a, b, hw⟩ := hw; rw [hw] at hW; generalize consB l = c at hW ⊢
  refine Ok.enter Tryz.func74 J _ Tryz.ntmps74 J ?_
  intro S w; refine Qw (Qx fun K hK => ?_); refine Qv J J J (Qj (hK _ _ (Qz (Qw ?_)))); clear hK K; refine Qx (fun K hK => ?_); refine Qq J J J (QW goWitness hW J J J J (Qq J J J (Q9 J J J J (Q9 J J J J (Q9 J J J J (Qg 0 J J zvID J J J (Qg 1 J J zvID J J J (Qa 3 J J J J J szID J J (Qa 3 J J J J J szID J J (Qv J J J (Qj (hK _ _ (Qz (Qw ?_)))))))))))))); clear hK K; refine Qx (fun K hK => ?_); refine Qq J J J (Qm J J J (Qv J J J (Qj (hK _ _ (Qz (Q0 ?_)))))); clear hK K; refine QU [_] rfl (Qu J QQ) (by rw [Bool.not_not]; rfl) J
attribute [local irreducible] OkM
theorem gorUsable : InGo Tryz.prog 84 := InGo.of Tryz.func84 rfl (by decide)
theorem rUsable_ok (r : Rs) : Ok Tryz.prog 84 [rsC r] (boolC (usR r)) := by
  have hV := rValidR_ok r; have e : usR r = (!r.db && okR r) := rfl; generalize usR r = u at e ⊢; generalize okR r = o at hV e
  refine Ok.enter Tryz.func84 J _ Tryz.ntmps84 J ?_
  intro S w; refine Qw (Qx fun K hK => ?_); refine Xz 0 J J J J J J J (Qv J J J (Qj (hK _ _ (Qz (Qw ?_))))); clear hK K; refine Qx (fun K hK => ?_); refine Q6 (n := 17) J J J J J lRes J (QW gorValidR hV J J J J (Qq J J J (X3 5 (b := o) J (fun h => ?_) (fun h => ?_))))
  · refine QV J J J fS9 J (QY J J J J J lBool1 J (Qm J J J (QJ J J J J (Qv J J J (Qj (hK _ _ (Qz (Q0 ?_)))))))); clear hK K; refine QU [_] rfl (Qu J QQ) (by rw [e, h, Bool.and_true]; rfl) J
  · refine Qy J J J (Qy J J J (Qy J J J (QK J J J J (Qv J J J (Qj (hK _ _ (Qz (Q0 ?_)))))))); clear hK K; refine QU [_] rfl (Qu J QQ) (by rw [e, h, Bool.and_false]; rfl) J
theorem gorFinal : InGo Tryz.prog 121 := InGo.of Tryz.func121 rfl (by decide)
theorem rFinal_ok (r : Rs) : Ok Tryz.prog 121 [rsC r] (boolC (fiR r)) := by
  have hU := rUsable_ok r; have e : fiR r = (r.an && (decide (r.ki ≠ 1) && usR r)) := rfl; generalize fiR r = u at e ⊢; generalize usR r = o at hU e
  refine Ok.enter Tryz.func121 J _ Tryz.ntmps121 J ?_
  intro S w; refine Qw (Qx fun K hK => ?_); refine Xz 0 J J J J J J J (Qv J J J (Qj (hK _ _ (Qz (Qw ?_))))); clear hK K; refine Qx (fun K hK => ?_); refine Q6 (n := 17) J J J J J lRes J (QW gorUsable hU J J J J (Qq J J J (X3 5 (b := o) J (fun h => ?_) (fun h => ?_))))
  · refine QV J J J fS8 J (QY J J J J J lBool1 J (QJ J J J J (Qq J J J (X3 9 (b := r.an) J (fun h2 => ?_) (fun h2 => ?_)))))
    · refine QV J J J fS11 J (XK J J fN1 J (QY J J J J J lInt J (Qk ineq J J J J (QJ J J J J (Qv J J J (Qj (hK _ _ (Qz (Q0 ?_))))))))); clear hK K; refine QU [_] rfl (Qu J QQ) (by rw [e, h, h2, Bool.true_and, Bool.and_true]; rfl) J
    · refine Qy J J J (Qy J J J (Qy J J J (Qy J J J (QK J J J J (Qv J J J (Qj (hK _ _ (Qz (Q0 ?_))))))))); clear hK K; refine QU [_] rfl (Qu J QQ) (by rw [e, h2, Bool.false_and]; rfl) J
  · refine Qy J J J (Qy J J J (QK J J J J (Qq J J J (Qy J J J (Qy J J J (Qy J J J (Qy J J J (QK J J J J (Qv J J J (Qj (hK _ _ (Qz (Q0 ?_))))))))))))); clear hK K; refine QU [_] rfl (Qu J QQ) (by rw [e, h, Bool.and_false, Bool.and_false]; rfl) J
theorem gorEnd : InGo Tryz.prog 83 := InGo.of Tryz.func83 rfl (by decide)
set_option maxHeartbeats 4000000 in
theorem rEnd_ok (l : List Rs) (hl : l.length ≤ 100000) : Ok Tryz.prog 83 [rssC l] (intC (endF l)) := by
  refine Ok.enter Tryz.func83 J _ Tryz.ntmps83 J ?_
  intro S w; refine Qw (Qx fun K hK => ?_); refine Qv J J J (Qj (hK _ _ (Qz (Qw ?_)))); clear hK K; refine Qx (fun K hK => ?_); refine Qv J J J (Qj (hK _ _ (Qz (Qw (Qw ?_))))); clear hK K; refine Qx (fun K hK => ?_); refine Qv J J J (Qj (hK _ _ (Qz (Q5 ?_)))); clear hK K
  refine Xx (α := Nat) (fun i => i ≤ l.length)
    (fun i => [(0, .ct (rssC l)), (3, .ct (intC (endF (l.take i)))), (4, .ct (intC i))]) (fun _ => []) (fun i => l.length - i) 0 (Nat.zero_le _) (by exact QX J ⟨rfl, rfl, rfl, trivial⟩) ?_
  intro i hi
  try dsimp only at hi ⊢
  refine Qw (Qw (Qx fun K hK => ?_)); refine Qq J J J (Qq J J J (Qb J J sRes.und (List.length_map ..) J (Qk ilss J J J J (Qj (hK _ _ (Qz ?_)))))); clear hK K; refine Q2 J (fun h => ?_) (fun h => ?_)
  · have e2 : (i : Int).toNat = i := Int.toNat_natCast i; have hs : endF (l.take (i + 1)) = endS (endF (l.take i)) (l.getD i rs0) := YY endS 0 (z := rs0) (l := l) (i := i) (by omega); refine Q1 (Qz (Qw (Q5 (Qw (Qx fun K hK => ?_))))); refine Qq J J J (Qq J J J (Qh J J J sRes (by omega) (Xd (by omega) (by omega)) J ?_))
    refine XX (n := 17) J J J lRes J J ?_
    rw [e2]; generalize hx : l.getD i rs0 = x at hs; generalize endF (l.take i) = en at hs ⊢; refine QW gorFinal (rFinal_ok x) J J J J (Qq J J J ?_); unfold endS at hs; refine X3 16 (b := fiR x) J (fun g1 => ?_) (fun g1 => ?_)
    · refine Qq J J J (Qk ieql J J J J (Qq J J J (Q7 19 J (fun g2 => ?_) (fun g2 => ?_))))
      · rw [if_pos ⟨.inl g2, g1⟩] at hs; refine Qy J J J (Qy J J J (Qy J J J (Qy J J J (Qy J J J (Qy J J J (Qy J J J (QJ J J J J (QJ J J J J (Qj (hK _ _ (Qz (Qp J ?_)))))))))))); clear hK K; refine Qx (fun K hK => ?_); refine Qq J J J (Qq J J J (Qh J J J sRes (by omega) (Xd (by omega) (by omega)) J ?_)); rw [e2, hx]; refine Ops.fldF J J fS7 J (XQ (c := intC x.tt) J J J lInt J (Qv J J J (Qj (hK _ _ (Qz ?_))))); clear hK K; refine Qx (fun K hK => ?_); refine Qq J J J (Qk (iadd (by omega) (by omega)) J J J J ?_); refine Qv J J J (Qj (hK _ _ (Q4 ?_))); clear hK K; refine Q8 (i + 1) (by omega) (by omega) (by rw [hs]; exact QX J ⟨rfl, rfl, by simp only [Int.natCast_add]; rfl, trivial⟩)
      · refine Qq J J J (Qq J J J (Qh J J J sRes (by omega) (Xd (by omega) (by omega)) J ?_)); rw [e2, hx]; refine Ops.fldF J J fS7 J (XQ (c := intC x.tt) J J J lInt J (Qq J J J (Qk ilss J J J J (QK J J J J (QJ J J J J (Qj (hK _ _ (Qz ?_)))))))); clear hK K; refine Q2 J (fun g3 => ?_) (fun g3 => ?_)
        · rw [if_pos ⟨.inr g3, g1⟩] at hs; refine Qx (fun K hK => ?_); refine Qq J J J (Qq J J J (Qh J J J sRes (by omega) (Xd (by omega) (by omega)) J ?_)); rw [e2, hx]; refine Ops.fldF J J fS7 J (XQ (c := intC x.tt) J J J lInt J (Qv J J J (Qj (hK _ _ (Qz ?_))))); clear hK K; refine Qx (fun K hK => ?_); refine Qq J J J (Qk (iadd (by omega) (by omega)) J J J J ?_); refine Qv J J J (Qj (hK _ _ (Q4 ?_))); clear hK K; refine Q8 (i + 1) (by omega) (by omega) (by rw [hs]; exact QX J ⟨rfl, rfl, by simp only [Int.natCast_add]; rfl, trivial⟩)
        · rw [if_neg (fun h => h.1.elim g2 g3)] at hs; refine Q1 (Qz (Qx fun K hK => ?_)); refine Qq J J J (Qk (iadd (by omega) (by omega)) J J J J ?_); refine Qv J J J (Qj (hK _ _ (Q4 ?_))); clear hK K; refine Q8 (i + 1) (by omega) (by omega) (by rw [hs]; exact QX J ⟨rfl, rfl, by simp only [Int.natCast_add]; rfl, trivial⟩)
    · rw [if_neg (fun h => by rw [g1] at h; cases h.2)] at hs; refine Qy J J J (Qy J J J (Qy J J J (Qy J J J (Qy J J J (Qy J J J (Qy J J J (Qy J J J (Qy J J J (Qy J J J (Qy J J J (QK J J J J (Qj (hK _ _ (Qz (Xv J (Q1 (Qz ?_))))))))))))))))); clear hK K; refine Qx (fun K hK => ?_); refine Qq J J J (Qk (iadd (by omega) (by omega)) J J J J ?_); refine Qv J J J (Qj (hK _ _ (Q4 ?_))); clear hK K; refine Q8 (i + 1) (by omega) (by omega) (by rw [hs]; exact QX J ⟨rfl, rfl, by simp only [Int.natCast_add]; rfl, trivial⟩)
  · have hi' : i = l.length := by omega
    rw [hi', List.take_length]; refine Qs (Qz (Qw (Qx fun K hK => ?_))); refine Qq J J J (Qv J J J (Qj (hK _ _ (Qz (Q0 ?_))))); clear hK K; refine QU [_] rfl (Qu J QQ) J J
theorem gorAt : InGo Tryz.prog 42 := InGo.of Tryz.func42 rfl (by decide)
set_option maxHeartbeats 8000000 in
theorem rAt_ok (l : List Rs) (fl tt : Int) (hl : l.length ≤ 100000) : Ok Tryz.prog 42 [rssC l, intC fl, intC tt] (.fr (tupT [adrF (spV (lookG l) fl tt).1, intC (spV (lookG l) fl tt).2])) := by
  have hE := rEnd_ok l hl; have e := lookG_key l fl tt; generalize endF l = en at hE e; generalize spV (lookG l) fl tt = out at e ⊢
  refine Ok.enter Tryz.func42 J _ Tryz.ntmps42 J ?_
  intro S w; refine Qw (Qx fun K hK => ?_); refine Qv J J J (Qv J J J (Qj (hK _ _ (Qz (Qw ?_))))); clear hK K; refine Qx (fun K hK => ?_); refine Qq J J J (QW gorEnd hE J J J J (Qv J J J (Qj (hK _ _ ?_)))); clear hK K; refine Qz (Qw (Qx (fun K hK => ?_))); refine Qv J J J (Qv J J J (Qj (hK _ _ ?_))); clear hK K; refine Qz (Qw (St.cutR (α := Unit) (fun _ => ¬ (0 < en ∧ en < tt)) (fun _ => [(0, .ct (rssC l)), (1, .ct (intC fl)), (2, .ct (intC tt)), (9, .ct (adrF 0)), (10, .ct (intC 0))]) (fun _ => []) (fun _ hc => ?_) (fun KN hM hR => ?_))); rotate_left
  · refine Qw (Qx fun K hK => ?_); refine Qq J J J (Qk igtr J J J J (Qq J J J (Q7 17 J (fun g1 => ?_) (fun g1 => ?_))))
    · refine Qq J J J (Qq J J J (Qk igtr J J J J (QJ J J J J (Qj (hK _ _ (Qz ?_)))))); clear hK K; refine Q2 J (fun g2 => ?_) (fun g2 => ?_)
      · rw [if_pos ⟨g1, g2⟩] at e; refine Qw (Qx fun K hK => ?_); refine Qv J J J (Qv J J J (Qj (hK _ _ (Qz (Q0 ?_))))); clear hK K; exact Fin.up hR (QU [_, _] rfl (Qu J (Qu J QQ)) (by rw [e]; rfl) J)
      · refine Q1 ?_
        exact Qr hM () (fun h => g2 h.2) (QX J ⟨rfl, rfl, rfl, rfl, rfl, trivial⟩)
    · refine Qy J J J (Qy J J J (Qy J J J (QK J J J J (Qj (hK _ _ (Qz (Xv J (Q1 ?_)))))))); clear hK K; exact Qr hM () (fun h => g1 h.1) (QX J ⟨rfl, rfl, rfl, rfl, rfl, trivial⟩)
  rw [if_neg hc] at e; refine Qw (Qw (Qx fun K hK => ?_)); refine Qv J J J (Qj (hK _ _ (Qz (Q5 ?_)))); clear hK K
  refine Xx (α := Nat × _root_.Fin 4294967296 × Int) (fun q => q.1 ≤ l.length ∧ 0 ≤ q.2.2 ∧ q.2.2 ≤ 2 ∧ out = (l.drop q.1).foldl (kS fl tt) q.2)
    (fun q => [(0, .ct (rssC l)), (1, .ct (intC fl)), (2, .ct (intC tt)), (9, .ct (adrF q.2.1)), (10, .ct (intC q.2.2)), (11, .ct (intC q.1))]) (fun _ => []) (fun q => l.length - q.1) (0, 0, 0) ⟨Nat.zero_le _, by decide, by decide, e⟩ (by exact QX J ⟨rfl, rfl, rfl, rfl, rfl, rfl, trivial⟩) ?_
  intro ⟨i, a, st⟩ ⟨hi, hs0, hs2, hq⟩
  try dsimp only at hi hs0 hs2 hq ⊢
  refine Qw (Qw (Qx fun K hK => ?_)); refine Qq J J J (Qq J J J (Qb J J sRes.und (List.length_map ..) J (Qk ilss J J J J (Qj (hK _ _ (Qz ?_)))))); clear hK K; refine Q2 J (fun h => ?_) (fun h => ?_)
  · have e2 : (i : Int).toNat = i := Int.toNat_natCast i; rw [drop_getD (z := rs0) (show i < l.length by omega), List.foldl_cons] at hq; refine Q1 (Qz (Qw (Q5 (Qw (Qx fun K hK => ?_))))); refine Qq J J J (Qq J J J (Qh J J J sRes (by omega) (Xd (by omega) (by omega)) J ?_)); refine XX (n := 17) J J J lRes J J (Qg 0 J J zvRes J J J (Qa 17 J J J J J Z4 J J (Qj (hK _ _ (Qz (Qw (Qw ?_))))))); clear hK K; refine Qx (fun K hK => ?_)
    refine Q6 (n := 17) J J J J J lRes J ?_
    rw [e2]; generalize l.getD i rs0 = x at hq; skip; have hU := rUsable_ok x
    refine QW gorUsable hU J J J J ?_
    rw [show kS fl tt (a, st) x = if usR x = false ∨ ¬ x.fl = fl ∨ ¬ x.tt = tt then (a, st) else if x.an = false then (a, max st 1) else if st ≤ 1 then (x.fr, 2) else if st = 2 ∧ a ≠ x.fr then (0, 3) else (a, st) from rfl] at hq; refine Qm J J J (Qq J J J (X3 35 (b := !usR x) J (fun g1 => ?_) (fun g1 => ?_)))
    · rw [if_pos (.inl (by simpa using g1))] at hq; refine Qy J J J (Qy J J J (Qy J J J (Qy J J J (QJ J J J J (Qq J J J (Qy J J J (Qy J J J (Qy J J J (Qy J J J (QJ J J J J (Qj (hK _ _ (Qz (Qp J (Qs (Qz ?_)))))))))))))))); clear hK K; refine Qx (fun K hK => ?_); refine Qq J J J (Qk (iadd (by omega) (by omega)) J J J J ?_); refine Qv J J J (Qj (hK _ _ (Q4 ?_))); clear hK K; refine Ql 0 (Q8 (i + 1, a, st) (by dsimp only; omega) ⟨by dsimp only; omega, by dsimp only; omega, by dsimp only; omega, by dsimp only; exact hq⟩ (by exact QX J ⟨rfl, rfl, rfl, rfl, rfl, by simp only [Int.natCast_add]; rfl, trivial⟩))
    have g1 : usR x = true := by simpa using g1
    refine QV J J J fS6 J (QY J J J J J lInt J (Qq J J J (Qk ineq J J J J (QK J J J J (Qq J J J (Q7 41 J (fun g2 => ?_) (fun g2 => ?_)))))))
    · rw [if_pos (.inr (.inl g2))] at hq; refine Qy J J J (Qy J J J (Qy J J J (Qy J J J (QJ J J J J (Qj (hK _ _ (Qz (Qp J (Qs (Qz ?_)))))))))); clear hK K; refine Qx (fun K hK => ?_); refine Qq J J J (Qk (iadd (by omega) (by omega)) J J J J ?_); refine Qv J J J (Qj (hK _ _ (Q4 ?_))); clear hK K; refine Ql 0 (Q8 (i + 1, a, st) (by dsimp only; omega) ⟨by dsimp only; omega, by dsimp only; omega, by dsimp only; omega, by dsimp only; exact hq⟩ (by exact QX J ⟨rfl, rfl, rfl, rfl, rfl, by simp only [Int.natCast_add]; rfl, trivial⟩))
    have g2 : x.fl = fl := Decidable.byContradiction g2; refine QV J J J fS7 J (QY J J J J J lInt J (Qq J J J (Qk ineq J J J J (QK J J J J (Qj (hK _ _ (Qz ?_))))))); clear hK K; refine Q2 J (fun g3 => ?_) (fun g3 => ?_)
    · rw [if_pos (.inr (.inr g3))] at hq; refine Qs (Qz (Qx fun K hK => ?_)); refine Qq J J J (Qk (iadd (by omega) (by omega)) J J J J ?_); refine Qv J J J (Qj (hK _ _ (Q4 ?_))); clear hK K; refine Ql 0 (Q8 (i + 1, a, st) (by dsimp only; omega) ⟨by dsimp only; omega, by dsimp only; omega, by dsimp only; omega, by dsimp only; exact hq⟩ (by exact QX J ⟨rfl, rfl, rfl, rfl, rfl, by simp only [Int.natCast_add]; rfl, trivial⟩))
    have g3 : x.tt = tt := Decidable.byContradiction g3; rw [if_neg (fun h => h.elim (fun h => by rw [g1] at h; cases h) (fun h => h.elim (fun h => h g2) (fun h => h g3)))] at hq; refine Q1 (Qz (Q5 (Qw (Qx fun K hK => ?_)))); refine QV J J J fS8 J (QY J J J J J lBool1 J (Qm J J J (Qv J J J (Qj (hK _ _ (Qz ?_)))))); clear hK K; refine XZ J (fun g4 => ?_) (fun g4 => ?_)
    · rw [if_pos (by simpa using g4)] at hq; refine Qw (Qx fun K hK => ?_); refine Qq J J J (Qk ieql J J J J (Qj (hK _ _ (Qz ?_)))); clear hK K; refine Q2 J (fun g5 => ?_) (fun g5 => ?_)
      · rw [show max st 1 = 1 by omega] at hq; refine Qx (fun K hK => ?_); refine Qv J J J (Qj (hK _ _ (Qz ?_))); clear hK K; refine Qx (fun K hK => ?_); refine Qq J J J (Qk (iadd (by omega) (by omega)) J J J J ?_); refine Qv J J J (Qj (hK _ _ (Q4 ?_))); clear hK K; refine Ql 0 (Q8 (i + 1, a, (1 : Int)) (by dsimp only; omega) ⟨by dsimp only; omega, by dsimp only; omega, by dsimp only; omega, by dsimp only; exact hq⟩ (by exact QX J ⟨rfl, rfl, rfl, rfl, rfl, by simp only [Int.natCast_add]; rfl, trivial⟩))
      · rw [show max st 1 = st by omega] at hq; refine Q1 (Qz (Qx fun K hK => ?_)); refine Qq J J J (Qk (iadd (by omega) (by omega)) J J J J ?_); refine Qv J J J (Qj (hK _ _ (Q4 ?_))); clear hK K; refine Ql 0 (Q8 (i + 1, a, st) (by dsimp only; omega) ⟨by dsimp only; omega, by dsimp only; omega, by dsimp only; omega, by dsimp only; exact hq⟩ (by exact QX J ⟨rfl, rfl, rfl, rfl, rfl, by simp only [Int.natCast_add]; rfl, trivial⟩))
    rw [if_neg (by simpa using g4)] at hq; refine Qw (Qx fun K hK => ?_); refine Qq J J J (Qk ieql J J J J (Qq J J J (Q7 59 J (fun g5 => ?_) (fun g5 => ?_))))
    · rw [if_neg (show ¬ st ≤ 1 by omega)] at hq; refine Qq J J J (QV J J J fS11 J (XK J J fN0 J (QY J J J J J lAddr J (Qk ineq J J J J (QJ J J J J (Qv J J J (Qj (hK _ _ (Qz ?_))))))))); clear hK K; refine Q2 J (fun g6 => ?_) (fun g6 => ?_)
      · rw [if_pos ⟨g5, fun h => g6 (by have h : a = x.fr := h; rw [h])⟩, kS_mixed] at hq; refine Qw (Qx fun K hK => ?_); refine Qv J J J (Qv J J J (Qj (hK _ _ (Qz (Q0 (Q3 (Q3 (QZ (QZ (Q3 (QZ ?_))))))))))); clear hK K; refine QU [_, _] rfl (Qu J (Qu J QQ)) (by rw [hq]; rfl) J
      · have ha : a = x.fr := _root_.Fin.ext (by omega); rw [if_neg (fun h => h.2 ha), g5, ha] at hq; refine Qx (fun K hK => ?_); refine QV J J J fS11 J (XK J J fN0 J (QY J J J J J lAddr J (Qv J J J (Qv J J J (Qj (hK _ _ (Qz ?_))))))); clear hK K; refine Qx (fun K hK => ?_); refine Qq J J J (Qk (iadd (by omega) (by omega)) J J J J ?_); refine Qv J J J (Qj (hK _ _ (Q4 ?_))); clear hK K; refine Ql 0 (Q8 (i + 1, x.fr, (2 : Int)) (by dsimp only; omega) ⟨by dsimp only; omega, by dsimp only; omega, by dsimp only; omega, by dsimp only; exact hq⟩ (by exact QX J ⟨rfl, rfl, rfl, rfl, rfl, by simp only [Int.natCast_add]; rfl, trivial⟩))
    · rw [if_pos (show st ≤ 1 by omega)] at hq; refine Qy J J J (Qy J J J (Qy J J J (Qy J J J (Qy J J J (QK J J J J (Qv J J J (Qj (hK _ _ (Qz (Xv J ?_)))))))))); clear hK K; refine Qx (fun K hK => ?_); refine QV J J J fS11 J (XK J J fN0 J (QY J J J J J lAddr J (Qv J J J (Qv J J J (Qj (hK _ _ (Qz ?_))))))); clear hK K; refine Qx (fun K hK => ?_); refine Qq J J J (Qk (iadd (by omega) (by omega)) J J J J ?_); refine Qv J J J (Qj (hK _ _ (Q4 ?_))); clear hK K; refine Ql 0 (Q8 (i + 1, x.fr, (2 : Int)) (by dsimp only; omega) ⟨by dsimp only; omega, by dsimp only; omega, by dsimp only; omega, by dsimp only; exact hq⟩ (by exact QX J ⟨rfl, rfl, rfl, rfl, rfl, by simp only [Int.natCast_add]; rfl, trivial⟩))
  · have hi' : i = l.length := by omega
    rw [hi', List.drop_length] at hq; refine Qs (Qz (Qw (Qx fun K hK => ?_))); refine Qq J J J (Qq J J J (Qv J J J (Qv J J J (Qj (hK _ _ (Qz (Q0 ?_))))))); clear hK K; refine QU [_, _] rfl (Qu J (Qu J QQ)) (by rw [hq]; rfl) J
theorem gorPath : InGo Tryz.prog 14 := InGo.of Tryz.func14 rfl (by decide)
set_option maxHeartbeats 4000000 in
theorem rPath_ok (l : List Rs) (fl : Int) (hl : l.length ≤ 100000) : OkF Tryz.prog 14 [rssC l, intC fl] 27 1 (adrs (pathF l fl)) := by
  have hA := fun tt => rAt_ok l fl tt hl
  have hb : ∀ tt, hasS (lookG l).2 fl tt = true → 1 ≤ tt ∧ tt ≤ 255 := fun tt h => hasS_tt h
  have e0 : pathF l fl = pathG (lookG l) fl 256 1 := rfl; rw [e0]; clear e0; generalize lookG l = m at hA hb ⊢
  refine OkF.enter Tryz.func14 J _ Tryz.ntmps14 J ?_
  intro S w; refine Qw (Qx fun K hK => ?_); refine Qv J J J (Qj (hK _ _ (Qz (Qw ?_)))); clear hK K; refine Qx (fun K hK => ?_); refine Qv J J J (Qj (hK _ _ (Qz (Qw ?_)))); clear hK K; refine Qx (fun K hK => ?_); refine Qv J J J (Qj (hK _ _ (Qz (Q5 ?_)))); clear hK K
  refine Xg 5 1 27 1 J J J ?_
  refine Xx (α := List Ad) (fun pre => pre.length ≤ 255 ∧ pathG m fl 256 1 = pre ++ pathG m fl (256 - pre.length) (pre.length + 1))
    (fun pre => [(0, .ct (rssC l)), (1, .ct (intC fl)), (5, .own 1), (6, .ct (intC (pre.length + 1)))])
    (fun pre => [(1, .row 27 1 (adrs pre))]) (fun pre => 256 - pre.length) [] ⟨Nat.zero_le _, rfl⟩ (by exact QX J ⟨rfl, rfl, rfl, rfl, trivial⟩) ?_
  intro pre ⟨hp, hq⟩
  try dsimp only
  have hH := hA (pre.length + 1); have hb1 := hb (pre.length + 1)
  have hun : ∀ k, pathG m fl (k + 1) (pre.length + 1) = if hasS m.2 fl (pre.length + 1) then (look1 m.1 (fl, (pre.length : Int) + 1)).getD 0 :: pathG m fl k (pre.length + 1 + 1) else [] := fun _ => rfl
  have hh : hasS m.2 fl (pre.length + 1) = (decide ((spV m fl (pre.length + 1)).2 = 2) || decide ((spV m fl (pre.length + 1)).2 = 1)) := rfl; have ha : (look1 m.1 (fl, (pre.length : Int) + 1)).getD 0 = (spV m fl (pre.length + 1)).1 := rfl; rw [ha] at hun; generalize spV m fl (pre.length + 1) = s at hH hun hh; obtain ⟨a, st⟩ := s; dsimp only at hH hun hh; generalize hasS m.2 fl (pre.length + 1) = hs at hb1 hun hh; obtain ⟨k, hk⟩ : ∃ k, 256 - pre.length = k + 1 := ⟨255 - pre.length, by omega⟩; rw [hk, hun] at hq; refine Qw (Q5 (Qw (Qx fun K hK => ?_))); refine Qq J J J (Qq J J J (Qq J J J (QW gorAt hH J J J J (Qq J J J (Q9 J J J J (Q9 J J J J (Qv J J J (Qv J J J (Qj (hK _ _ (Qz (Qw (Qw ?_))))))))))))); clear hK K; refine Qx (fun K hK => ?_); refine Qq J J J (Qk ineq J J J J (Qq J J J (Q7 20 J (fun h1 => ?_) (fun h1 => ?_))))
  · refine Qq J J J (Qk ineq J J J J (QJ J J J J (Qj (hK _ _ (Qz ?_))))); clear hK K; refine Q2 J (fun h2 => ?_) (fun h2 => ?_)
    · rw [hh, decide_eq_false h1, decide_eq_false h2, if_neg (by decide), List.append_nil] at hq; refine Qw (Qx fun K hK => ?_); refine Qq J J J (Qv J J J (Qj (hK _ _ (Qz (Q0 (QZ (Q3 (QZ (QZ (Q3 ?_)))))))))); clear hK K; refine Y3 J J (by rw [hq]; rfl) J
    · have h2 : st = 1 := Decidable.byContradiction h2
      have hs' : hs = true := by rw [hh, decide_eq_true h2, Bool.or_true]
      have hl2 := hb1 hs'; rw [hs', if_pos J] at hq; refine Q1 (Qz (Qx fun K hK => ?_)); refine Qq J J J (Qq J J J (Zj J J sAdrs J J J (Qt pre.length (adrs (pre ++ [a])) J J J J sAdrs (by simp [adrs]) J (by omega) (by omega) (by simp [adrs]) J ?_))); refine Qv J J J (Qj (hK _ _ (Qz ?_))); clear hK K; refine Qx (fun K hK => ?_); refine Qq J J J (Qk (iadd (by omega) (by omega)) J J J J ?_); refine Qv J J J (Qj (hK _ _ (Q4 ?_))); clear hK K; refine Q8 (pre ++ [a]) (by rw [List.length_append]; simp; omega) ⟨by rw [List.length_append]; simp; omega, ?_⟩ (by exact QX J ⟨rfl, rfl, rfl, by simp only [List.length_append, List.length_cons, List.length_nil, Nat.zero_add, Int.natCast_add]; rfl, trivial⟩); rw [hq, List.length_append, List.append_assoc]
      have : 256 - (pre.length + [a].length) = k := by simp; omega
      rw [this]; simp
  · have h1 : st = 2 := Decidable.byContradiction h1
    have hs' : hs = true := by rw [hh, decide_eq_true h1, Bool.true_or]
    have hl2 := hb1 hs'; rw [hs', if_pos J] at hq; refine Qy J J J (Qy J J J (QK J J J J (Qj (hK _ _ (Qz (Xv J (Q1 (Qz ?_)))))))); clear hK K; refine Qx (fun K hK => ?_); refine Qq J J J (Qq J J J (Zj J J sAdrs J J J (Qt pre.length (adrs (pre ++ [a])) J J J J sAdrs (by simp [adrs]) J (by omega) (by omega) (by simp [adrs]) J ?_))); refine Qv J J J (Qj (hK _ _ (Qz ?_))); clear hK K; refine Qx (fun K hK => ?_); refine Qq J J J (Qk (iadd (by omega) (by omega)) J J J J ?_); refine Qv J J J (Qj (hK _ _ (Q4 ?_))); clear hK K; refine Q8 (pre ++ [a]) (by rw [List.length_append]; simp; omega) ⟨by rw [List.length_append]; simp; omega, ?_⟩ (by exact QX J ⟨rfl, rfl, rfl, by simp only [List.length_append, List.length_cons, List.length_nil, Nat.zero_add, Int.natCast_add]; rfl, trivial⟩); rw [hq, List.length_append, List.append_assoc]
    have : 256 - (pre.length + [a].length) = k := by simp; omega
    rw [this]; simp
end Go.Proofs.YtlkdkbdgnjcopaaGreat
namespace Go.Proofs.YtlkdkbdgnjcopaaGreat
open Go.Own Go.Limbs
def chkF (l : List Rs) : Int := if (l.any fun r => !okR r) = true then 1 else if 512 < ((sd cmpR (l.filter okR)).length : Int) then 5 else if consB l = true then 0 else 30
def crsF (l : List Rs) (w : Wr) (b : Bool) : List Rs := (sd cmpR (l.filter okR)).filter fun r => decide (w ∈ wayF l r) && (r.an == b)
structure Cn where
  wr : Wr
  se : Int
  lo : Int
  hi : Int
deriving DecidableEq
def cn0 : Cn := ⟨(0, 0), 0, 0, 0⟩
def cntF (l : List Rs) (w : Wr) (b : Int) : Cn × Int :=
  if b < 0 ∨ 1048576 < b then (cn0, 1)
  else if chkF l ≠ 0 then (cn0, chkF l)
  else if (crsF l w true).length + (crsF l w false).length = 0 then (cn0, 8)
  else (⟨w, ((crsF l w true).length : Int) + (crsF l w false).length, max 0 ((crsF l w false).length - b), (crsF l w false).length⟩, 0)
def adN (t : Int) : Fin 4294967296 := ⟨t.toNat % 4294967296, Nat.mod_lt _ (by decide)⟩
theorem adN_val {t : Int} (h : 0 ≤ t) (h2 : t < 4294967296) : ((adN t).val : Int) = t := by unfold adN; simp only; omega
def chF : Nat → Int → List (Fin 4294967296)
  | 0, _ => []
  | c + 1, t => adN t :: chF c (t + 1)
structure Chain (n : Nat) (t0 : Tk) (l : List Rs) : Prop where
  up : Up cmpR l
  ok : ∀ r ∈ l, okR r = true ∧ r.db = false ∧ r.fl = 0 ∧ trOf r = t0 ∧ 1 ≤ r.tt ∧ r.tt ≤ n ∧ (r.an = true → r.ki = 1 ∧ r.fr = adN r.tt)
  all : ∀ t : Int, 1 ≤ t → t ≤ n → ∃ r ∈ l, r.an = true ∧ r.tt = t
variable {n : Nat} {t0 : Tk} {l : List Rs}
theorem endF_zero : ∀ (l : List Rs) (e : Int), (∀ r ∈ l, fiR r = false) → l.foldl endS e = e
  | [], _, _ => rfl
  | r :: l, e, h => by
    have h1 : endS e r = e := by unfold endS; rw [if_neg (by rw [h r (List.mem_cons_self ..)]; simp)]
    rw [List.foldl_cons, h1]
    exact endF_zero l e fun x hx => h x (List.mem_cons_of_mem _ hx)
abbrev stV (m : AdM × StM) (t : Int) : Int := (look1 m.2 (0, t)).getD 0
def invM (m : AdM × StM) : Prop := ∀ t : Int, stV m t ≤ 1 ∨ (stV m t = 2 ∧ look1 m.1 (0, t) = some (adN t))
theorem look_chain : ∀ (q : List Rs) (m : AdM × StM), (∀ r ∈ q, usR r = true ∧ r.fl = 0 ∧ (r.an = true → r.fr = adN r.tt)) → invM m →
    invM (q.foldl (lookS 0) m) ∧ ∀ t, (stV m t = 2 ∨ ∃ r ∈ q, r.an = true ∧ r.tt = t) → stV (q.foldl (lookS 0) m) t = 2
  | [], m, _, hm => ⟨hm, fun t h => h.elim id fun ⟨_, h, _⟩ => by cases h⟩
  | r :: q, m, hq, hm => by
    obtain ⟨h1, h2, h3⟩ := hq r (List.mem_cons_self ..)
    have key : invM (lookS 0 m r) ∧ ∀ t, (stV m t = 2 ∨ (r.an = true ∧ r.tt = t)) → stV (lookS 0 m r) t = 2 := by
      unfold lookS; rw [if_neg (by rw [h1]; simp), h2]
      cases ha : r.an with
      | false =>
        rw [if_pos J]; refine ⟨fun t => ?_, fun t h => ?_⟩
        · simp only [stV, look1_ins]; have := hm t; by_cases e : t = r.tt
          · subst e; rw [if_pos J]; simp only [Option.getD_some]; unfold stV at this; rcases this with h | ⟨h, h'⟩
            · left; omega
            · right; exact ⟨by omega, h'⟩
          · rw [if_neg (by intro h; injection h with _ h; exact e h)]; exact this
        · simp only [stV, look1_ins]; rcases h with h | ⟨h, _⟩
          · by_cases e : t = r.tt
            · subst e; rw [if_pos J]; simp only [Option.getD_some]; unfold stV at h; omega
            · rw [if_neg (by intro h; injection h with _ h; exact e h)]; exact h
          · cases h
      | true =>
        rw [if_neg (by decide)]; have h4 := h3 ha; have hr := hm r.tt; unfold stV at hr; by_cases hs : (look1 m.2 (0, r.tt)).getD 0 ≤ 1
        · rw [if_pos hs]; refine ⟨fun t => ?_, fun t h => ?_⟩
          · simp only [stV, look1_ins]; by_cases e : t = r.tt
            · subst e; rw [if_pos J, if_pos J, h4]; right; exact ⟨rfl, rfl⟩
            · rw [if_neg (by intro h; injection h with _ h; exact e h), if_neg (by intro h; injection h with _ h; exact e h)]; exact hm t
          · simp only [stV, look1_ins]; by_cases e : t = r.tt
            · subst e; rw [if_pos rfl]; rfl
            · rw [if_neg (by intro h; injection h with _ h; exact e h)]; rcases h with h | ⟨_, h⟩
              · exact h
              · exact absurd h.symm e
        · rw [if_neg hs]; rcases hr with hr | ⟨hr, hr'⟩
          · exact absurd hr hs
          · rw [if_neg (by rw [hr', h4]; simp)]; refine ⟨hm, fun t h => ?_⟩; rcases h with h | ⟨_, h⟩
            · exact h
            · subst h; exact hr
    obtain ⟨k1, k2⟩ := key; obtain ⟨i1, i2⟩ := look_chain q (lookS 0 m r) (fun x hx => hq x (List.mem_cons_of_mem _ hx)) k1; refine ⟨i1, fun t h => i2 t ?_⟩; rcases h with h | ⟨x, hx, h⟩
    · exact .inl (k2 t (.inl h))
    · rcases List.mem_cons.1 hx with rfl | hx
      · exact .inl (k2 t (.inr h))
      · exact .inr ⟨x, hx, h⟩
theorem Chain.us (h : Chain n t0 l) {r : Rs} (hr : r ∈ l) : usR r = true := by
  obtain ⟨h1, h2, _⟩ := h.ok r hr; unfold usR; rw [h1, h2]; rfl
theorem Chain.fi (h : Chain n t0 l) : ∀ r ∈ l, fiR r = false := fun r hr => by
  obtain ⟨_, _, _, _, _, _, h3⟩ := h.ok r hr
  unfold fiR
  cases ha : r.an with
  | false => rfl
  | true => rw [(h3 ha).1]; rfl
theorem Chain.look (h : Chain n t0 l) : lookG l = l.foldl (lookS 0) ([], []) := by
  have h1 : endF l = 0 := endF_zero l 0 h.fi; unfold lookG; rw [h1]
theorem pathG_chain {m : AdM × StM} (h1 : ∀ t : Int, 1 ≤ t → t ≤ n → stV m t = 2 ∧ look1 m.1 (0, t) = some (adN t)) (h2 : hasS m.2 0 (n + 1) = false) :
    ∀ (c k : Nat) (t : Int), 1 ≤ t → t + c = n + 1 → c < k → pathG m 0 k t = chF c t
  | 0, k + 1, t, _, he, _ => by
    unfold pathG
    have : t = (n : Int) + 1 := by omega
    rw [this, h2]; rfl
  | c + 1, k + 1, t, ht, he, hk => by
    obtain ⟨a1, a2⟩ := h1 t ht (by omega)
    have : hasS m.2 0 t = true := by unfold hasS; unfold stV at a1; rw [a1]; rfl
    unfold pathG chF
    rw [if_pos this, a2, pathG_chain h1 h2 c k (t + 1) (by omega) (by omega) (by omega)]
    rfl
  | _, 0, _, _, _, h => by omega
theorem Chain.path (h : Chain n t0 l) (hn : n < 256) : pathF l 0 = chF n 1 := by
  unfold pathF; obtain ⟨i1, i2⟩ := look_chain l ([], []) (fun r hr => ⟨h.us hr, (h.ok r hr).2.2.1, fun ha => ((h.ok r hr).2.2.2.2.2.2 ha).2⟩) (fun t => .inl (by show (0 : Int) ≤ 1; decide)); rw [← h.look] at i1 i2
  refine pathG_chain (n := n) (fun t h1 h2 => ?_) ?_ n 256 1 (by decide) (by omega) hn
  · have e := i2 t (.inr (h.all t h1 h2)); refine ⟨e, ?_⟩; rcases i1 t with h3 | h3
    · rw [e] at h3; exact absurd h3 (by decide)
    · exact h3.2
  · cases hb : hasS (lookG l).2 0 (n + 1) with
    | false => rfl
    | true =>
      unfold hasS at hb
      cases e : look1 (lookG l).2 (0, (n : Int) + 1) with
      | none => rw [e] at hb; simp at hb
      | some v =>
        obtain ⟨_, r, hr, _, hs⟩ := lookG_keys l _ _ e
        injection hs with _ hs
        have := (h.ok r hr).2.2.2.2.2.1; omega
theorem Chain.sd (h : Chain n t0 l) : sd cmpR (l.filter okR) = l := by
  have : l.filter okR = l := List.filter_eq_self.2 fun r hr => (h.ok r hr).1
  rw [this]; exact sd_eq ordR h.up
def wk (k : Int) : Wr := (adN (k - 1), adN k)
theorem Chain.way (h : Chain n t0 l) (hn : n ≤ 3) {r : Rs} (hr : r ∈ l) {k : Int} (h1 : 1 ≤ k) (h2 : k ≤ n) : decide (wk k ∈ wayF l r) = decide (k ≤ r.tt) := by
  obtain ⟨_, _, hf, ht, ha, hb, _⟩ := h.ok r hr
  have e : ((l.filter fun x => decide (trOf x = trOf r))) = l := List.filter_eq_self.2 fun x hx => by rw [(h.ok x hx).2.2.2.1, ht]; simp
  have hl : (chF n 1).length = n := by
    have : ∀ c t, (chF c t).length = c := fun c => by
      induction c with
      | zero => intro _; rfl
      | succ c ih => intro t; show (chF c (t + 1)).length + 1 = _; rw [ih]
    exact this n 1
  unfold wayF; rw [if_neg (by rw [h.us hr]; simp), h.sd, e, hf, h.path (by omega)]; simp only [hl]; rw [if_pos hb]; generalize r.tt = t at ha hb ⊢
  have hn' : n = 1 ∨ n = 2 ∨ n = 3 := by omega
  rcases hn' with rfl | rfl | rfl
  · have : t = 1 := by omega
    have : k = 1 := by omega
    subst_vars; decide
  · have ht : t = 1 ∨ t = 2 := by omega
    have hk : k = 1 ∨ k = 2 := by omega
    rcases ht with rfl | rfl <;> rcases hk with rfl | rfl <;> decide
  · have ht : t = 1 ∨ t = 2 ∨ t = 3 := by omega
    have hk : k = 1 ∨ k = 2 ∨ k = 3 := by omega
    rcases ht with rfl | rfl | rfl <;> rcases hk with rfl | rfl | rfl <;> decide
theorem clash_chain : ∀ (q : List Rs) (m : SeenM), (∀ r ∈ q, r.an = true → r.fr = adN r.tt) → (∀ s v, look1 m s = some v → v = adN s.2.2) → clashG m q = q.length
  | [], _, _, _ => rfl
  | r :: q, m, hq, hm => by
    have ih := fun m' => clash_chain q m' fun x hx => hq x (List.mem_cons_of_mem _ hx)
    unfold clashG
    rw [List.length_cons]
    by_cases hp : plB r = false
    · rw [if_pos hp, ih m hm]
    · rw [if_neg hp]
      have ha : r.an = true := by
        unfold plB at hp
        cases h : r.an with
        | true => rfl
        | false => rw [h] at hp; exact absurd J hp
      have hr := hq r (List.mem_cons_self ..) ha; rw [if_neg, ih]
      · intro s v hs; rw [look1_ins] at hs; split at hs
        · rename_i e; subst e; injection hs with hs; rw [← hs]; exact hr
        · exact hm s v hs
      · rintro ⟨h1, h2⟩
        obtain ⟨v, hv⟩ := Option.isSome_iff_exists.1 h1; rw [hv] at h2; exact h2 (by rw [hr]; exact hm _ v hv)
theorem Chain.cons (h : Chain n t0 l) : consB l = true := by
  unfold consB witG; rw [h.sd, clash_chain l [] (fun r hr ha => ((h.ok r hr).2.2.2.2.2.2 ha).2) (fun _ _ h => by cases h)]; simp
theorem Chain.chk (h : Chain n t0 l) (hl : l.length ≤ 512) : chkF l = 0 := by
  unfold chkF; rw [if_neg, h.sd, if_neg (by omega), if_pos h.cons]; intro h'; obtain ⟨r, hr, h1⟩ := List.any_eq_true.1 h'; rw [(h.ok r hr).1] at h1; cases h1
theorem Chain.crs (h : Chain n t0 l) (hn : n ≤ 3) {k : Int} (h1 : 1 ≤ k) (h2 : k ≤ n) (b : Bool) : (crsF l (wk k) b).length = l.countP fun r => decide (k ≤ r.tt) && (r.an == b) := by
  unfold crsF; rw [h.sd, ← List.countP_eq_length_filter]
  exact List.countP_congr fun r hr => by rw [h.way hn hr h1 h2]
theorem Chain.cnt (h : Chain n t0 l) (hn : n ≤ 3) (hl : l.length ≤ 512) {k b : Int} (h1 : 1 ≤ k) (h2 : k ≤ n) (hb : 0 ≤ b) (hb2 : b ≤ 1048576) :
    cntF l (wk k) b = (⟨wk k, ((l.countP fun r => decide (k ≤ r.tt) && (r.an == true) : Nat) : Int) + (l.countP fun r => decide (k ≤ r.tt) && (r.an == false) : Nat), max 0 ((l.countP fun r => decide (k ≤ r.tt) && (r.an == false) : Nat) - b), (l.countP fun r => decide (k ≤ r.tt) && (r.an == false) : Nat)⟩, 0) := by
  have hs := h.crs hn h1 h2 true; have hf := h.crs hn h1 h2 false
  have hp : 0 < l.countP fun r => decide (k ≤ r.tt) && (r.an == true) := by
    obtain ⟨r, hr, ha, ht⟩ := h.all k h1 h2; exact List.countP_pos_iff.2 ⟨r, hr, by rw [ha, ht]; simp⟩
  unfold cntF; rw [if_neg (by omega), if_neg (by rw [h.chk hl]; simp), if_neg (by omega), hs, hf]
def mkX (o k t w : Int) : Rs := ⟨0, 0, k, 10 * k, 9, 17, 0, t, decide (w = 0), false, 10 * k + o, if w = 0 then adN t else 0, if w = 0 then 1 else 0, 0, 0, 0, 0⟩
def xF (o : Int) : Int → List (Int × Int) → List Rs
  | _, [] => []
  | i, p :: d => mkX o i p.1 p.2 :: xF o (i + 1) d
theorem xF_len (o : Int) : ∀ (d : List (Int × Int)) (i : Int), (xF o i d).length = d.length
  | [], _ => rfl
  | _ :: d, i => by show (xF o (i + 1) d).length + 1 = _; rw [xF_len o d]; rfl
theorem xF_snoc (o : Int) (p : Int × Int) : ∀ (d : List (Int × Int)) (i : Int), xF o i (d ++ [p]) = xF o i d ++ [mkX o (i + d.length) p.1 p.2]
  | [], i => by show [mkX o i p.1 p.2] = [mkX o (i + ((0 : Nat) : Int)) p.1 p.2]; rw [Int.natCast_zero, Int.add_zero]
  | q :: d, i => by
    show mkX o i q.1 q.2 :: xF o (i + 1) (d ++ [p]) = mkX o i q.1 q.2 :: xF o (i + 1) d ++ [_]
    rw [xF_snoc o p d, List.length_cons, List.cons_append]
    have : i + 1 + (d.length : Int) = i + ((d.length + 1 : Nat) : Int) := by omega
    rw [this]
theorem xF_mem {o : Int} {r : Rs} : ∀ {d : List (Int × Int)} {i : Int}, r ∈ xF o i d → ∃ k p, p ∈ d ∧ i ≤ k ∧ k < i + d.length ∧ r = mkX o k p.1 p.2
  | [], _, h => by cases h
  | q :: d, i, h => by
    rcases List.mem_cons.1 h with rfl | h
    · exact ⟨i, q, List.mem_cons_self .., by omega, by rw [List.length_cons]; omega, rfl⟩
    · obtain ⟨k, p, h1, h2, h3, h4⟩ := xF_mem h
      exact ⟨k, p, List.mem_cons_of_mem _ h1, by omega, by rw [List.length_cons]; omega, h4⟩
theorem xF_has {o : Int} {p : Int × Int} : ∀ {d : List (Int × Int)} {i : Int}, p ∈ d → ∃ k, mkX o k p.1 p.2 ∈ xF o i d
  | q :: d, i, h => by
    rcases List.mem_cons.1 h with rfl | h
    · exact ⟨i, List.mem_cons_self ..⟩
    · obtain ⟨k, hk⟩ := xF_has (i := i + 1) h
      exact ⟨k, List.mem_cons_of_mem _ hk⟩
theorem cmpL_lt {x y : Int} {xs ys : List Int} (h : x < y) : cmpL (x :: xs) (y :: ys) < 0 := by
  have h1 : cmp3 x y = -1 := by unfold cmp3; rw [if_pos h]
  have h2 : cmpL (x :: xs) (y :: ys) = if cmp3 x y ≠ 0 then cmp3 x y else cmpL xs ys := rfl
  rw [h2, if_pos (by rw [h1]; decide), h1]; decide
theorem xF_up (o : Int) : ∀ (d : List (Int × Int)) (i : Int), Up cmpR (xF o i d)
  | [], _ => List.Pairwise.nil
  | p :: d, i => by
    refine List.pairwise_cons.2 ⟨fun r hr => ?_, xF_up o d (i + 1)⟩
    obtain ⟨k, q, _, h1, _, rfl⟩ := xF_mem hr
    exact cmpL_lt (show 10 * i < 10 * k by omega)
theorem xF_countP {o : Int} {f : Int → Bool → Bool} : ∀ (d : List (Int × Int)) (i : Int), (xF o i d).countP (fun r => f r.tt r.an) = d.countP fun p => f p.1 (decide (p.2 = 0))
  | [], _ => rfl
  | p :: d, i => by
    show (mkX o i p.1 p.2 :: xF o (i + 1) d).countP _ = _
    rw [List.countP_cons, List.countP_cons, xF_countP d]
    rfl
def x0T : Tk := ⟨0, 9, 17⟩
theorem xF_chain {o : Int} {n : Nat} {d : List (Int × Int)} (ho : 0 ≤ o ∧ o ≤ 9) (hn : n ≤ 255) (hd : d.length ≤ 900) (h1 : ∀ p ∈ d, 1 ≤ p.1 ∧ p.1 ≤ n) (h2 : ∀ t : Int, 1 ≤ t → t ≤ n → (t, 0) ∈ d) : Chain n x0T (xF o 0 d) where
  up := xF_up o d 0
  ok r hr := by
    obtain ⟨k, p, hp, hk1, hk2, rfl⟩ := xF_mem hr; obtain ⟨ht1, ht2⟩ := h1 p hp; have hv := adN_val (t := p.1) (by omega) (by omega); refine ⟨?_, rfl, rfl, rfl, ht1, ht2, fun ha => ?_⟩
    · have hP1 : ¬ P1 (mkX o k p.1 p.2) := by unfold P1 mkX; simp only; omega
      have hP2 : ¬ P2 (mkX o k p.1 p.2) := by unfold P2 mkX; simp only; omega
      by_cases hw : p.2 = 0
      · have hP3 : ¬ P3 (mkX o k p.1 p.2) := by unfold P3 mkX; simp [hw]
        have hP4 : ¬ P4 (mkX o k p.1 p.2) := by unfold P4 mkX; simp only [hw, if_true]; omega
        have hck : ckE (mkX o k p.1 p.2) = 0 := by unfold ckE; rw [if_neg hP1, if_neg hP2, if_neg hP3, if_neg hP4]
        have hf : (mkX o k p.1 p.2).fr.val ≠ 0 := by
          show (if p.2 = 0 then adN p.1 else 0).val ≠ 0; rw [if_pos hw]; omega
        unfold okR; rw [hck, decide_eq_true hf]; simp [mkX]
      · have e1 : (mkX o k p.1 p.2).an = false := decide_eq_false hw
        have hP3 : ¬ P3 (mkX o k p.1 p.2) := by unfold P3 mkX anI; simp [hw]
        have hP4 : ¬ P4 (mkX o k p.1 p.2) := by unfold P4; rw [e1]; simp
        have hck : ckE (mkX o k p.1 p.2) = 0 := by unfold ckE; rw [if_neg hP1, if_neg hP2, if_neg hP3, if_neg hP4]
        unfold okR; rw [hck, e1]; simp [mkX]
    · have hw : p.2 = 0 := of_decide_eq_true ha
      refine ⟨?_, ?_⟩ <;> show (if p.2 = 0 then _ else _) = _ <;> rw [if_pos hw]
      rfl
  all t ht1 ht2 := by
    obtain ⟨k, hk⟩ := xF_has (o := o) (i := 0) (h2 t ht1 ht2); exact ⟨_, hk, rfl, rfl⟩
theorem xF_cnt {o : Int} {n : Nat} {d : List (Int × Int)} (ho : 0 ≤ o ∧ o ≤ 9) (hn : n ≤ 3) (hd : d.length ≤ 500) (h1 : ∀ p ∈ d, 1 ≤ p.1 ∧ p.1 ≤ n) (h2 : ∀ t : Int, 1 ≤ t → t ≤ n → (t, 0) ∈ d) {k b : Int} (hk1 : 1 ≤ k) (hk2 : k ≤ n) (hb : 0 ≤ b) (hb2 : b ≤ 1048576) :
    cntF (xF o 0 d) (wk k) b = (⟨wk k, ((d.countP fun p => decide (k ≤ p.1) && (decide (p.2 = 0) == true) : Nat) : Int) + (d.countP fun p => decide (k ≤ p.1) && (decide (p.2 = 0) == false) : Nat), max 0 ((d.countP fun p => decide (k ≤ p.1) && (decide (p.2 = 0) == false) : Nat) - b), (d.countP fun p => decide (k ≤ p.1) && (decide (p.2 = 0) == false) : Nat)⟩, 0) := by
  rw [(xF_chain ho (by omega) (by omega) h1 h2).cnt hn (by rw [xF_len]; omega) hk1 hk2 hb hb2]; rw [xF_countP (f := fun t a => decide (k ≤ t) && (a == true)), xF_countP (f := fun t a => decide (k ≤ t) && (a == false))]
end Go.Proofs.YtlkdkbdgnjcopaaGreat
namespace Go.Proofs.YtlkdkbdgnjcopaaGreat
open Go.Own Go.Limbs
theorem clash_none : ∀ (l : List Rs) (m : SeenM), clashG m l = l.length → (∀ r ∈ l, plB r = true → ∀ a, look1 m (plS r) = some a → a = r.fr) ∧ l.Pairwise (fun a b => conB a b = false)
  | [], _, _ => ⟨fun r h => absurd h (by simp), List.Pairwise.nil⟩
  | x :: l, m, h => by
    simp only [clashG, List.length_cons] at h
    by_cases h1 : plB x = false
    · rw [if_pos h1] at h
      obtain ⟨i1, i2⟩ := clash_none l m (by omega)
      refine ⟨fun r hr hb a ha => ?_, List.pairwise_cons.2 ⟨fun b _ => by unfold conB; rw [h1]; rfl, i2⟩⟩
      rcases List.mem_cons.1 hr with hr | hr
      · subst hr; rw [h1] at hb; cases hb
      · exact i1 r hr hb a ha
    · rw [if_neg h1] at h
      have h1 : plB x = true := by simpa using h1
      by_cases h2 : (look1 m (plS x)).isSome = true ∧ (look1 m (plS x)).getD 0 ≠ x.fr
      · rw [if_pos h2] at h; omega
      · rw [if_neg h2] at h
        obtain ⟨i1, i2⟩ := clash_none l _ (show clashG (ins m (plS x) x.fr) l = l.length by omega)
        have hx : ∀ a, look1 m (plS x) = some a → a = x.fr := fun a ha => Decidable.byContradiction fun hn => h2 ⟨by rw [ha]; rfl, by rw [ha]; exact hn⟩
        refine ⟨fun r hr hb a ha => ?_, List.pairwise_cons.2 ⟨fun b hb => ?_, i2⟩⟩
        · rcases List.mem_cons.1 hr with hr | hr
          · subst hr; exact hx a ha
          · by_cases e : plS r = plS x
            · have := i1 r hr hb x.fr (by rw [look1_ins, if_pos e])
              rw [e] at ha
              rw [hx a ha]; exact this
            · exact i1 r hr hb a (by rw [look1_ins, if_neg e]; exact ha)
        · unfold conB
          by_cases hb2 : plB b = true
          · by_cases e : plS x = plS b
            · have := i1 b hb hb2 x.fr (by rw [look1_ins, if_pos e.symm])
              rw [decide_eq_false (show ¬ (x.fr ≠ b.fr) from fun h => h this)]; simp
            · rw [decide_eq_false e]; simp
          · rw [show plB b = false by simpa using hb2]; simp
theorem clash_ok : ∀ (l : List Rs) (m : SeenM), (∀ r ∈ l, plB r = true → ∀ a, look1 m (plS r) = some a → a = r.fr) → l.Pairwise (fun a b => conB a b = false) → clashG m l = l.length
  | [], _, _, _ => rfl
  | x :: l, m, h1, h2 => by
    obtain ⟨p1, p2⟩ := List.pairwise_cons.1 h2
    simp only [clashG, List.length_cons]
    by_cases hb : plB x = false
    · rw [if_pos hb, clash_ok l m (fun r hr => h1 r (List.mem_cons_of_mem _ hr)) p2]
    · rw [if_neg hb]
      have hb : plB x = true := by simpa using hb
      rw [if_neg (fun h => ?_), clash_ok l _ (fun r hr hbr a ha => ?_) p2]
      · rw [look1_ins] at ha
        split at ha
        · rename_i e
          injection ha with ha
          have hc := p1 r hr
          unfold conB at hc
          rw [hb, hbr, decide_eq_true e.symm] at hc
          rw [← ha]
          exact Decidable.byContradiction fun hn => by rw [decide_eq_true hn] at hc; cases hc
        · exact h1 r (List.mem_cons_of_mem _ hr) hbr a ha
      · obtain ⟨q1, q2⟩ := h
        cases e : look1 m (plS x) with
        | none => rw [e] at q1; cases q1
        | some a => rw [e] at q2; exact q2 (h1 x (List.mem_cons_self ..) hb a e)
theorem clash_take : ∀ (l : List Rs) (m : SeenM) (j : Nat), clashG m (l.take j) = min (clashG m l) j
  | [], m, j => by simp [clashG]
  | x :: l, m, 0 => by simp [clashG]
  | x :: l, m, j + 1 => by
    rw [List.take_succ_cons]
    simp only [clashG]
    split
    · rw [clash_take l m j]; omega
    · split
      · omega
      · rw [clash_take l _ j]; omega
theorem consB_iff (l : List Rs) : consB l = true ↔ (sd cmpR (l.filter okR)).Pairwise (fun a b => conB a b = false) := by
  unfold consB; generalize sd cmpR (l.filter okR) = o; constructor
  · intro h; by_cases hk : clashG [] o < o.length
    · exfalso
      have hk2 : clashG [] (o.take (clashG [] o)) = (o.take (clashG [] o)).length := by rw [clash_take, List.length_take]; omega
      have hf : (o.take (clashG [] o)).findIdx? (fun a => conB a (o.getD (clashG [] o) rs0)) = none := by
        have : witG o = (o.take (clashG [] o)).findIdx? (fun a => conB a (o.getD (clashG [] o) rs0)) := if_pos hk; rw [this] at h
        cases e : (o.take (clashG [] o)).findIdx? (fun a => conB a (o.getD (clashG [] o) rs0)) with
        | none => rfl
        | some v => rw [e] at h; cases h
      generalize hkk : clashG [] o = k at hk hk2 hf
      have hp : (o.take (k + 1)).Pairwise (fun a b => conB a b = false) := by
        rw [List.take_add_one, List.getElem?_eq_getElem hk]; refine List.pairwise_append.2 ⟨(clash_none _ _ hk2).2, List.pairwise_singleton _ _, fun a ha b hb => ?_⟩
        have hb : b = o[k] := by simpa using hb
        rw [List.findIdx?_eq_none_iff] at hf; have := hf a ha; rw [List.getD_eq_getElem?_getD, List.getElem?_eq_getElem hk] at this; rw [hb]; exact this
      have h5 := clash_ok (o.take (k + 1)) [] (fun r _ _ a ha => by cases ha) hp; rw [clash_take, hkk, List.length_take] at h5; omega
    · exact (clash_none o [] (by have := clashG_le o []; omega)).2
  · intro h; have h5 := clash_ok o [] (fun r _ _ a ha => by cases ha) h; have : witG o = none := if_neg (by omega); rw [this]; rfl
attribute [local irreducible] Go.Own.Fin Ok OkB OkF OkL OkM OkN OkT Ops St
theorem gorTraceOf : InGo Tryz.prog 80 := InGo.of Tryz.func80 rfl (by decide)
theorem rTraceOf_ok (r : Rs) : Ok Tryz.prog 80 [rsC r] (tkC (trOf r)) := by
  refine Ok.enter Tryz.func80 J _ Tryz.ntmps80 J ?_
  intro S w; refine Qw (Qx fun K hK => ?_); refine Xz 0 J J J J J J J (Qg 1 J J zvTrace J J J (Qj (hK _ _ (Qz (Qw ?_))))); clear hK K; refine Qx (fun K hK => ?_); refine QV J J J fS0 J (QY J J J J J lInt J (QV J J J fS4 J (QY J J J J J lAddr J (QV J J J fS5 J (QY J J J J J lInt J (Qi J bTrace J (.one J J J J (.one J J J J (.one J J J J .nil))) J (Qa 3 J J J J J szTrace J J (Qj (hK _ _ (Qz (Q0 ?_))))))))))); clear hK K; refine Fin.end [_] rfl (Qc (n := 3) J J Y5 J QQ) J J
theorem goContradictR : InGo Tryz.prog 82 := InGo.of Tryz.func82 rfl (by decide)
set_option maxHeartbeats 8000000 in
theorem rContradict_ok (a b : Rs) : Ok Tryz.prog 82 [rsC a, rsC b] (boolC (conB a b)) := by
  have hA := rUsable_ok a; have hB := rUsable_ok b; have hTa := rTraceOf_ok a; have hTb := rTraceOf_ok b; have e : conB a b = ((a.an && usR a && (b.an && usR b)) && (decide ((trOf a, a.fl, a.tt) = (trOf b, b.fl, b.tt)) && decide (a.fr ≠ b.fr))) := rfl; generalize usR a = ua at hA e; generalize usR b = ub at hB e; generalize trOf a = ta at hTa e; generalize trOf b = tb at hTb e
  have no : (ua = false ∨ ub = false ∨ a.an = false ∨ b.an = false ∨ ¬ ta = tb ∨ ¬ a.fl = b.fl ∨ ¬ a.tt = b.tt ∨ a.fr = b.fr) → conB a b = false := fun h => by
    rw [e]; rcases h with h | h | h | h | h | h | h | h <;> simp [h]
  have yes : ua = true → ub = true → a.an = true → b.an = true → ta = tb → a.fl = b.fl → a.tt = b.tt → ¬ a.fr = b.fr → conB a b = true := fun h1 h2 h3 h4 h5 h6 h7 h8 => by
    rw [e]; simp [h1, h2, h3, h4, h5, h6, h7, h8]
  generalize conB a b = c at no yes ⊢; clear e
  refine Ok.enter Tryz.func82 J _ Tryz.ntmps82 J ?_
  intro S w; refine Qw (Qx fun K hK => ?_); refine Xz 0 J J J J J J J (Xz 1 J J J J J J J (Qv J J J (Qj (hK _ _ (Qz (Qw ?_)))))); clear hK K; refine Xw mixed 45 (.f 0 (.m 1 (.p 2 (.f 3 (.m 4 (.p 5 (.p 6 (.p 7 (.f 8 (.p 9 (.p 10 (.p 11 (.f 12 (.p 13 (.p 14 (.f 15 (.f 17 (.m 16 (.m 18 (.p 19 (.p 20 (.p 21 (.p 22 (.p 24 (.f 23 (.f 25 (.p 26 (.p 27 (.p 28 (.p 29 (.p 31 (.f 30 (.f 32 (.p 33 (.p 34 (.p 35 (.p 36 (.p 37 (.p 39 (.p 40 (.f 38 (.f 41 (.p 42 (.p 43 (.p 44 .done))))))))))))))))))))))))))))))))))))))))))))) (by kernel_rfl) (fun K hK => ?_); refine Q6 (n := 17) J J J J J lRes J (QW gorUsable hA J J J J (Qq J J J (X3 7 (b := ua) J (fun h1 => ?_) (fun h1 => ?_)))); rotate_left
  · refine Qy J J J (Qy J J J (QK J J J J (Qq J J J (Qy J J J (Qy J J J (QK J J J J (Qq J J J (Qy J J J (Qy J J J (QK J J J J (Qq J J J (Qy J J J (Qy J J J (Qy J J J (Qy J J J (Qy J J J (QK J J J J (Qq J J J (Qy J J J (Qy J J J (Qy J J J (Qy J J J (Qy J J J (QK J J J J (Qq J J J (Qy J J J (Qy J J J (Qy J J J (Qy J J J (Qy J J J (QK J J J J (Qq J J J (Qy J J J (Qy J J J (Qy J J J (Qy J J J (Qy J J J (Qy J J J (Qy J J J (QK J J J J (Qv J J J (Qj (hK _ _ (Qz (Q0 ?_))))))))))))))))))))))))))))))))))))))))))))); clear hK K; refine QU [_] rfl (Qu J QQ) (by rw [no (.inl h1)]; rfl) J
  refine Q6 (n := 17) J J J J J lRes J (QW gorUsable hB J J J J (QJ J J J J (Qq J J J (X3 11 (b := ub) J (fun h2 => ?_) (fun h2 => ?_))))); rotate_left
  · refine Qy J J J (Qy J J J (QK J J J J (Qq J J J (Qy J J J (Qy J J J (QK J J J J (Qq J J J (Qy J J J (Qy J J J (Qy J J J (Qy J J J (Qy J J J (QK J J J J (Qq J J J (Qy J J J (Qy J J J (Qy J J J (Qy J J J (Qy J J J (QK J J J J (Qq J J J (Qy J J J (Qy J J J (Qy J J J (Qy J J J (Qy J J J (QK J J J J (Qq J J J (Qy J J J (Qy J J J (Qy J J J (Qy J J J (Qy J J J (Qy J J J (Qy J J J (QK J J J J (Qv J J J (Qj (hK _ _ (Qz (Q0 ?_))))))))))))))))))))))))))))))))))))))))); clear hK K; refine QU [_] rfl (Qu J QQ) (by rw [no (.inr (.inl h2))]; rfl) J
  refine QV J J J fS8 J (QY J J J J J lBool1 J (QJ J J J J (Qq J J J (X3 15 (b := a.an) J (fun h3 => ?_) (fun h3 => ?_))))); rotate_left
  · refine Qy J J J (Qy J J J (QK J J J J (Qq J J J (Qy J J J (Qy J J J (Qy J J J (Qy J J J (Qy J J J (QK J J J J (Qq J J J (Qy J J J (Qy J J J (Qy J J J (Qy J J J (Qy J J J (QK J J J J (Qq J J J (Qy J J J (Qy J J J (Qy J J J (Qy J J J (Qy J J J (QK J J J J (Qq J J J (Qy J J J (Qy J J J (Qy J J J (Qy J J J (Qy J J J (Qy J J J (Qy J J J (QK J J J J (Qv J J J (Qj (hK _ _ (Qz (Q0 ?_))))))))))))))))))))))))))))))))))))); clear hK K; refine QU [_] rfl (Qu J QQ) (by rw [no (.inr (.inr (.inl h3)))]; rfl) J
  refine QV J J J fS8 J (QY J J J J J lBool1 J (QJ J J J J (Qq J J J (X3 19 (b := b.an) J (fun h4 => ?_) (fun h4 => ?_))))); rotate_left
  · refine Qy J J J (Qy J J J (Qy J J J (Qy J J J (Qy J J J (QK J J J J (Qq J J J (Qy J J J (Qy J J J (Qy J J J (Qy J J J (Qy J J J (QK J J J J (Qq J J J (Qy J J J (Qy J J J (Qy J J J (Qy J J J (Qy J J J (QK J J J J (Qq J J J (Qy J J J (Qy J J J (Qy J J J (Qy J J J (Qy J J J (Qy J J J (Qy J J J (QK J J J J (Qv J J J (Qj (hK _ _ (Qz (Q0 ?_))))))))))))))))))))))))))))))))); clear hK K; refine QU [_] rfl (Qu J QQ) (by rw [no (.inr (.inr (.inr (.inl h4))))]; rfl) J
  refine Q6 (n := 17) J J J J J lRes J (Q6 (n := 17) J J J J J lRes J (QW gorTraceOf hTa J J J J ?_)); skip; refine QW gorTraceOf hTb J J J J (eqTk ta tb J J J J J (QJ J J J J (Qq J J J (Q7 26 J (fun h5 => ?_) (fun h5 => ?_))))); rotate_left
  · refine Qy J J J (Qy J J J (Qy J J J (Qy J J J (Qy J J J (QK J J J J (Qq J J J (Qy J J J (Qy J J J (Qy J J J (Qy J J J (Qy J J J (QK J J J J (Qq J J J (Qy J J J (Qy J J J (Qy J J J (Qy J J J (Qy J J J (Qy J J J (Qy J J J (QK J J J J (Qv J J J (Qj (hK _ _ (Qz (Q0 ?_)))))))))))))))))))))))))); clear hK K; refine QU [_] rfl (Qu J QQ) (by rw [no (.inr (.inr (.inr (.inr (.inl h5)))))]; rfl) J
  refine QV J J J fS6 J (QV J J J fS6 J (QY J J J J J lInt J (QY J J J J J lInt J (Qk ieql J J J J (QJ J J J J (Qq J J J (Q7 33 J (fun h6 => ?_) (fun h6 => ?_)))))))); rotate_left
  · refine Qy J J J (Qy J J J (Qy J J J (Qy J J J (Qy J J J (QK J J J J (Qq J J J (Qy J J J (Qy J J J (Qy J J J (Qy J J J (Qy J J J (Qy J J J (Qy J J J (QK J J J J (Qv J J J (Qj (hK _ _ (Qz (Q0 ?_))))))))))))))))))); clear hK K; refine QU [_] rfl (Qu J QQ) (by rw [no (.inr (.inr (.inr (.inr (.inr (.inl h6))))))]; rfl) J
  refine QV J J J fS7 J (QV J J J fS7 J (QY J J J J J lInt J (QY J J J J J lInt J (Qk ieql J J J J (QJ J J J J (Qq J J J (Q7 40 J (fun h7 => ?_) (fun h7 => ?_)))))))); rotate_left
  · refine Qy J J J (Qy J J J (Qy J J J (Qy J J J (Qy J J J (Qy J J J (Qy J J J (QK J J J J (Qv J J J (Qj (hK _ _ (Qz (Q0 ?_)))))))))))); clear hK K; refine QU [_] rfl (Qu J QQ) (by rw [no (.inr (.inr (.inr (.inr (.inr (.inr (.inl h7)))))))]; rfl) J
  refine QV J J J fS11 J (XK J J fN0 J (QV J J J fS11 J (XK J J fN0 J (QY J J J J J lAddr J (QY J J J J J lAddr J (Qk ineq J J J J (QJ J J J J (Qv J J J (Qj (hK _ _ (Qz (Q0 ?_)))))))))))); clear hK K; by_cases h8 : a.fr = b.fr
  · refine QU [_] rfl (Qu J QQ) (by rw [no (.inr (.inr (.inr (.inr (.inr (.inr (.inr (h8)))))))), h8]; simp; rfl) J
  · refine QU [_] rfl (Qu J QQ) (by rw [yes h1 h2 h3 h4 h5 h6 h7 h8, decide_eq_true (show ((a.fr.val : Int) ≠ (b.fr.val : Int)) from fun h => h8 (_root_.Fin.ext (by omega)))]; rfl) J
def pwB (l : List Rs) : Bool := decide (∀ k, k < l.length → ∀ j, j < k → conB (l.getD j rs0) (l.getD k rs0) = false)
theorem conB_symm (a b : Rs) : conB a b = conB b a := by
  unfold conB; rw [Bool.and_comm (plB a), decide_eq_decide.2 (show plS a = plS b ↔ plS b = plS a from eq_comm), decide_eq_decide.2 (show a.fr ≠ b.fr ↔ b.fr ≠ a.fr from ne_comm)]
theorem conB_self (a : Rs) : conB a a = false := by
  unfold conB; rw [decide_eq_false (show ¬ (a.fr ≠ a.fr) from fun h => h J)]; simp
theorem pw_all {l : List Rs} (h : pwB l = true) : ∀ a ∈ l, ∀ b ∈ l, conB a b = false := by
  have h := of_decide_eq_true h; intro a ha b hb; obtain ⟨j, hj, rfl⟩ := List.getElem_of_mem ha; obtain ⟨k, hk, rfl⟩ := List.getElem_of_mem hb
  have ej : l.getD j rs0 = l[j] := by simp [List.getD_eq_getElem?_getD, List.getElem?_eq_getElem hj]
  have ek : l.getD k rs0 = l[k] := by simp [List.getD_eq_getElem?_getD, List.getElem?_eq_getElem hk]
  rw [← ej, ← ek]; rcases Nat.lt_trichotomy j k with q | q | q
  · exact h k hk j q
  · rw [q]; exact conB_self _
  · rw [conB_symm]; exact h j hj k q
theorem cons_all {l : List Rs} (h : ∀ a ∈ l, ∀ b ∈ l, conB a b = false) : consB l = true := by
  rw [consB_iff]; refine List.Pairwise.imp_of_mem (R := fun _ _ => True) (fun {a b} ha hb _ => h a ?_ b ?_) (List.pairwise_of_forall (fun _ _ => trivial))
  · exact (List.mem_filter.1 (((Zt ordR (l.filter okR)).2 a).1 ha)).1
  · exact (List.mem_filter.1 (((Zt ordR (l.filter okR)).2 b).1 hb)).1
theorem goConsistentR : InGo Tryz.prog 41 := InGo.of Tryz.func41 rfl (by decide)
set_option maxHeartbeats 8000000 in
theorem Y6 (l : List Rs) (hl : l.length ≤ 100000) : Ok Tryz.prog 41 [rssC l] (boolC (pwB l)) := by
  have yes : (∀ k, k < l.length → ∀ j, j < k → conB (l.getD j rs0) (l.getD k rs0) = false) → pwB l = true := fun h => decide_eq_true h
  have no : ∀ k j, k < l.length → j < k → conB (l.getD j rs0) (l.getD k rs0) = true → pwB l = false := fun k j h1 h2 h3 => decide_eq_false fun h => by rw [h k h1 j h2] at h3; cases h3
  generalize pwB l = c at yes no ⊢
  refine Ok.enter Tryz.func41 J _ Tryz.ntmps41 J ?_
  intro S w; refine Qw (Qx fun K hK => ?_); refine Qv J J J (Qj (hK _ _ (Qz (Qw (Qw ?_))))); clear hK K; refine Qx (fun K hK => ?_); refine Qv J J J (Qj (hK _ _ (Qz (Q5 ?_)))); clear hK K
  refine Xx (α := Nat) (fun i => i ≤ l.length ∧ ∀ k, k < i → ∀ j, j < k → conB (l.getD j rs0) (l.getD k rs0) = false)
    (fun i => [(0, .ct (rssC l)), (3, .ct (intC i))]) (fun _ => []) (fun i => l.length - i) 0 ⟨Nat.zero_le _, fun k h => absurd h (Nat.not_lt_zero _)⟩ (by exact QX J ⟨rfl, rfl, trivial⟩) ?_
  intro i ⟨hi, hp⟩
  try dsimp only at hi hp ⊢
  refine Qw (Qw (Qx fun K hK => ?_)); refine Qq J J J (Qq J J J (Qb J J sRes.und (List.length_map ..) J (Qk ilss J J J J (Qj (hK _ _ (Qz ?_)))))); clear hK K; refine Q2 J (fun h => ?_) (fun h => ?_)
  · refine Q1 (Qz (Qw (Q5 (Qw (Qx fun K hK => ?_))))); refine Qv J J J (Qj (hK _ _ (Qz (Q5 ?_)))); clear hK K
    refine Xx (α := Nat) (fun k => k ≤ i ∧ ∀ j, j < k → conB (l.getD j rs0) (l.getD i rs0) = false)
      (fun k => [(0, .ct (rssC l)), (3, .ct (intC i)), (4, .ct (intC k))]) (fun _ => []) (fun k => i - k) 0 ⟨Nat.zero_le _, fun k h => absurd h (Nat.not_lt_zero _)⟩ (by exact QX J ⟨rfl, rfl, rfl, trivial⟩) ?_
    intro k ⟨hk, hp2⟩
    try dsimp only at hk hp2 ⊢
    refine Qw (Qw (Qx fun K hK => ?_)); refine Qq J J J (Qq J J J (Qk ilss J J J J (Qj (hK _ _ (Qz ?_))))); clear hK K; refine Q2 J (fun h2 => ?_) (fun h2 => ?_)
    · have e2 : (i : Int).toNat = i := Int.toNat_natCast i; have e3 : (k : Int).toNat = k := Int.toNat_natCast k; have hN := no i k (by omega) (by omega); have hC := rContradict_ok (l.getD k rs0) (l.getD i rs0); generalize hcc : conB (l.getD k rs0) (l.getD i rs0) = cc at hN hC; refine Q1 (Qz (Qw (Q5 (Qw ?_)))); refine Xw mixed 9 (.p 0 (.p 1 (.p 2 (.p 4 (.p 5 (.p 6 (.f 3 (.f 7 (.m 8 .done))))))))) (by kernel_rfl) (fun K hK => ?_); refine Qq J J J (Qq J J J (Qh J J J sRes (by omega) (Xd (by omega) (by omega)) J ?_)); refine Qq J J J (Qq J J J (Qh J J J sRes (by omega) (Xd (by omega) (by omega)) J ?_)); refine XX (n := 17) J J J lRes J J (XX (n := 17) J J J lRes J J ?_); rw [e2, e3]; refine QW goContradictR hC J J J J (Qj (hK _ _ (Qz ?_))); clear hK K; refine XZ J (fun h3 => ?_) (fun h3 => ?_)
      · refine Qw (Qx fun K hK => ?_); refine Qv J J J (Qj (hK _ _ (Qz (Q0 (Q3 (QZ (QZ (Q3 (Q3 (QZ (QZ (Q3 (QZ ?_))))))))))))); clear hK K; refine QU [_] rfl (Qu J QQ) (by rw [hN h3]; rfl) J
      · refine Q1 (Qz (Qx fun K hK => ?_)); refine Qq J J J (Qk (iadd (by omega) (by omega)) J J J J ?_); refine Qv J J J (Qj (hK _ _ (Q4 ?_))); clear hK K; refine Q8 (k + 1) (by omega) ⟨by omega, fun j hj => ?_⟩ (by exact QX J ⟨rfl, rfl, by simp only [Int.natCast_add]; rfl, trivial⟩); by_cases hjk : j = k
        · rw [hjk, hcc]; exact h3
        · exact hp2 j (by omega)
    · refine Qs (Qz (Qx fun K hK => ?_)); refine Qq J J J (Qk (iadd (by omega) (by omega)) J J J J ?_); refine Qv J J J (Qj (hK _ _ (Q4 ?_))); clear hK K; refine Q8 (i + 1) (by omega) ⟨by omega, fun q hq j hj => ?_⟩ (by exact QX J ⟨rfl, by simp only [Int.natCast_add]; rfl, trivial⟩); by_cases hqi : q = i
      · rw [hqi] at hj ⊢; exact hp2 j (by omega)
      · exact hp q (by omega) j hj
  · refine Qs (Qz (Qw (Qx fun K hK => ?_))); refine Qv J J J (Qj (hK _ _ (Qz (Q0 ?_)))); clear hK K; refine QU [_] rfl (Qu J QQ) (by rw [yes (fun k h1 j h2 => hp k (by omega) j h2)]; rfl) J
end Go.Proofs.YtlkdkbdgnjcopaaGreat
namespace Go.Own
open Go.RowKit
variable {X : Ctx} {L : AL} {B : BL} {ops : Array Oper} {K : Act → World → Prop} {r : Pl} {k : Kd}
  {x y z : Operand} {d : Nat} {t t2 t' : TypeId} {pos : String} {af : Array Edge} {g : Option (Nat × Bool)}
abbrev SofB (X : Ctx) (B : BL) (ρ : Nat → Value) (i : Nat) : BSet := fun k => Sof X B ρ k ∨ blk (ρ i) = some k
end Go.Own
namespace Go.Proofs.YtlkdkbdgnjcopaaGreat
open Go.Own Go.Limbs
attribute [local irreducible] St Ops Go.Own.Fin Ok OkB OkN OkT OkL OkF
def idxQ {α : Type} (p : α → Bool) (xs : List α) : Int := if xs.any p then (xs.findIdx p : Nat) else -1
end Go.Proofs.YtlkdkbdgnjcopaaGreat
namespace Go.Proofs.YtlkdkbdgnjcopaaGreat
open Go.Own Go.Limbs
theorem same_list {α : Type} {a b : List α} {z : α} (hl : a.length = b.length) (h : ∀ j, j < a.length → a.getD j z = b.getD j z) : a = b := by
  apply List.ext_getElem hl
  intro j h1 h2; have := h j h1; rw [List.getD_eq_getElem?_getD, List.getElem?_eq_getElem h1, List.getD_eq_getElem?_getD, List.getElem?_eq_getElem h2] at this; exact this
theorem rss_drop (l : List Rs) (i : Nat) : (rss l).drop (i * 17) = rss (l.drop i) := el_drop Z7 l i
theorem rss_ones (l : List Rs) : ones (rss l) = true := el_ones (fun _ => rfl) l
theorem rss_spl (l m : List Rs) (i : Nat) : spl (rss l) (i * 17) (rss m) = rss (l.take i ++ m ++ l.drop (i + m.length)) := by
  unfold spl; rw [rss_take, rss_len, ← Nat.add_mul, rss_drop, rss_app, rss_app]
theorem shift_eqA {α : Type} (l : List α) (c : α) {k : Nat} (hk : k ≤ l.length) : (((l ++ [c]).take (k + 1) ++ ((l ++ [c]).drop k).take (l.length + 1 - (k + 1)) ++ (l ++ [c]).drop (k + 1 + (((l ++ [c]).drop k).take (l.length + 1 - (k + 1))).length)).set k c) = l.take k ++ c :: l.drop k := by
  obtain ⟨a, b, rfl, rfl⟩ : ∃ a b, l = a ++ b ∧ a.length = k := ⟨l.take k, l.drop k, (List.take_append_drop k l).symm, by simp; omega⟩
  have h1 : (a ++ b ++ [c]).drop a.length = b ++ [c] := by rw [List.append_assoc, List.drop_left]
  have h2 : (a ++ b).length + 1 - (a.length + 1) = b.length := by simp
  have h3 : (b ++ [c]).take b.length = b := by rw [List.take_left]
  rw [h1, h2, h3, List.take_left, List.drop_left]
  obtain ⟨e, r, he⟩ : ∃ e r, b ++ [c] = e :: r := by cases b with
    | nil => exact ⟨c, [], rfl⟩
    | cons e r => exact ⟨e, r ++ [c], rfl⟩
  have h4 : (a ++ b ++ [c]).take (a.length + 1) = a ++ [e] := by rw [List.append_assoc, he, List.take_append]; simp [List.take_of_length_le]
  have h5 : (a ++ b ++ [c]).drop (a.length + 1 + b.length) = [] := by rw [List.drop_of_length_le]; simp; omega
  rw [h4, h5, List.append_nil, List.append_assoc, List.set_append_right _ _ (Nat.le_refl _)]; simp
theorem dropA {α : Type} {l : List α} {i : Nat} {z : α} (h : i < l.length) : l.drop i = l.getD i z :: l.drop (i + 1) := by
  rw [List.drop_eq_getElem_cons h, List.getD_eq_getElem?_getD, List.getElem?_eq_getElem h]; rfl
attribute [local irreducible] Go.Own.Fin Ok OkB OkF OkL OkN OkT Ops St
theorem gorOrd24 : InGo Tryz.prog 65 := InGo.of Tryz.func65 rfl (by decide)
set_option maxHeartbeats 8000000 in
theorem rOrd24_ok (l : List Rs) (hl : l.length ≤ 10000) : Ok Tryz.prog 65 [rssC l] (rssC (ordF cmpR rs0 okR l [])) := by
  refine Ok.enter Tryz.func65 J _ Tryz.ntmps65 J ?_
  intro S w; refine Qw (Qx fun K hK => ?_); refine Qv J J J (Qj (hK _ _ (Qz (Qw ?_)))); clear hK K; refine Qx (fun K hK => ?_); refine Qv J J J (Qj (hK _ _ (Qz (Qw (Qw ?_))))); clear hK K; refine Qx (fun K hK => ?_); refine Qv J J J (Qj (hK _ _ (Qz (Q5 ?_)))); clear hK K
  refine Xg 3 0 35 17 J J J ?_
  skip
  refine Xx (α := Nat × List Rs) (fun x => x.1 ≤ l.length ∧ ordF cmpR rs0 okR (l.drop x.1) x.2 = ordF cmpR rs0 okR l [] ∧ x.2.length ≤ x.1)
    (fun x => [(0, .ct (rssC l)), (3, .own 0), (4, .ct (intC x.1))]) (fun x => [(0, .row 35 17 (rss x.2))]) (fun x => l.length - x.1) (0, []) ⟨Nat.zero_le _, rfl, Nat.le_refl _⟩ (by exact QX J ⟨rfl, rfl, rfl, trivial⟩) ?_
  rintro ⟨i, out⟩ ⟨hi, hs, hol⟩
  dsimp only at hi hs hol ⊢; refine Qw (Qw (Qx fun K hK => ?_)); refine Qq J J J (Qq J J J (Qb J J sRes.und (List.length_map ..) J (Qk ilss J J J J (Qj (hK _ _ (Qz ?_)))))); clear hK K; refine Q2 J (fun h => ?_) (fun h => ?_); rotate_left
  · have hi' : i = l.length := by omega
    rw [hi', List.drop_length] at hs; refine Zi 0 _ J (rss_frozen _ _) noBor_sub (Qs (Qz (Qw (Qx fun K hK => ?_)))); refine Qq J J J (Qv J J J (Qj (hK _ _ (Qz (Q0 ?_))))); clear hK K; refine QU [_] rfl (Qu J QQ) (by rw [← hs]; rfl) J
  have e2 : (i : Int).toNat = i := Int.toNat_natCast i; rw [dropA (z := rs0) (l := l) (i := i) (by omega)] at hs; simp only [ordF] at hs; refine Q1 (Qz (Qw (Q5 (Qw (Qw (Qx fun K hK => ?_)))))); refine Qq J J J (Qq J J J (Qh J J J sRes (by omega) (Xd (by omega) (by omega)) J ?_))
  refine XX (n := 17) J J J lRes J J ?_
  rw [e2]; generalize hc : l.getD i rs0 = c at hs; skip; refine Ops.callF gorValidR J (rValidR_ok c) J J J J (Qm J J J (Qj (hK _ _ (Qz ?_)))); clear hK K; refine XZ J (fun h2 => ?_) (fun h2 => ?_)
  · rw [if_neg (by intro h3; rw [h3] at h2; cases h2)] at hs; refine Qs (Qz (Qx fun K hK => ?_)); refine Qq J J J (Qk (iadd (by omega) (by omega)) J J J J ?_); refine Qv J J J (Qj (hK _ _ (Q4 ?_))); clear hK K; refine Q8 (i + 1, out) (by dsimp only; omega) ⟨by dsimp only; omega, hs, by dsimp only; omega⟩ (by exact QX J ⟨rfl, rfl, by simp only [Int.natCast_add]; rfl, trivial⟩)
  rw [if_pos (by cases h3 : okR c with | true => rfl | false => rw [h3] at h2; cases h2)] at hs; refine Q1 (Qz (Qw (Qx fun K hK => ?_))); refine Qq J J J (ZZ out.length J J J (by decide) (rss_len out) sRes.und J ?_); refine Qv J J J (Qj (hK _ _ (Qz (Qw (Q5 ?_))))); clear hK K
  refine Xx (α := Nat) (fun k => k ≤ out.length ∧ posF cmpR rs0 out c k = posF cmpR rs0 out c out.length)
    (fun k => [(0, .ct (rssC l)), (3, .own 0), (4, .ct (intC i)), (5, .ct (intC k))]) (fun _ => [(0, .row 35 17 (rss out))]) (fun k => k) out.length ⟨Nat.le_refl _, rfl⟩ (by exact QX J ⟨rfl, rfl, rfl, rfl, trivial⟩) ?_
  rintro k ⟨hk, hp⟩
  dsimp only at hk hp ⊢; refine Qw (Qw ?_); refine Xw mixed 15 (.p 0 (.p 1 (.p 2 (.p 3 (.p 4 (.p 5 (.p 6 (.p 8 (.p 9 (.p 10 (.f 7 (.f 11 (.m 12 (.p 13 (.p 14 .done))))))))))))))) (by kernel_rfl) (fun K hK => ?_); refine Qq J J J (Qk igtr J J J J (Qq J J J (Q7 22 J (fun h3 => ?_) (fun h3 => ?_))))
  · have e1 : ((k : Int) - 1).toNat = k - 1 := by omega
    rw [posF_step _ _ _ _ (by omega)] at hp; refine Qq J J J (Qq J J J (Qk (isub (by omega) (by omega)) J J J J ?_))
    refine Xu out.length J J J (rss_len out) J sRes (by omega) (by omega) J ?_
    refine Qq J J J (Qq J J J (Qh J J J sRes (by omega) (Xd (by omega) (by omega)) J ?_))
    refine ldE rsCs rs0 Z7 J J J J J (by omega) lRes J ?_
    rw [e1]
    refine XX (n := 17) J J J lRes J J ?_
    rw [e2, hc]; generalize hx : out.getD (k - 1) rs0 = x at hp; refine QW gorCmpR (rcmpR_ok x c) J J J J (Qk igtr J J J J (QJ J J J J (Qj (hK _ _ (Qz ?_))))); clear hK K; refine Q2 J (fun h4 => ?_) (fun h4 => ?_)
    · rw [if_pos h4] at hp; refine Q1 (Qz (Q5 (Qx fun K hK => ?_))); refine Qq J J J (Qk (isub (by omega) (by omega)) J J J J ?_); refine Qv J J J (Qj (hK _ _ (Qd (Q4 ?_)))); clear hK K; refine Q8 (k - 1) (by omega) ⟨by omega, hp⟩ (by rw [show ((k - 1 : Nat) : Int) = (k : Int) - 1 by omega]; exact QX J ⟨rfl, rfl, rfl, rfl, trivial⟩)
    rw [if_neg h4] at hp; refine Qs (Qz (Qw (Qw ?_))); refine Xw mixed 15 (.p 0 (.p 1 (.p 2 (.p 3 (.p 4 (.p 5 (.p 6 (.p 8 (.p 9 (.p 10 (.f 7 (.f 11 (.m 12 (.p 13 (.p 14 .done))))))))))))))) (by kernel_rfl) (fun K hK => ?_); refine Qq J J J (Qk igtr J J J J (Qq J J J (Q7 39 J (fun _ => ?_) (fun h5 => absurd h3 h5)))); refine Qq J J J (Qq J J J (Qk (isub (by omega) (by omega)) J J J J ?_))
    refine Xu out.length J J J (rss_len out) J sRes (by omega) (by omega) J ?_
    refine Qq J J J (Qq J J J (Qh J J J sRes (by omega) (Xd (by omega) (by omega)) J ?_))
    refine ldE rsCs rs0 Z7 J J J J J (by omega) lRes J ?_
    rw [e1, hx]
    refine XX (n := 17) J J J lRes J J ?_
    rw [e2, hc]; refine QW gorCmpR (rcmpR_ok x c) J J J J (Qk ieql J J J J (QJ J J J J (Qj (hK _ _ (Qz ?_))))); clear hK K; refine Q2 J (fun h5 => ?_) (fun h5 => ?_)
    · have hput : putF cmpR rs0 out c = out := by
        unfold putF; rw [← hp, if_pos ⟨by omega, by rw [hx]; exact h5⟩]
      rw [hput] at hs; refine Qs (Qz (Qx fun K hK => ?_)); refine Qq J J J (Qk (iadd (by omega) (by omega)) J J J J ?_); refine Qv J J J (Qj (hK _ _ (Q4 ?_))); clear hK K; refine Q8 (i + 1, out) (by dsimp only; omega) ⟨by dsimp only; omega, hs, by dsimp only; omega⟩ (by exact QX J ⟨rfl, rfl, by simp only [Int.natCast_add]; rfl, trivial⟩)
    have hput : putF cmpR rs0 out c = out.take k ++ c :: out.drop k := by
      unfold putF; rw [← hp, if_neg (fun h6 => h5 (by rw [← hx]; exact h6.2))]
    have e3 : ((k : Int) + 1).toNat = k + 1 := by omega
    have e4 : (k : Int).toNat = k := by omega
    generalize hl2' : (out ++ [c]).take (k + 1) ++ ((out ++ [c]).drop k).take (out.length + 1 - (k + 1)) ++ (out ++ [c]).drop (k + 1 + (((out ++ [c]).drop k).take (out.length + 1 - (k + 1))).length) = l2
    have hl3 : l2.set k c = out.take k ++ c :: out.drop k := by rw [← hl2']; exact shift_eqA out c hk
    have hlen2 : k < l2.length := by
      have := congrArg List.length hl3; simp at this; omega
    have hlen3 : l2.length = out.length + 1 := by
      have := congrArg List.length hl3; simp at this; omega
    have hl2 : rss l2 = spl (rss (out ++ [c])) (((k : Int) + 1).toNat * 17) (((rss (out ++ [c])).drop ((k : Int).toNat * 17)).take (min (out.length + 1 - (k : Int).toNat) (out.length + 1 - ((k : Int) + 1).toNat) * 17)) := by
      rw [e3, e4, show min (out.length + 1 - k) (out.length + 1 - (k + 1)) = out.length + 1 - (k + 1) by omega, rss_drop, rss_take, rss_spl, ← hl2']
    refine Q1 (Qz (Qw (Qx fun K hK => ?_))); refine Qq J J J (Qq J J J (Qq J J J (Qh J J J sRes (by omega) (Xd (by omega) (by omega)) J ?_)))
    refine XX (n := 17) J J J lRes J J ?_
    rw [e2, hc]
    refine X6 (n := 17) J J sRes J J (by decide) J ?_
    refine Qt out.length (rss (out ++ [c])) J J J J sRes (rss_len out) J (by omega) (by omega) (Z9 out c) J ?_
    refine Qv J J J (Qj (hK _ _ (Qz (Qw ?_)))); clear hK K; refine Xw mixed 7 (.p 0 (.p 1 (.p 2 (.p 4 (.p 5 (.p 3 (.p 6 (.a 7 .done)))))))) (by kernel_rfl) (fun K hK => ?_); refine Qq J J J (Qq J J J (Qk (iadd (by omega) (by omega)) J J J J ?_)); refine Qq J J J (Qq J J J (Ops.copyIn (out.length + 1) (rss l2) J J J J J sRes (by rw [rss_len]; simp) (by omega) (by omega) (by omega) (by omega) (by omega) (rss_ones _) J hl2 J J J ?_)); refine Qj (hK _ _ (Qz ?_)); clear hK K; refine Qx (fun K hK => ?_); refine Qq J J J (Qq J J J (Qq J J J (Qq J J J (Qh J J J sRes (by omega) (Xd (by omega) (by omega)) J ?_))))
    refine XX (n := 17) J J J lRes J J ?_
    rw [e2, hc]
    refine Xu (out.length + 1) J J J (by rw [rss_len, hlen3]) J sRes (by omega) (by omega) J ?_
    refine stE rsCs c Z7 J J J J J (by rw [e4]; omega) Z4 ?_
    rw [e4, hl3]; refine Qj (hK _ _ (Qz ?_)); clear hK K; refine Qx (fun K hK => ?_); refine Qq J J J (Qk (iadd (by omega) (by omega)) J J J J ?_); refine Qv J J J (Qj (hK _ _ (Q4 ?_))); clear hK K; rw [hput] at hs; refine Q8 (i + 1, out.take k ++ c :: out.drop k) (by dsimp only; omega) ⟨by dsimp only; omega, hs, by simp only [List.length_append, List.length_take, List.length_cons, List.length_drop]; omega⟩ (by exact QX J ⟨rfl, rfl, by simp only [Int.natCast_add]; rfl, trivial⟩)
  · have hk0 : k = 0 := by omega
    subst hk0
    have hp : 0 = posF cmpR rs0 out c out.length := by rw [← hp]; rfl
    refine Qy J J J (Qy J J J (Qy J J J (Qy J J J (Qy J J J (Qy J J J (Qy J J J (Qy J J J (Qy J J J (Qy J J J (Qy J J J (QK J J J J (Qj (hK _ _ (Qz (Xv J (Qs (Qz (Qw (Qw ?_))))))))))))))))))); clear hK K; refine Xw mixed 15 (.p 0 (.p 1 (.p 2 (.p 3 (.p 4 (.p 5 (.p 6 (.p 8 (.p 9 (.p 10 (.f 7 (.f 11 (.m 12 (.p 13 (.p 14 .done))))))))))))))) (by kernel_rfl) (fun K hK => ?_); refine Qq J J J (Qk igtr J J J J (Qq J J J (Qy J J J (Qy J J J (Qy J J J (Qy J J J (Qy J J J (Qy J J J (Qy J J J (Qy J J J (Qy J J J (Qy J J J (Qy J J J (QK J J J J (Qj (hK _ _ (Qz (Xv J (Q1 (Qz (Qw ?_))))))))))))))))))))); clear hK K; refine Qx (fun K hK => ?_); refine Qq J J J (Qq J J J (Qq J J J (Qh J J J sRes (by omega) (Xd (by omega) (by omega)) J ?_))); refine XX (n := 17) J J J lRes J J (Q7 39 J (fun h5 => absurd h5 h3) (fun _ => ?_)); skip
    have hput : putF cmpR rs0 out c = out.take 0 ++ c :: out.drop 0 := by
      unfold putF; rw [← hp, if_neg (fun h6 => h6.1 J)]
    have e3 : (((0 : Nat) : Int) + 1).toNat = 0 + 1 := by omega
    have e4 : ((0 : Nat) : Int).toNat = 0 := by omega
    generalize hl2' : (out ++ [c]).take (0 + 1) ++ ((out ++ [c]).drop 0).take (out.length + 1 - (0 + 1)) ++ (out ++ [c]).drop (0 + 1 + (((out ++ [c]).drop 0).take (out.length + 1 - (0 + 1))).length) = l2
    have hl3 : l2.set 0 c = out.take 0 ++ c :: out.drop 0 := by rw [← hl2']; exact shift_eqA out c hk
    have hlen2 : 0 < l2.length := by
      have := congrArg List.length hl3; simp at this; omega
    have hlen3 : l2.length = out.length + 1 := by
      have := congrArg List.length hl3; simp at this; omega
    have hl2 : rss l2 = spl (rss (out ++ [c])) ((((0 : Nat) : Int) + 1).toNat * 17) (((rss (out ++ [c])).drop (((0 : Nat) : Int).toNat * 17)).take (min (out.length + 1 - ((0 : Nat) : Int).toNat) (out.length + 1 - (((0 : Nat) : Int) + 1).toNat) * 17)) := by
      rw [e3, e4, show min (out.length + 1 - 0) (out.length + 1 - (0 + 1)) = out.length + 1 - (0 + 1) by omega, rss_drop, rss_take, rss_spl, ← hl2']
    skip; rw [e2, hc]
    refine X6 (n := 17) J J sRes J J (by decide) J ?_
    refine Qt out.length (rss (out ++ [c])) J J J J sRes (rss_len out) J (by omega) (by omega) (Z9 out c) J ?_
    refine Qv J J J (Qj (hK _ _ (Qz (Qw ?_)))); clear hK K; refine Xw mixed 7 (.p 0 (.p 1 (.p 2 (.p 4 (.p 5 (.p 3 (.p 6 (.a 7 .done)))))))) (by kernel_rfl) (fun K hK => ?_); refine Qq J J J (Qq J J J (Qk (iadd (by omega) (by omega)) J J J J ?_)); refine Qq J J J (Qq J J J (Ops.copyIn (out.length + 1) (rss l2) J J J J J sRes (by rw [rss_len]; simp) (by omega) (by omega) (by omega) (by omega) (by omega) (rss_ones _) J hl2 J J J ?_)); refine Qj (hK _ _ (Qz ?_)); clear hK K; refine Qx (fun K hK => ?_); refine Qq J J J (Qq J J J (Qq J J J (Qq J J J (Qh J J J sRes (by omega) (Xd (by omega) (by omega)) J ?_))))
    refine XX (n := 17) J J J lRes J J ?_
    rw [e2, hc]
    refine Xu (out.length + 1) J J J (by rw [rss_len, hlen3]) J sRes (by omega) (by omega) J ?_
    refine stE rsCs c Z7 J J J J J (by rw [e4]; omega) Z4 ?_
    rw [e4, hl3]; refine Qj (hK _ _ (Qz ?_)); clear hK K; refine Qx (fun K hK => ?_); refine Qq J J J (Qk (iadd (by omega) (by omega)) J J J J ?_); refine Qv J J J (Qj (hK _ _ (Q4 ?_))); clear hK K; rw [hput] at hs; refine Q8 (i + 1, out.take 0 ++ c :: out.drop 0) (by dsimp only; omega) ⟨by dsimp only; omega, hs, by simp only [List.length_append, List.length_take, List.length_cons, List.length_drop]; omega⟩ (by exact QX J ⟨rfl, rfl, by simp only [Int.natCast_add]; rfl, trivial⟩)
attribute [local irreducible] OkM
theorem gorOf : InGo Tryz.prog 40 := InGo.of Tryz.func40 rfl (by decide)
theorem ord_sd (l : List Rs) : ordF cmpR rs0 okR l [] = sd cmpR (l.filter okR) := by
  have h1 := ordF_spec ordR rs0 okR l [] List.Pairwise.nil; have h2 := Zt ordR (l.filter okR)
  refine Up.ext ordR h1.1 h2.1 fun x => ?_
  rw [h1.2 x, h2.2 x, List.mem_filter]; exact ⟨fun h => h.elim (fun h => by cases h) id, Or.inr⟩
set_option maxHeartbeats 4000000 in
theorem rOf_ok (l : List Rs) (t : Tk) (hl : l.length ≤ 10000) : OkF Tryz.prog 40 [rssC l, tkC t] 35 17 (rss (ofF l t)) := by
  have hO := rOrd24_ok l hl; rw [ord_sd l] at hO
  have hol : (sd cmpR (l.filter okR)).length ≤ 10000 := by
    have := Yv cmpR (l.filter okR); have := List.length_filter_le okR l; omega
  unfold ofF; generalize sd cmpR (l.filter okR) = o at hO hol ⊢
  refine OkF.enter Tryz.func40 J _ Tryz.ntmps40 J ?_
  intro S w; refine Qw (Qx fun K hK => ?_); refine Xz 0 J J J J J J J (Qv J J J (Qj (hK _ _ (Qz (Qw ?_))))); clear hK K; refine Qx (fun K hK => ?_); refine Qq J J J (QW gorOrd24 hO J J J J (Qv J J J (Qj (hK _ _ (Qz (Qw ?_)))))); clear hK K; refine Qx (fun K hK => ?_); refine Qv J J J (Qj (hK _ _ (Qz (Qw (Qw ?_))))); clear hK K; refine Qx (fun K hK => ?_); refine Qv J J J (Qj (hK _ _ (Qz (Q5 ?_)))); clear hK K
  refine Xg 6 1 35 17 J J J ?_
  refine Xx (α := Nat) (fun i => i ≤ o.length)
    (fun i => [(3, .own 0), (5, .ct (rssC o)), (6, .own 1), (7, .ct (intC i))]) (fun i => [(1, .row 35 17 (rss ((o.take i).filter fun r => decide (trOf r = t)))), (0, .box 86 (tkCs t))]) (fun i => o.length - i) 0 (Nat.zero_le _) (by exact QX J ⟨rfl, rfl, rfl, rfl, trivial⟩) ?_
  intro i hi
  try dsimp only at hi
  try dsimp only
  refine Qw (Qw (Qx fun K hK => ?_)); refine Qq J J J (Qq J J J (Qb J J sRes.und (List.length_map ..) J (Qk ilss J J J J (Qj (hK _ _ (Qz ?_)))))); clear hK K; refine Q2 J (fun h => ?_) (fun h => ?_)
  · have e2 : (i : Int).toNat = i := Int.toNat_natCast i; have hs := Zn (fun r => decide (trOf r = t)) (z := rs0) (i := i) (l := o) (by omega); have hfl := Yu (fun r => decide (trOf r = t)) o i; generalize hc : o.getD i rs0 = c at hs; generalize (o.take i).filter (fun r => decide (trOf r = t)) = out at hs hfl ⊢; refine Q1 (Qz (Qw (Q5 (Qw ?_)))); refine Xw mixed 7 (.p 0 (.p 1 (.p 2 (.f 3 (.f 5 (.m 4 (.p 6 .done))))))) (by kernel_rfl) (fun K hK => ?_); refine Qq J J J (Qq J J J (Qh J J J sRes (by omega) (Xd (by omega) (by omega)) J ?_)); refine XX (n := 17) J J J lRes J J (Q6 (n := 3) J J J J J Y5 J ?_); rw [e2, hc]; refine QW gorTraceOf (rTraceOf_ok c) J J J J (eqTk (trOf c) t J J J J J (Qj (hK _ _ (Qz ?_)))); clear hK K; refine Q2 J (fun h2 => ?_) (fun h2 => ?_)
    · rw [if_pos (decide_eq_true h2)] at hs; refine Qx (fun K hK => ?_); refine Qq J J J (Qq J J J (Qq J J J (Qh J J J sRes (by omega) (Xd (by omega) (by omega)) J ?_)))
      refine XX (n := 17) J J J lRes J J ?_
      rw [e2, hc]
      refine X6 (n := 17) J J sRes J J (by decide) J ?_
      refine Qt out.length (rss (out ++ [c])) J J J J sRes (rss_len out) J (by omega) (by omega) (Z9 out c) J ?_
      refine Qv J J J (Qj (hK _ _ (Qz ?_))); clear hK K; refine Qx (fun K hK => ?_); refine Qq J J J (Qk (iadd (by omega) (by omega)) J J J J ?_); refine Qv J J J (Qj (hK _ _ (Q4 ?_))); clear hK K; refine Q8 (i + 1) (by omega) (by omega) (by rw [hs]; exact QX J ⟨rfl, rfl, rfl, by simp only [Int.natCast_add]; rfl, trivial⟩)
    · rw [if_neg (by rw [decide_eq_false h2]; decide)] at hs; refine Q1 (Qz (Qx fun K hK => ?_)); refine Qq J J J (Qk (iadd (by omega) (by omega)) J J J J ?_); refine Qv J J J (Qj (hK _ _ (Q4 ?_))); clear hK K; refine Q8 (i + 1) (by omega) (by omega) (by rw [hs]; exact QX J ⟨rfl, rfl, rfl, by simp only [Int.natCast_add]; rfl, trivial⟩)
  · have hi' : i = o.length := by omega
    rw [hi', List.take_length]; refine Qs (Qz (Qw (Qx fun K hK => ?_))); refine Qq J J J (Qv J J J (Qj (hK _ _ (Qz (Q0 ?_))))); clear hK K; refine Y3 J J J J
end Go.Proofs.YtlkdkbdgnjcopaaGreat
namespace Go.Limbs
def trimL : List Int → List Int
  | [] => []
  | x :: xs => match trimL xs with
    | [] => if x = 0 then [] else [x]
    | y :: ys => x :: y :: ys
theorem trim_snoc (ys : List Int) : trimL (ys ++ [0]) = trimL ys := by
  induction ys with
  | nil => simp [trimL]
  | cons y ys ih => simp only [List.cons_append, trimL, ih]
theorem trim_id {ys : List Int} {z : Int} (hz : z ≠ 0) : trimL (ys ++ [z]) = ys ++ [z] := by
  induction ys with
  | nil => simp [trimL, hz]
  | cons y ys ih =>
    simp only [List.cons_append, trimL, ih]
    cases ys <;> rfl
theorem trim_last {ys : List Int} (h : 0 < ys.length) (h0 : ys.getD (ys.length - 1) 0 = 0) : trimL (ys.take (ys.length - 1)) = trimL ys := by
  obtain ⟨zs, z, rfl⟩ : ∃ zs z, ys = zs ++ [z] := ⟨ys.dropLast, ys.getLast (by intro e; subst e; simp at h), (List.dropLast_concat_getLast _).symm⟩; simp at h0; subst h0; rw [trim_snoc]; simp
theorem trim_done {ys : List Int} (h : 0 < ys.length → ys.getD (ys.length - 1) 0 ≠ 0) : trimL ys = ys := by
  rcases Nat.eq_zero_or_pos ys.length with h0 | h0
  · have : ys = [] := List.eq_nil_of_length_eq_zero h0; subst this; rfl
  · obtain ⟨zs, z, rfl⟩ : ∃ zs z, ys = zs ++ [z] := ⟨ys.dropLast, ys.getLast (by intro e; subst e; simp at h0), (List.dropLast_concat_getLast _).symm⟩; have := h h0; simp at this; exact trim_id this
theorem trim_len (xs : List Int) : (trimL xs).length ≤ xs.length := by
  induction xs with
  | nil => simp [trimL]
  | cons x xs ih =>
    simp only [trimL]; split
    · split <;> simp
    · rename_i y ys e; rw [e] at ih; simp at ih ⊢; omega
end Go.Limbs
namespace Go.Proofs.YtlkdkbdgnjcopaaGreat
open Go.Own Go.Limbs
def idxI {α : Type} (p : α → Bool) (xs : List α) : Int := if xs.any p then (xs.findIdx p : Nat) else -1
theorem idxI_hit {α : Type} {p : α → Bool} {xs : List α} {z : α} {i : Nat} (h : i < xs.length) (hp : p (xs.getD i z) = true) (hn : ∀ j, j < i → p (xs.getD j z) = false) : idxI p xs = i := by
  have e : ∀ j (hj : j < xs.length), xs.getD j z = xs[j] := fun j hj => by simp [List.getD_eq_getElem?_getD, List.getElem?_eq_getElem hj]
  unfold idxI; rw [if_pos (List.any_eq_true.mpr ⟨xs[i], List.getElem_mem h, by rw [← e i h]; exact hp⟩)]
  congr 1
  rw [List.findIdx_eq h]; exact ⟨by rw [← e i h]; exact hp, fun j hj => by rw [← e j (by omega)]; exact hn j hj⟩
theorem idxI_miss {α : Type} {p : α → Bool} {xs : List α} {z : α} (hn : ∀ j, j < xs.length → p (xs.getD j z) = false) : idxI p xs = -1 := by
  have e : ∀ j (hj : j < xs.length), xs.getD j z = xs[j] := fun j hj => by simp [List.getD_eq_getElem?_getD, List.getElem?_eq_getElem hj]
  unfold idxI; rw [if_neg]; rw [Bool.not_eq_true, List.any_eq_false]; intro x hx; obtain ⟨j, hj, rfl⟩ := List.getElem_of_mem hx; rw [← e j hj, hn j hj]; decide
theorem idxI_any {α : Type} (p : α → Bool) (xs : List α) : decide (0 ≤ idxI p xs) = xs.any p := by
  unfold idxI; split
  · rename_i h; rw [h]; simp
  · rename_i h; simp at h; rw [show decide ((0 : Int) ≤ -1) = false by decide]; symm; rw [List.any_eq_false]; simpa using h
theorem getD_mem {α : Type} {xs : List α} {z : α} {i : Nat} (h : i < xs.length) : xs.getD i z ∈ xs := by
  simp [List.getD_eq_getElem?_getD, List.getElem?_eq_getElem h]
attribute [local irreducible] Go.Own.Fin Ok OkB OkF OkL OkM OkN OkT Ops St
def bdB (n : Int) : Bool := decide (0 ≤ n) && decide (n ≤ 1048576)
theorem gorbudgets : InGo Tryz.prog 59 := InGo.of Tryz.func59 rfl (by decide)
theorem rbudgets_ok (n : Int) : Ok Tryz.prog 59 [intC n] (boolC (bdB n)) := by
  refine Ok.enter Tryz.func59 J _ Tryz.ntmps59 J ?_
  intro S w; refine Qw (Qx fun K hK => ?_); refine Qv J J J (Qj (hK _ _ (Qz (Qw ?_)))); clear hK K; refine Qx (fun K hK => ?_); refine Qq J J J (Qk igeq J J J J (Qq J J J (Q7 5 J (fun h => ?_) (fun h => ?_))))
  · refine Qq J J J (Qk ileq J J J J (QJ J J J J (Qv J J J (Qj (hK _ _ (Qz (Q0 ?_))))))); clear hK K; refine QU [_] rfl (Qu J QQ) (by unfold bdB; rw [decide_eq_true (by omega : 0 ≤ n), Bool.true_and]; rfl) J
  · refine Qy J J J (Qy J J J (QK J J J J (Qv J J J (Qj (hK _ _ (Qz (Q0 ?_))))))); clear hK K; refine QU [_] rfl (Qu J QQ) (by unfold bdB; rw [decide_eq_false (by omega : ¬ 0 ≤ n), Bool.false_and]; rfl) J
theorem gorIdentity : InGo Tryz.prog 67 := InGo.of Tryz.func67 rfl (by decide)
theorem rIdentity_ok (r : Rs) : Ok Tryz.prog 67 [rsC r] (ikC (idOf r)) := by
  refine Ok.enter Tryz.func67 J _ Tryz.ntmps67 J ?_
  intro S w; refine Qw (Qx fun K hK => ?_); refine Xz 0 J J J J J J J (Qg 1 J J zvID J J J (Qj (hK _ _ (Qz (Qw ?_))))); clear hK K; refine Qx (fun K hK => ?_); refine QV J J J fS0 J (QY J J J J J lInt J (QV J J J fS1 J (QY J J J J J lInt J (QV J J J fS2 J (QY J J J J J lInt J (Qi J bID' J (.one J J J J (.one J J J J (.one J J J J .nil))) J (Qa 3 J J J J J szID J J (Qj (hK _ _ (Qz (Q0 ?_))))))))))); clear hK K; refine Fin.end [_] rfl (Qc (n := 3) J J lID J QQ) J J
def chkR (l : List Rs) : Int := if (∃ r ∈ l, okR r = false) then 1 else if 512 < ((sd cmpR (l.filter okR)).length : Int) then 5 else if pwB l = true then 0 else 30
theorem gorcheck : InGo Tryz.prog 60 := InGo.of Tryz.func60 rfl (by decide)
set_option maxHeartbeats 4000000 in
theorem rcheck_ok (l : List Rs) (hl : l.length ≤ 10000) : Ok Tryz.prog 60 [rssC l] (intC (chkR l)) := by
  have hO := rOrd24_ok l hl; rw [ord_sd l] at hO
  have hol : (sd cmpR (l.filter okR)).length ≤ 10000 := by
    have := Yv cmpR (l.filter okR); have := List.length_filter_le okR l; omega
  have hN := Y6 l (by omega)
  have e : chkR l = if (∃ r ∈ l, okR r = false) then 1 else if 512 < ((sd cmpR (l.filter okR)).length : Int) then 5 else if pwB l = true then 0 else 30 := rfl
  generalize chkR l = c at e ⊢; generalize sd cmpR (l.filter okR) = o at hO e hol; generalize pwB l = b3 at hN e
  refine Ok.enter Tryz.func60 J _ Tryz.ntmps60 J ?_
  intro S w; refine Qw (Qx fun K hK => ?_); refine Qv J J J (Qj (hK _ _ (Qz (Qw (Qw ?_))))); clear hK K; refine Qx (fun K hK => ?_); refine Qv J J J (Qj (hK _ _ (Qz (Q5 ?_)))); clear hK K
  refine Xx (α := Nat) (fun i => i ≤ l.length ∧ ∀ j, j < i → okR (l.getD j rs0) = true)
    (fun i => [(0, .ct (rssC l)), (3, .ct (intC i))]) (fun _ => []) (fun i => l.length - i) 0 ⟨Nat.zero_le _, fun j h => absurd h (Nat.not_lt_zero _)⟩ (by exact QX J ⟨rfl, rfl, trivial⟩) ?_
  rintro i ⟨hi, hv⟩
  dsimp only at hi hv ⊢; refine Qw (Qw (Qx fun K hK => ?_)); refine Qq J J J (Qq J J J (Qb J J sRes.und (List.length_map ..) J (Qk ilss J J J J (Qj (hK _ _ (Qz ?_)))))); clear hK K; refine Q2 J (fun h => ?_) (fun h => ?_)
  · have e2 : (i : Int).toNat = i := Int.toNat_natCast i; refine Q1 (Qz (Qw (Q5 (Qw (Qx fun K hK => ?_))))); refine Qq J J J (Qq J J J (Qh J J J sRes (by omega) (Xd (by omega) (by omega)) J ?_))
    refine XX (n := 17) J J J lRes J J ?_
    rw [e2]; refine QW gorValidR (rValidR_ok (l.getD i rs0)) J J J J (Qm J J J (Qj (hK _ _ (Qz ?_)))); clear hK K; refine XZ J (fun h2 => ?_) (fun h2 => ?_)
    · rw [if_pos ⟨l.getD i rs0, getD_mem (by omega), by rw [← Bool.not_eq_true']; exact h2⟩] at e; refine Qw (Qx fun K hK => ?_); refine Qv J J J (Qj (hK _ _ (Qz (Q0 (Q3 (QZ (QZ (Q3 (QZ ?_))))))))); clear hK K; refine QU [_] rfl (Qu J QQ) (by rw [e]; rfl) J
    · refine Q1 (Qz (Qx fun K hK => ?_)); refine Qq J J J (Qk (iadd (by omega) (by omega)) J J J J ?_); refine Qv J J J (Qj (hK _ _ (Q4 ?_))); clear hK K; refine Q8 (i + 1) (by omega) ⟨by omega, fun j hj => by rcases Nat.lt_succ_iff_lt_or_eq.1 hj with h4 | h4; exact hv j h4; subst h4; rw [← Bool.not_eq_false']; exact h2⟩ (by exact QX J ⟨rfl, by simp only [Int.natCast_add]; rfl, trivial⟩)
  have hi' : i = l.length := by omega
  rw [if_neg (by
    rintro ⟨r, hr, h2⟩
    obtain ⟨j, hj, rfl⟩ := List.getElem_of_mem hr; have := hv j (by omega); rw [List.getD_eq_getElem?_getD, List.getElem?_eq_getElem hj] at this; rw [Option.getD_some] at this
    rw [this] at h2; cases h2)] at e
  refine Qs (Qz (Qw (Qw (Qx fun K hK => ?_)))); refine Qq J J J (QW gorOrd24 hO J J J J (Qb J J sRes.und (List.length_map ..) J (Qk igtr J J J J (Qj (hK _ _ (Qz ?_)))))); clear hK K; refine Q2 J (fun h2 => ?_) (fun h2 => ?_)
  · rw [if_pos h2] at e; refine Qw (Qx fun K hK => ?_); refine Qv J J J (Qj (hK _ _ (Qz (Q0 (QZ ?_))))); clear hK K; refine QU [_] rfl (Qu J QQ) (by rw [e]; rfl) J
  rw [if_neg h2] at e; refine Q1 (Qz (Qw (Qw (Qx fun K hK => ?_)))); refine Qq J J J (QW goConsistentR hN J J J J (Qm J J J (Qj (hK _ _ (Qz ?_))))); clear hK K; refine XZ J (fun h3 => ?_) (fun h3 => ?_)
  · rw [if_neg (by intro h4; rw [h4] at h3; cases h3)] at e; refine Qw (Qx fun K hK => ?_); refine Qv J J J (Qj (hK _ _ (Qz (Q0 (QZ ?_))))); clear hK K; refine QU [_] rfl (Qu J QQ) (by rw [e]; rfl) J
  · rw [if_pos (by cases b3 with | true => rfl | false => cases h3)] at e; refine Q1 (Qz (Qw (Qx fun K hK => ?_))); refine Qv J J J (Qj (hK _ _ (Qz (Q0 ?_)))); clear hK K; refine QU [_] rfl (Qu J QQ) (by rw [e]; rfl) J
theorem gorSameIDs : InGo Tryz.prog 30 := InGo.of Tryz.func30 rfl (by decide)
set_option maxHeartbeats 4000000 in
theorem rSameIDs_ok (a b : List Ik) (ha : a.length ≤ 100000000) : Ok Tryz.prog 30 [iksC a, iksC b] (boolC (decide (a = b))) := by
  refine Ok.enter Tryz.func30 J _ Tryz.ntmps30 J ?_
  intro S w; refine Qw (Qx fun K hK => ?_); refine Qv J J J (Qj (hK _ _ (Qz (Qw (Qw ?_))))); clear hK K; refine Qx (fun K hK => ?_); refine Qq J J J (Qb J J sIks.und (List.length_map ..) J (Qq J J J (Qb J J sIks.und (List.length_map ..) J (Qk ineq J J J J (Qj (hK _ _ (Qz ?_))))))); clear hK K; refine Q2 J (fun h => ?_) (fun h => ?_)
  · refine Qw (Qx fun K hK => ?_); refine Qv J J J (Qj (hK _ _ (Qz (Q0 (QZ ?_))))); clear hK K; refine QU [_] rfl (Qu J QQ) (by rw [decide_eq_false (show ¬ a = b from fun e => by subst e; exact h J)]; rfl) J
  have hab : a.length = b.length := by
    by_cases e : a.length = b.length
    · exact e
    · exact absurd (fun h2 => e (by exact_mod_cast h2)) h
  refine Q1 (Qz (Qw (Qw (Qx fun K hK => ?_)))); refine Qv J J J (Qj (hK _ _ (Qz (Q5 ?_)))); clear hK K
  refine Xx (α := Nat) (fun i => i ≤ a.length ∧ ∀ j, j < i → a.getD j ik0 = b.getD j ik0)
    (fun i => [(0, .ct (iksC a)), (1, .ct (iksC b)), (5, .ct (intC i))]) (fun _ => []) (fun i => a.length - i) 0 ⟨Nat.zero_le _, fun j h => absurd h (Nat.not_lt_zero _)⟩ (by exact QX J ⟨rfl, rfl, rfl, trivial⟩) ?_
  rintro i ⟨hi, hv⟩
  dsimp only at hi hv ⊢; refine Qw (Qw (Qx fun K hK => ?_)); refine Qq J J J (Qq J J J (Qb J J sIks.und (List.length_map ..) J (Qk ilss J J J J (Qj (hK _ _ (Qz ?_)))))); clear hK K; refine Q2 J (fun h2 => ?_) (fun h2 => ?_)
  · have e2 : (i : Int).toNat = i := Int.toNat_natCast i; refine Q1 (Qz (Qw (Q5 (Qw ?_)))); refine Xw mixed 9 (.p 0 (.p 1 (.p 2 (.p 4 (.p 5 (.p 6 (.f 3 (.f 7 (.p 8 .done))))))))) (by kernel_rfl) (fun K hK => ?_); refine Qq J J J (Qq J J J (Qh J J J sIks (by omega) (iks_at (by omega) (by omega)) J ?_)); refine Qq J J J (Qq J J J (Qh J J J sIks (by omega) (iks_at (by omega) (by omega)) J ?_)); skip; refine XX (n := 3) J J J lID J J (XX (n := 3) J J J lID J J ?_); rw [e2]; refine neIk (a.getD i ik0) (b.getD i ik0) J J J J J (Qj (hK _ _ (Qz ?_))); clear hK K; refine Q2 J (fun h3 => ?_) (fun h3 => ?_)
    · refine Qw (Qx fun K hK => ?_); refine Qv J J J (Qj (hK _ _ (Qz (Q0 (Q3 (QZ (QZ (Q3 (QZ ?_))))))))); clear hK K; refine QU [_] rfl (Qu J QQ) (by rw [decide_eq_false (show ¬ a = b from fun e => h3 (by rw [e]))]; rfl) J
    · have h3 : a.getD i ik0 = b.getD i ik0 := Decidable.not_not.1 h3; refine Q1 (Qz (Qx fun K hK => ?_)); refine Qq J J J (Qk (iadd (by omega) (by omega)) J J J J ?_); refine Qv J J J (Qj (hK _ _ (Q4 ?_))); clear hK K; refine Q8 (i + 1) (by omega) ⟨by omega, fun j hj => by rcases Nat.lt_succ_iff_lt_or_eq.1 hj with h4 | h4; exact hv j h4; subst h4; exact h3⟩ (by exact QX J ⟨rfl, rfl, by simp only [Int.natCast_add]; rfl, trivial⟩)
  · refine Qs (Qz (Qw (Qx fun K hK => ?_))); refine Qv J J J (Qj (hK _ _ (Qz (Q0 ?_)))); clear hK K; refine QU [_] rfl (Qu J QQ) (by rw [decide_eq_true (same_list (z := ik0) hab fun j hj => hv j (by omega))]; rfl) J
def wyR (l : List Rs) (r : Rs) : List Ad × Bool :=
  if usR r = false then ([], false)
  else if r.tt ≤ (pathF (ofF l (trOf r)) r.fl).length then ((pathF (ofF l (trOf r)) r.fl).take r.tt.toNat, true)
  else if ((pathF (ofF l (trOf r)) r.fl).length : Int) = r.tt - 1 ∧ r.an = false then (pathF (ofF l (trOf r)) r.fl ++ [0], true)
  else ([], false)
theorem gorway : InGo Tryz.prog 61 := InGo.of Tryz.func61 rfl (by decide)
theorem adrs_fl : ∀ p : List Ad, (p.map fun x => [adrF x]).flatten = adrs p
  | [] => rfl
  | a :: p => by rw [List.map_cons, List.flatten_cons, adrs_fl p]; rfl
theorem adrs_ones (p : List Ad) : ones (p.map fun x => [adrF x]).flatten = true := el_ones (f := fun x => [adrF x]) (fun _ => rfl) p
set_option maxHeartbeats 8000000 in
theorem rway_ok (l : List Rs) (hl : l.length ≤ 10000) (r : Rs) : Ok Tryz.prog 61 [rssC l, rsC r] (.fr (tupT [adsC (wyR l r).1, boolC (wyR l r).2])) := by
  have hU := rUsable_ok r; have hO := rOf_ok l (trOf r) hl
  have hol : (ofF l (trOf r)).length ≤ l.length := by
    have h3 := List.length_filter_le (fun x => decide (trOf x = trOf r)) (sd cmpR (l.filter okR)); have := Yv cmpR (l.filter okR); have := List.length_filter_le okR l; unfold ofF; omega
  have hP := rPath_ok (ofF l (trOf r)) r.fl (by omega); have hpl := pathF_len (ofF l (trOf r)) r.fl; have hTt : usR r = true → 1 ≤ r.tt ∧ r.tt ≤ 255 := usR_tt
  have e : wyR l r = if usR r = false then ([], false)
    else if r.tt ≤ (pathF (ofF l (trOf r)) r.fl).length then ((pathF (ofF l (trOf r)) r.fl).take r.tt.toNat, true)
    else if ((pathF (ofF l (trOf r)) r.fl).length : Int) = r.tt - 1 ∧ r.an = false then (pathF (ofF l (trOf r)) r.fl ++ [0], true)
    else ([], false) := rfl
  generalize wyR l r = c at e ⊢; generalize usR r = u at hU hTt e; generalize pathF (ofF l (trOf r)) r.fl = p at hP hpl e; generalize ofF l (trOf r) = o at hO hP hol
  refine Ok.enter Tryz.func61 J _ Tryz.ntmps61 J ?_
  intro S w; refine Qw (Qx fun K hK => ?_); refine Xz 0 J J J J J J J (Qv J J J (Qv J J J (Qj (hK _ _ (Qz (Qw (Qw ?_))))))); clear hK K; refine Qx (fun K hK => ?_); refine Q6 (n := 17) J J J J J lRes J (QW gorUsable hU J J J J (Qm J J J (Qj (hK _ _ (Qz ?_))))); clear hK K; refine XZ J (fun h => ?_) (fun h => ?_)
  · rw [if_pos (by cases u with | true => cases h | false => rfl)] at e; refine Qw (Qx fun K hK => ?_); refine Qv J J J (Qv J J J (Qj (hK _ _ (Qz (Q0 (QZ ?_)))))); clear hK K; refine Fin.asNil 4 1 J (QU [_, _] rfl (Qu J (Qu J QQ)) (by rw [e]; rfl) J)
  have hu : u = true := by cases u with | true => rfl | false => cases h
  have hT := hTt hu; rw [if_neg (by rw [hu]; decide)] at e; refine Q1 (Qz (Qw ?_)); refine Xw mixed 8 (.p 0 (.p 4 (.f 1 (.f 5 (.m 2 (.m 3 (.m 6 (.p 7 .done)))))))) (by kernel_rfl) (fun K hK => ?_); refine Qq J J J (QV J J J fS6 J (Q6 (n := 17) J J J J J lRes J (QY J J J J J lInt J (QW gorTraceOf (rTraceOf_ok r) J J J J (ZQ 4 gorOf hO J J J J J J (Zx 4 _ J (rss_frozen _ _) noBor_sub (ZQ 5 gorPath hP J J J J J J (Zx 5 _ J (adrs_frozen _ _) noBor_sub (Qv J J J (Qj (hK _ _ (Qz (Qw (Q5 (Qw ?_))))))))))))))); clear hK K; refine Qx (fun K hK => ?_); refine Qq J J J (Qb J J sAdrs.und (List.length_map ..) J (QV J J J fS7 J (QY J J J J J lInt J (Qk igeq J J J J (Qv J J J (Qj (hK _ _ (Qz ?_)))))))); clear hK K; refine Q2 J (fun h2 => ?_) (fun h2 => ?_)
  · rw [if_pos h2] at e; refine Qw (Qx fun K hK => ?_); refine Qq J J J (QV J J J fS7 J (QY J J J J J lInt J (Ops.cutHi J J J sAdrs (by omega) (by rw [List.length_map]; omega) J ?_))); refine Qv J J J (Qv J J J (Qj (hK _ _ (Qz (Q0 (Q3 (QZ ?_))))))); clear hK K; refine QU [_, _] rfl (Qu J (Qu J QQ)) (by rw [e, ← List.map_take]; rfl) J
  rw [if_neg h2] at e; refine Qw (Qx fun K hK => ?_); refine Qq J J J (Qb J J sAdrs.und (List.length_map ..) J (QV J J J fS7 J (QY J J J J J lInt J (Qk (isub (by omega) (by omega)) J J J J ?_)))); refine Qk ieql J J J J (Qq J J J (Q7 34 J (fun h3 => ?_) (fun h3 => ?_))); rotate_left
  · rw [if_neg (fun h => h3 h.1)] at e; refine Qy J J J (Qy J J J (Qy J J J (QK J J J J (Qv J J J (Qj (hK _ _ (Qz (Xv J (Q1 (Qz (Qw ?_))))))))))); clear hK K; refine Qx (fun K hK => ?_); refine Qv J J J (Qv J J J (Qj (hK _ _ (Qz (Q0 ?_))))); clear hK K; refine Fin.asNil 4 1 J (QU [_, _] rfl (Qu J (Qu J QQ)) (by rw [e]; rfl) J)
  refine QV J J J fS8 J (QY J J J J J lBool1 J (Qm J J J (QJ J J J J (Qv J J J (Qj (hK _ _ (Qz ?_))))))); clear hK K; refine XZ J (fun h4 => ?_) (fun h4 => ?_)
  · rw [if_pos ⟨h3, by cases hh : r.an with | true => rw [hh] at h4; cases h4 | false => rfl⟩] at e; refine Qw (Qx fun K hK => ?_); refine Qq J J J (Ops.appNil 1 J J J sAdrs (adrs_ones p) (by rw [List.length_map]; omega) (by rw [List.length_map]; omega) J J J ?_); refine Zj J J sAdrs J J J (Qt p.length (adrs (p ++ [0])) J J J J sAdrs (by rw [adrs_fl]; simp [adrs]) J (by omega) (by omega) (by rw [adrs_fl]; simp [adrs]) J ?_); refine Qv J J J (Qv J J J (Qj (hK _ _ (Qz (Q0 (Q3 (QZ ?_))))))); clear hK K; refine Z6 1 _ J (adrs_frozen _ _) noBor_sub (QU [_, _] rfl (Qu J (Qu J QQ)) (by rw [e]; rfl) J)
  · rw [if_neg (fun h => by rw [h.2] at h4; cases h4)] at e; refine Q1 (Qz (Qw (Qx fun K hK => ?_))); refine Qv J J J (Qv J J J (Qj (hK _ _ (Qz (Q0 ?_))))); clear hK K; refine Fin.asNil 4 1 J (QU [_, _] rfl (Qu J (Qu J QQ)) (by rw [e]; rfl) J)
end Go.Proofs.YtlkdkbdgnjcopaaGreat
