/- The proof that DelayNarrows holds for every input, without conditions: part 3 of 7. -/
import Derived.Test.YtojkdfilabmafaaGreatZ2
namespace Go.Limbs
def cmpI (a b : Int) : Int := if a < b then -1 else if b < a then 1 else 0
theorem cmpI_eq(a b:Int):cmpI a b=if a<b then -1 else if b<a then 1 else 0:=rfl
theorem YX{xs:List Int}(h:OKL xs)(i:Nat):0≤pre xs i∧pre xs i<BB ^ i:=by
  induction i with
  |zero=>rw [Zg];simp
  |succ i ih=>
    rw [X5];have:=h.get i;have hp:0<BB ^ i:=Int.pow_pos (by decide);obtain ⟨h1,h2⟩:=this;refine ⟨?_,?_⟩
    · have:=Int.mul_nonneg h1 (Int.le_of_lt hp);omega
    · have h3:xs.getD i 0*BB ^ i≤(BB - 1)*BB ^ i:=Int.mul_le_mul_of_nonneg_right (by omega) (Int.le_of_lt hp)
      have h4:BB ^ (i+1)=BB*BB ^ i:=by rw [Int.pow_succ,Int.mul_comm]
      rw [h4]
      have h5:(BB - 1)*BB ^ i=BB*BB ^ i - BB ^ i:=by rw [Int.sub_mul,Int.one_mul]
      omega
theorem pre_decides{xs ys:List Int}(hx:OKL xs)(hy:OKL ys){k:Nat}(h:xs.getD k 0<ys.getD k 0):pre xs (k+1)<pre ys (k+1):=by
  rw [X5,X5];have h1:=YX hx k;have h2:=YX hy k;have hp:0<BB ^ k:=Int.pow_pos (by decide);have h3:(xs.getD k 0+1)*BB ^ k≤ys.getD k 0*BB ^ k:=Int.mul_le_mul_of_nonneg_right (by omega) (Int.le_of_lt hp);rw [Int.add_mul,Int.one_mul] at h3;omega
theorem Xr{a b:Nat}(h:a≤b):(limbs a).length≤(limbs b).length:=Xn (Nat.lt_of_le_of_lt h (Xl (Nat.le_refl _)))
theorem lt_of_len{a b:Nat}(h:(limbs a).length<(limbs b).length):a<b:=by
  rcases Nat.lt_or_ge a b with h1|h1
  · exact h1
  · have:=Xr h1;omega
theorem val_eq_pre(n:Nat):pre (limbs n) (limbs n).length=n:=by rw [Zc (Nat.le_refl _),Xt]
def validL (xs : List Int) : Bool := xs.all (fun x => decide (0 ≤ x) && decide (x < BB)) && decide (xs.length ≤ 256) && (decide (xs.length = 0) || decide (xs.getD (xs.length - 1) 0 ≠ 0))
end Go.Limbs
namespace Go.Proofs.YtojkdfilabmafaaGreat
open Go.Own Go.Limbs
attribute [local irreducible] St Ops Go.Own.Fin Ok
theorem isNaN_ok(x:Int):Ok Tryz.prog 215 [intC x] (boolC false):=by
  refine Ok.enter Tryz.func215 J _ Tryz.ntmps215 J ?_
  intro S w;refine Qy (Qx fun K hK=> ?_);refine Qv J J J (Qj (hK _ _ ?_));refine Qz (Qy (Qx fun K hK=> ?_));refine Qq J J J (Qq J J J (Qk ineq J J J J (Qv J J J (Qj (hK _ _ ?_)))));refine Qz (Q4 ?_)
  have:decide (x≠x)=false:=by simp
  rw [this];refine Q1 [_] rfl (QX J QZ) J J
theorem goisNaN:InGo Tryz.prog 215:=InGo.of Tryz.func215 (by kernel_rfl) (by kernel_rfl)
theorem cmp_ok(x y:Int):Ok Tryz.prog 148 [intC x,intC y] (intC (cmpI x y)):=by
  refine Ok.enter Tryz.func148 J _ Tryz.ntmps148 J ?_
  intro S w;refine Qy (Qx fun K hK=> ?_);refine Qv J J J (Qj (hK _ _ ?_));refine Qz (Qy (Qx fun K hK=> ?_));refine Qq J J J (QV goisNaN (isNaN_ok x) J J J J (Qv J J J (Qj (hK _ _ ?_))));refine Qz (Qy (Qx fun K hK=> ?_));refine Qq J J J (QV goisNaN (isNaN_ok y) J J J J (Qv J J J (Qj (hK _ _ ?_))));refine Qz (Qy (Qy (Qx fun K hK=> ?_)));refine Qq J J J (Qj (hK _ _ ?_));refine Qz (Xy J (QW (Qz (Qy (Qy (Qx fun K hK=> ?_))))));refine Qq J J J (Qj (hK _ _ ?_));refine Qz (Xy J (QW (Qz (Qy (Qy (Qx fun K hK=> ?_))))));refine Qq J J J (Qq J J J (Qk ilss J J J J (Qj (hK _ _ ?_))));refine Qz (Q2 J (fun h=> ?_) (fun h=> ?_))
  · refine Qy (Qx fun K hK=> ?_);refine Qv J J J (Qj (hK _ _ ?_));refine Qz (Q4 (QY ?_));rw [cmpI_eq,if_pos h];refine Q1 [_] rfl (QX J QZ) J J
  · refine QW (Qz (Qy (Qy (Qx fun K hK=> ?_))));refine Qq J J J (Qq J J J (Qk igtr J J J J (Qj (hK _ _ ?_))));refine Qz (Q2 J (fun h2=> ?_) (fun h2=> ?_))
    · refine Qy (Qx fun K hK=> ?_);refine Qv J J J (Qj (hK _ _ ?_));refine Qz (Q4 (QY ?_));rw [cmpI_eq,if_neg h,if_pos h2];refine Q1 [_] rfl (QX J QZ) J J
    · refine QW (Qz (Qy (Qx fun K hK=> ?_)));refine Qv J J J (Qj (hK _ _ ?_));refine Qz (Q4 ?_);rw [cmpI_eq,if_neg h,if_neg h2];refine Q1 [_] rfl (QX J QZ) J J
theorem gocmp:InGo Tryz.prog 148:=InGo.of Tryz.func148 (by kernel_rfl) (by kernel_rfl)
set_option maxHeartbeats 2000000 in
theorem Compare_ok(a b:Nat)(ha:(limbs a).length<4611686018427387904)(hb:(limbs b).length<4611686018427387904):Ok Tryz.prog 247 [natC a,natC b] (intC (cmpI a b)):=by
  refine Ok.enter Tryz.func247 J _ Tryz.ntmps247 J ?_
  intro S w;refine Qy (Qx fun K hK=> ?_);refine Qv J J J (Qj (hK _ _ ?_));refine Qz (Qy (Qy (Qx fun K hK=> ?_)));refine Qq J J J (Qh J J sNat.und (List.length_map ..) J (Qq J J J (Qh J J sNat.und (List.length_map ..) J (QV gocmp (cmp_ok _ _) J J J J (Qv J J J (Qj (hK _ _ ?_)))))));refine Qz (Qy (Qx fun K hK=> ?_));refine Qq J J J (Qk ineq J J J J (Qj (hK _ _ ?_)));refine Qz (Q2 J (fun h=> ?_) (fun h=> ?_))
  · refine Qy (Qx fun K hK=> ?_);refine Qq J J J (Qv J J J (Qj (hK _ _ ?_)));refine Qz (Q4 (QY ?_))
    have e:cmpI ((limbs a).length:Int) ((limbs b).length:Int)=cmpI (a:Int) (b:Int):=by
      rcases Nat.lt_trichotomy (limbs a).length (limbs b).length with h1|h1|h1
      · have:=lt_of_len h1;rw [cmpI_eq,cmpI_eq,if_pos (by omega),if_pos (by omega)]
      · rw [h1] at h;simp [cmpI] at h
      · have:=lt_of_len h1;rw [cmpI_eq,cmpI_eq,if_neg (by omega),if_pos (by omega),if_neg (by omega),if_pos (by omega)]
    rw [e];refine Q1 [_] rfl (QX J QZ) J J
  · have hl:(limbs a).length=(limbs b).length:=by
      simp only [ne_eq,Classical.not_not] at h;unfold cmpI at h;split at h
      · cases h
      · split at h
        · cases h
        · omega
    clear h;refine QW (Qz (Qy (Qy (Qx fun K hK=> ?_))));refine Qq J J J (Qh J J sNat.und (List.length_map ..) J (Qk (isub (by omega) (by omega)) J J J J ?_));refine Qv J J J (Qj (hK _ _ ?_));refine Qz (Q3 ?_)
    refine Qs (α:=Nat) (fun k=>k≤(limbs a).length∧pre (limbs a) k - pre (limbs b) k=(a:Int) - b)
      (fun k=>[(0, .ct (natC a)),(1, .ct (natC b)),(6, .ct (intC ((k:Int) - 1)))]) (fun _=>[]) (fun k=>k) (limbs a).length ⟨Nat.le_refl _,?_⟩ (by exact Qu J ⟨rfl,rfl,rfl,trivial⟩) ?_
    · have e1:=val_eq_pre a;have e2:=val_eq_pre b;rw [←hl] at e2;rw [e1,e2]
    intro k ⟨hk,hv⟩;dsimp only;refine Qy (Qy (Qx fun K hK=> ?_));refine Qq J J J (Qk igeq J J J J (Qj (hK _ _ ?_)));refine Qz (Q2 J (fun h=> ?_) (fun h=> ?_))
    · obtain ⟨q,rfl⟩:∃q,k=q+1:=⟨k - 1,by omega⟩
      have e1:(((q+1:Nat):Int) - 1)=(q:Int):=by omega
      have e2:(q:Int).toNat=q:=Int.toNat_natCast q;rw [e1];refine QW (Qz (Qy (Q3 (Qy ?_))));refine XX mixed 9 (.p 0 (.p 1 (.p 2 (.p 4 (.p 5 (.p 6 (.f 3 (.f 7 (.p 8 .done))))))))) (by kernel_rfl) (fun K hK=> ?_);refine Qq J J J (Qq J J J (Xx J J J sNat (by omega) (Xs (by omega) (by omega)) J ?_));refine Qq J J J (Qq J J J (Xx J J J sNat (by omega) (Xs (by omega) (by omega)) J ?_));refine X1 J J J lInt J (X1 J J J lInt J (Qk ineq J J J J (Qj (hK _ _ ?_))));refine Qz (Q2 J (fun h2=> ?_) (fun h2=> ?_))
      · refine Qy (XX mixed 10 (.p 0 (.p 1 (.p 2 (.p 4 (.p 5 (.p 6 (.f 3 (.f 7 (.m 8 (.p 9 .done)))))))))) (by kernel_rfl) (fun K hK=> ?_));refine Qq J J J (Qq J J J (Xx J J J sNat (by omega) (Xs (by omega) (by omega)) J ?_));refine Qq J J J (Qq J J J (Xx J J J sNat (by omega) (Xs (by omega) (by omega)) J ?_));refine X1 J J J lInt J (X1 J J J lInt J (QV gocmp (cmp_ok _ _) J J J J ?_));rw [e2] at h2 ⊢
        have e:cmpI ((limbs a).getD q 0) ((limbs b).getD q 0)=cmpI (a:Int) (b:Int):=by
          rcases Int.lt_or_gt_of_ne h2 with h3|h3
          · have:=pre_decides (X2 a) (X2 b) h3;rw [cmpI_eq,cmpI_eq,if_pos h3,if_pos (by omega)]
          · have:=pre_decides (X2 b) (X2 a) h3;rw [cmpI_eq,cmpI_eq,if_neg (by omega),if_pos h3,if_neg (by omega),if_pos (by omega)]
        rw [e];refine Qv J J J (Qj (hK _ _ ?_));refine Qz (Q4 (Qb (QY (QY (Qb (QY ?_))))));refine Q1 [_] rfl (QX J QZ) J J
      · rw [e2] at h2;refine QW (Qz (Qx fun K hK=> ?_));refine Qq J J J (Qk (isub (by omega) (by omega)) J J J J ?_);refine Qv J J J (Qj (hK _ _ ?_));refine Q6 (Q9 q (by omega) ⟨by omega,?_⟩ (by exact Qu J ⟨rfl,rfl,rfl,trivial⟩));rw [X5,X5] at hv;have:(limbs a).getD q 0=(limbs b).getD q 0:=Classical.not_not.1 h2;rw [this] at hv;omega
    · refine Qm (Qz (Qy (Qx fun K hK=> ?_)));refine Qv J J J (Qj (hK _ _ ?_));refine Qz (Q4 ?_)
      have hk0:k=0:=by omega
      subst hk0;rw [Zg,Zg] at hv;rw [cmpI_eq,if_neg (by omega),if_neg (by omega)];refine Q1 [_] rfl (QX J QZ) J J
theorem goCompare:InGo Tryz.prog 247:=InGo.of Tryz.func247 (by kernel_rfl) (by kernel_rfl)
set_option maxHeartbeats 2000000 in
theorem From_ok(n:Nat)(hn:n<9223372036854775808):Ok Tryz.prog 245 [intC n] (.fr (tupT [natC n,intC 0])):=by
  refine Ok.enter Tryz.func245 J _ Tryz.ntmps245 J ?_
  intro S w;refine Qy (Qx fun K hK=> ?_);refine Qv J J J (Qv J J J (Qj (hK _ _ ?_)));refine Qz (Qy (Qy (Qx fun K hK=> ?_)));refine Qq J J J (Qk ilss J J J J (Qj (hK _ _ ?_)));refine Qz (Xy J (QW (Qz (Qy (Qx fun K hK=> ?_)))));refine Qv J J J (Qj (hK _ _ ?_));refine Qz (Qy (Q3 ?_))
  refine YV 4 0 3 1 J J J ?_
  refine Qs (α:=Nat × List Int) (fun s=>s.1≤n∧limbs n=s.2++limbs s.1)
    (fun s=>[(0, .ct (intC s.1)),(4, .own 0)]) (fun s=>[(0, .row 3 1 (ints s.2))]) (fun s=>s.1) (n,[]) ⟨Nat.le_refl _,rfl⟩ (by exact Qu J ⟨rfl,rfl,trivial⟩) ?_
  rintro ⟨m,zs⟩ ⟨hm,hv⟩
  dsimp only at hm hv ⊢
  have hl:zs.length≤64:=by
    have h1:=congrArg List.length hv;have h2:=Xn (n:=n) (k:=3) (by omega);simp at h1;omega
  refine Qy (Qy (Qx fun K hK=> ?_));refine Qq J J J (Qk igtr J J J J (Qj (hK _ _ ?_)));refine Qz (Q2 J (fun h=> ?_) (fun h=> ?_))
  · refine QW (Qz (Qy (Q3 (Qx fun K hK=> ?_))));refine Qq J J J (Qq J J J (Qk iand30 J J J J (Xh J J sNat J J J (Qt zs.length (ints (zs++ [(m:Int)%1073741824])) J J J J sNat (by simp) J (by omega) (by omega) (by simp [ints]) J ?_))));refine Qv J J J (Qj (hK _ _ ?_));refine Qz (Qx fun K hK=> ?_);refine Qq J J J (Qk ishr30 J J J J (Qv J J J (Qj (hK _ _ ?_))));refine Q6 (Q9 (m/1073741824,zs++ [(m:Int)%1073741824]) (by dsimp only;omega) ⟨by dsimp only;omega,?_⟩ ?_)
    all_goals dsimp only
    · rw [hv,limbs_pos (n:=m) (by omega)];simp
    · exact Qu J ⟨by rw [Int.natCast_ediv];rfl,rfl,trivial⟩
  · have:m=0:=by omega
    subst this;rw [limbs_zero,List.append_nil] at hv;subst hv;refine Y8 0 _ J (Zy _ _) noBor_sub (Qm (Qz (Qy (Qx fun K hK=> ?_))));refine Qq J J J (Qv J J J (Qv J J J (Qj (hK _ _ ?_))));refine Qz (Q4 ?_);refine Q1 [_,_] rfl (QX J (QX J QZ)) J J
theorem goFrom:InGo Tryz.prog 245:=InGo.of Tryz.func245 (by kernel_rfl) (by kernel_rfl)
end Go.Proofs.YtojkdfilabmafaaGreat
namespace Go.Limbs
theorem val_set{xs:List Int}{p:Nat}(h:p<xs.length)(v:Int):val (xs.set p v)=val xs+(v - xs.getD p 0)*BB ^ p:=by
  induction xs generalizing p with
  |nil=>simp at h
  |cons x xs ih=>
    cases p with
    |zero=>simp [val];omega
    |succ p=>
      have:=ih (p:=p) (by simpa using h);simp only [List.set_cons_succ,val,this,List.getD_cons_succ,Int.pow_succ]
      grind
theorem getD_set{xs:List Int}{p j:Nat}(h:p<xs.length)(v:Int):(xs.set p v).getD j 0=if p=j then v else xs.getD j 0:=by
  simp only [List.getD_eq_getElem?_getD,List.getElem?_set];by_cases hp:p=j
  · subst hp;simp [h]
  · simp [hp]
theorem mul_bd{x y:Int}(hx:0≤x∧x<BB)(hy:0≤y∧y<BB):0≤x*y∧x*y≤1152921502459363329:=by
  simp only [BB] at hx hy;refine ⟨Int.mul_nonneg hx.1 hy.1,?_⟩;have h1:x*y≤1073741823*1073741823:=Int.mul_le_mul (by omega) (by omega) hy.1 (by omega);omega
theorem val_of_zeros{xs:List Int}{p:Nat}(h:∀j,p≤j→xs.getD j 0=0):val xs=pre xs p:=by
  have key:∀n,pre xs (p+n)=pre xs p:=by
    intro n
    induction n with
    |zero=>rfl
    |succ n ih=>rw [show p+(n+1)=(p+n)+1 by omega,X5,ih,h (p+n) (by omega)];simp
  rw [←key xs.length,Zc (by omega)]
theorem limbs_mul_len{a b:Nat}:(limbs (a*b)).length≤(limbs a).length+(limbs b).length:=by
  apply Xn
  rw [Nat.pow_add];exact Nat.mul_lt_mul'' (Xl (Nat.le_refl _)) (Xl (Nat.le_refl _))
end Go.Limbs
namespace Go.Proofs.YtojkdfilabmafaaGreat
open Go.Own Go.Limbs
attribute [local irreducible] St Ops Go.Own.Fin Ok
theorem top_step{A:List Int}{i:Nat}{vo rest b:Int}(hv:vo*b+rest*BB ^ (i+1)=val A - pre A (i+1)):
    (vo+(rest*1073741824+A.getD i 0)/b*BB ^ i)*b+(rest*1073741824+A.getD i 0)%b*BB ^ i=val A - pre A i:=by
  rw [X5,Int.pow_succ] at hv;have e:=Int.mul_ediv_add_emod (rest*1073741824+A.getD i 0) b;simp only [BB] at*;generalize (rest*1073741824+A.getD i 0)/b=q at*;generalize (rest*1073741824+A.getD i 0)%b=m at*
  grind
set_option maxHeartbeats 2000000 in
theorem small_ok(a:Nat)(b:Int)(hb:0<b)(hb2:b<BB)(hl:(limbs a).length≤256):Ok Tryz.prog 281 [natC a,intC b] (.fr (tupT [natC ((a:Int)/b).toNat,intC ((a:Int)%b)])):=by
  simp only [BB] at hb2
  refine Ok.enter Tryz.func281 J _ Tryz.ntmps281 J ?_
  intro S w;refine Qy (Qx fun K hK=> ?_);refine Qv J J J (Qv J J J (Qj (hK _ _ ?_)));refine Qz (Qy (Qx fun K hK=> ?_));refine Qq J J J (Qh J J sNat.und (List.length_map ..) J (Zp 0 (limbs a).length J J J J sNat (by omega) (by omega) J J J ?_));rw [ints_made];refine Qv J J J (Qj (hK _ _ ?_));refine Qz (Qy (Qx fun K hK=> ?_));refine Qv J J J (Qj (hK _ _ ?_));refine Qz (Qy (Qy (Qx fun K hK=> ?_)));refine Qq J J J (Qh J J sNat.und (List.length_map ..) J (Qk (isub (by omega) (by omega)) J J J J ?_));refine Qv J J J (Qj (hK _ _ ?_));refine Qz (Q3 ?_)
  refine Qs (α:=Nat × List Int × Int) (fun s=>s.1≤(limbs a).length∧s.2.1.length=(limbs a).length∧OKL s.2.1∧(∀j,j<s.1→s.2.1.getD j 0=0)∧0≤s.2.2∧s.2.2<b∧val s.2.1*b+s.2.2*BB ^ s.1=val (limbs a) - pre (limbs a) s.1)
    (fun s=>[(0, .ct (natC a)),(1, .ct (intC b)),(6, .own 0),(7, .ct (intC s.2.2)),(8, .ct (intC ((s.1:Int) - 1)))])
    (fun s=>[(0, .row 3 1 (ints s.2.1))]) (fun s=>s.1) ((limbs a).length,List.replicate (limbs a).length 0,0) ⟨Nat.le_refl _,by simp,OKL.zeros _,?_,Int.le_refl _,hb,?_⟩ (by exact Qu J ⟨rfl,rfl,rfl,rfl,rfl,trivial⟩) ?_
  · intro j _;simp [List.getD_eq_getElem?_getD,List.getElem?_replicate];split <;>rfl
  · dsimp only;rw [val_zeros,Zc (Nat.le_refl _)];simp
  rintro ⟨q,zs,rest⟩ ⟨hq,hzl,hok,hz,hr0,hr1,hv⟩
  dsimp only at hq hzl hok hz hr0 hr1 hv ⊢;refine Qy (Qy (Qx fun K hK=> ?_));refine Qq J J J (Qk igeq J J J J (Qj (hK _ _ ?_)));refine Qz (Q2 J (fun h=> ?_) (fun h=> ?_))
  · obtain ⟨i,rfl⟩:∃i,q=i+1:=⟨q - 1,by omega⟩
    have e1:(((i+1:Nat):Int) - 1)=(i:Int):=by omega
    have e2:(i:Int).toNat=i:=Int.toNat_natCast i
    have e3:(i:Int).toNat*1=i:=by omega
    have bx:=(X2 a).get i;simp only [BB] at bx;rw [e1];refine QW (Qz (Qy (Q3 (Qy (Qx fun K hK=> ?_)))));refine Qq J J J (Qk (ishl30 (by omega) (by omega)) J J J J ?_);refine Qq J J J (Qq J J J (Xx J J J sNat (by omega) (Xs (by omega) (by omega)) J ?_))
    refine X1 J J J lInt J ?_
    rw [e2]
    refine Qk (ior30 (by omega) (by omega) (by omega) (by omega)) J J J J ?_
    refine Qv J J J (Qj (hK _ _ ?_));refine Qz (XX mixed 9 (.p 0 (.p 1 (.p 2 (.p 3 (.p 4 (.p 5 (.p 6 (.p 7 (.p 8 (.a 9 (.p 10 .done))))))))))) (by kernel_rfl) (fun K hK=> ?_));refine Qq J J J (Qq J J J (Qq J J J (Qq J J J (Qk (iquo (by omega) (by omega) (by omega)) J J J J ?_))));refine Qq J J J (Qq J J J (Qk (irem (by omega) (by omega)) J J J J ?_));skip
    refine XJ (limbs a).length J J J (by simp;omega) J sNat (by omega) (by omega) J ?_
    rw [e3]
    refine Xj J J J J J zInt (by simp [Ent.cs];omega) ?_
    simp only [Ent.setc,ZX];refine Qv J J J (Qj (hK _ _ ?_));refine Qz (Qx fun K hK=> ?_);refine Qq J J J (Qk (isub (by omega) (by omega)) J J J J ?_);refine Qv J J J (Qj (hK _ _ ?_))
    refine Q6 ?_
    have d1:0≤(rest*1073741824+(limbs a).getD i 0)/b:=Int.ediv_nonneg (by omega) (by omega)
    have d2:(rest*1073741824+(limbs a).getD i 0)/b<1073741824:=by
      apply Int.ediv_lt_of_lt_mul hb
      have:(rest+1)*1073741824≤b*1073741824:=Int.mul_le_mul_of_nonneg_right (by omega) (by decide);rw [Int.mul_comm 1073741824 b];omega
    have d3:=Int.emod_nonneg (rest*1073741824+(limbs a).getD i 0) (b:=b) (by omega);have d4:=Int.emod_lt_of_pos (rest*1073741824+(limbs a).getD i 0) hb;refine Q9 (i,zs.set i ((rest*1073741824+(limbs a).getD i 0)/b),(rest*1073741824+(limbs a).getD i 0)%b) (by dsimp only;omega) ⟨by dsimp only;omega,by simp [hzl],?_,?_,d3,d4,?_⟩ (by exact Qu J ⟨rfl,rfl,rfl,rfl,rfl,trivial⟩)
    all_goals dsimp only
    · exact hok.set _ (by simp only [BB];omega)
    · intro j hj;rw [getD_set (by omega),if_neg (by omega)];exact hz j (by omega)
    · rw [val_set (by omega),hz i (by omega),Int.sub_zero];exact top_step hv
  · have hq0:q=0:=by omega
    subst hq0
    have e4:val zs*b+rest=a:=by rw [Zg,Xt] at hv;simpa using hv
    have e5:(a:Int)/b=val zs∧(a:Int)%b=rest:=by
      rw [←e4];constructor
      · rw [Int.add_comm,Int.add_mul_ediv_right _ _ (by omega),Int.ediv_eq_zero_of_lt hr0 hr1];omega
      · rw [Int.add_comm,Int.add_mul_emod_self_right,Int.emod_eq_of_lt hr0 hr1]
    rw [e5.1,e5.2];refine Qm (Qz (Qy (Qx fun K hK=> ?_)));refine Qq J J J (ZY 0 _ J (Zy _ _) noBor_sub (QV gotrim (trim_ok _ (by omega)) J J J J ?_));rw [Za hok];refine Qq J J J (Qv J J J (Qv J J J (Qj (hK _ _ ?_))));refine Qz (Q4 ?_);refine Q1 [_,_] rfl (QX J (QX J QZ)) J J
theorem gosmall:InGo Tryz.prog 281:=InGo.of Tryz.func281 (by kernel_rfl) (by kernel_rfl)
theorem ints_ones(xs:List Int):ones (xs.map intC)=true:=by
  induction xs with
  |nil=>rfl
  |cons x xs ih=>simp [ones,CT.one,Value.oneCell',ih]
theorem Clone_ok(xs:List Int)(hl:xs.length≤1000000):Ok Tryz.prog 211 [intsC xs] (intsC xs):=by
  refine Ok.enter Tryz.func211 J _ Tryz.ntmps211 J ?_
  intro S w;refine Qy (Qx fun K hK=> ?_);refine Qv J J J (Qj (hK _ _ ?_));refine Qz (Qy (Qy (Qx fun K hK=> ?_)));refine Qq J J J (Ops.eqNil J J sNat.und J (fun b hb=> ?_));refine Qj (hK _ _ ?_);refine Qz (X6 J (fun h=> ?_) (fun h=> ?_))
  · have h0:=hb h
    have:xs=[]:=by simpa using h0
    subst this;refine Qy (Qx fun K hK=> ?_);refine Qv J J J (Qj (hK _ _ ?_));refine Qz (Q4 (QY ?_));refine Q1 [_] rfl (AllRes.nilS 1 J QZ) J J
  · clear hb h;refine QW (Qz (Qy (Qx fun K hK=> ?_)));refine Ops.lit0E 0 J J J sNat J J J (Qq J J J (Ops.append 0 (ints xs) J J J J sNat J ?_ (by simp;omega) (by simp;omega) ?_ J ?_))
    · rw [flat_one];exact ints_ones xs
    · rw [flat_one];rfl
    refine Qv J J J (Qj (hK _ _ ?_));refine Qz (Q4 ?_);refine Y4 0 _ J (Zy _ _) noBor_sub (Q1 [_] rfl (QX J QZ) J J)
theorem goClone:InGo Tryz.prog 211:=InGo.of Tryz.func211 (by kernel_rfl) (by kernel_rfl)
theorem natC_zero:natC 0=intsC []:=by show intsC (limbs 0)=intsC [];rw [limbs_zero]
theorem limbs_one{b:Nat}(h0:0<b)(h:b<1073741824):limbs b=[(b:Int)]:=by
  rw [limbs_pos (by omega),Nat.mod_eq_of_lt h,Nat.div_eq_of_lt h,limbs_zero]
set_option maxHeartbeats 2000000 in
theorem DivMod_small(a b:Nat)(h0:0<b)(hb:b<1073741824)(hl:(limbs a).length≤256):Ok Tryz.prog 254 [natC a,natC b] (.fr (tupT [natC (a/b),natC (a%b),intC 0])):=by
  have hlb:(limbs b).length=1:=by rw [limbs_one h0 hb];rfl
  refine Ok.enter Tryz.func254 J _ Tryz.ntmps254 J ?_
  intro S w;refine Qy (Qx fun K hK=> ?_);refine Qv J J J (Qv J J J (Qv J J J (Qj (hK _ _ ?_))));refine Qz (Qy (Qx fun K hK=> ?_));refine Qq J J J (QV gotrim (trim_ok _ (by omega)) J J J J ?_);rw [trim_of_limbs];refine Qv J J J (Qj (hK _ _ ?_));refine Qz (Qy (Qx fun K hK=> ?_));refine Qq J J J (Qh J J sNat.und (List.length_map ..) J (Qv J J J (Qj (hK _ _ ?_))));refine Qz (Qy (Q3 (Qy (Qx fun K hK=> ?_))));refine Qq J J J (Qk ieql J J J J (Qv J J J (Qj (hK _ _ ?_))));refine Qz (Q2 J (fun h=> ?_) (fun h=> ?_))
  · omega
  clear h;refine Qy (Qx fun K hK=> ?_);refine Qq J J J (Qq J J J (QV goCompare (Compare_ok a b (by omega) (by omega)) J J J J ?_));refine Qk ilss J J J J (Qv J J J (Qj (hK _ _ ?_)));refine Qz (Q2 J (fun h=> ?_) (fun h=> ?_))
  · have hlt:a<b:=by
      rw [cmpI_eq] at h;split at h
      · omega
      · split at h <;>omega
    refine Qy (Qx fun K hK=> ?_);refine Qq J J J (QV goClone (Clone_ok _ (by omega)) J J J J ?_);refine Qv J J J (Qv J J J (Qv J J J (Qj (hK _ _ ?_))));refine Qz (Q4 (Qb (QY ?_)));rw [Nat.div_eq_of_lt hlt,Nat.mod_eq_of_lt hlt,natC_zero];refine Q1 [_,_,_] rfl (AllRes.nilS 1 J (QX J (QX J QZ))) J J
  clear h;refine Qy (Qx fun K hK=> ?_);refine Qq J J J (Qk ieql J J J J (Qv J J J (Qj (hK _ _ ?_))));refine Qz (Q2 J (fun h=> ?_) (fun h=> ?_))
  · have e0:(limbs b).getD (0:Int).toNat 0=b:=by rw [limbs_one h0 hb];rfl
    refine Qy (Qx fun K hK=> ?_);refine Qq J J J (Qq J J J (Xx J J J sNat (by omega) (Xs (by omega) (by omega)) J ?_))
    refine X1 J J J lInt J ?_
    rw [e0]
    refine QV gosmall (small_ok a b (by omega) (by simp only [BB];omega) hl) J J J J ?_
    have e1:((a:Int)/(b:Int)).toNat=a/b:=by rw [←Int.natCast_ediv,Int.toNat_natCast]
    rw [e1];refine Qq J J J (QK J J J J (QK J J J J (Qv J J J (Qv J J J (Qj (hK _ _ ?_))))));refine Qz (Qy (Qx fun K hK=> ?_));refine Qq J J J (Qq J J J (Xh J J sNat J J J (QV gotrim (trim_ok [(a:Int)%b] (by simp)) J J J J ?_)))
    have e2:trimL [(a:Int)%b]=limbs (a%b):=by
      have hm:=Nat.mod_lt a h0;rw [Za (OKL.cons (by simp only [BB];omega) OKL.nil)];simp only [val];congr 1
    rw [e2];refine Qv J J J (Qv J J J (Qv J J J (Qj (hK _ _ ?_))));refine Qz (Q4 (Qb (QY ?_)));refine Q1 [_,_,_] rfl (QX J (QX J (QX J QZ))) J J
  · omega
theorem goDivMod:InGo Tryz.prog 254:=InGo.of Tryz.func254 (by kernel_rfl) (by kernel_rfl)
theorem goGcd:InGo Tryz.prog 279:=InGo.of Tryz.func279 (by kernel_rfl) (by kernel_rfl)
end Go.Proofs.YtojkdfilabmafaaGreat
namespace Go.Own
open Go.RowKit
variable {X : Ctx} {L : AL} {B : BL} {ops : Array Oper} {K : Act → World → Prop} {r : Pl} {k : Kd}
  {x y z : Operand} {d : Nat} {t t2 t' : TypeId} {pos : String} {af : Array Edge} {g : Option (Nat × Bool)}
theorem ishl{p j:Int}{kk:IntKind}(n:Nat)(hj:j=(n:Int))(hn:n≤64)(h1: -9223372036854775808≤p*2 ^ n)(h2:p*2 ^ n≤9223372036854775807):IBin .shl .i64 p kk j (.int .i64 (p*2 ^ n)):= .of fun P t w=>by
  show (Op.shift .shl .i64 p kk j).run P w=_
  have e:(Op.shift .shl .i64 p kk j)=pure (.int .i64 (IntKind.i64.wrap (p*2 ^ n))):=by
    unfold Op.shift;rw [if_neg (by omega)]
    have:min j.toNat IntKind.i64.bits=n:=by show min j.toNat 64=n;omega
    simp only [this]
  rw [e,Z2 h1 h2];rfl
theorem ishr{p j:Int}{kk:IntKind}(n:Nat)(hj:j=(n:Int))(hn:n≤64):IBin .shr .i64 p kk j (.int .i64 (p/2 ^ n)):= .of fun P t w=>by
  show (Op.shift .shr .i64 p kk j).run P w=_
  have e:(Op.shift .shr .i64 p kk j)=pure (.int .i64 (p.fdiv (2 ^ n))):=by
    unfold Op.shift;rw [if_neg (by omega)]
    have:min j.toNat IntKind.i64.bits=n:=by show min j.toNat 64=n;omega
    simp only [this]
  rw [e,Int.fdiv_eq_ediv_of_nonneg _ (Int.le_of_lt (Int.pow_pos (by decide)))];rfl
theorem ushr{p j:Int}{kk:IntKind}(n:Nat)(hj:j=(n:Int))(hn:n≤64):IBin .shr .u64 p kk j (.int .u64 (p/2 ^ n)):= .of fun P t w=>by
  show (Op.shift .shr .u64 p kk j).run P w=_
  have e:(Op.shift .shr .u64 p kk j)=pure (.int .u64 (p.fdiv (2 ^ n))):=by
    unfold Op.shift;rw [if_neg (by omega)]
    have:min j.toNat IntKind.u64.bits=n:=by show min j.toNat 64=n;omega
    simp only [this]
  rw [e,Int.fdiv_eq_ediv_of_nonneg _ (Int.le_of_lt (Int.pow_pos (by decide)))];rfl
theorem ior_add{p q:Int}(n:Nat)(m:Nat)(hp0:0≤p)(hp:p<2 ^ n)(hq:q=(m:Int)*2 ^ n)(hs:p+q≤9223372036854775807):IBin .or .i64 p .i64 q (.int .i64 (p+q)):= .of fun P t w=>by
  have hq0:0≤q:=by rw [hq];exact Int.mul_nonneg (by omega) (Int.le_of_lt (Int.pow_pos (by decide)))
  show (Op.intBits .or .i64 p q).run P w=_
  have e1:(BitVec.ofInt 64 p|||BitVec.ofInt 64 q).toNat=(p+q).toNat:=by
    rw [BitVec.toNat_or,BitVec.toNat_ofInt,BitVec.toNat_ofInt]
    have a1:(p%((2 ^ 64:Nat):Int)).toNat=p.toNat:=by omega
    have a2:(q%((2 ^ 64:Nat):Int)).toNat=q.toNat:=by omega
    rw [a1,a2]
    have hqn:q.toNat=2 ^ n*m:=by
      rw [hq,show (2:Int) ^ n=((2 ^ n:Nat):Int) by rw [Int.natCast_pow];rfl,←Int.natCast_mul,Int.toNat_natCast,Nat.mul_comm]
    have hpn:p.toNat<2 ^ n:=by
      have:(p.toNat:Int)<((2 ^ n:Nat):Int):=by rw [show ((2 ^ n:Nat):Int)=(2:Int) ^ n by rw [Int.natCast_pow];rfl];omega
      omega
    rw [hqn,Nat.or_comm,←Nat.two_pow_add_eq_or_of_lt hpn];omega
  have h2:((p+q).toNat:Int)=p+q:=by omega
  show (pure (Value.int .i64 (IntKind.i64.wrap ((BitVec.ofInt 64 p|||BitVec.ofInt 64 q).toNat:Int))):Sem Value).run P w=_;rw [e1,h2,Z2 (n:=p+q) (by omega) (by omega)];rfl
def bl (n : Nat) : Nat := if n = 0 then 0 else Nat.log2 n + 1
def tabOk (s : ByteArray) : Bool := (List.range 256).all fun n => s[n]? == some (UInt8.ofNat (bl n))
theorem bl_lt{n:Nat}(h:n<256):bl n<9:=by
  unfold bl;split
  · decide
  · rename_i h0
    have:Nat.log2 n<8:=(Nat.log2_lt h0).2 (by omega);omega
theorem bl_spec(n:Nat):n<2 ^ bl n:=by
  unfold bl;split
  · rename_i h;subst h;decide
  · exact Nat.lt_log2_self
theorem tab_at{s:ByteArray}(hs:tabOk s=true){n:Nat}(h:n<256):s[n]? =some (UInt8.ofNat (bl n)):=by
  unfold tabOk at hs;rw [List.all_eq_true] at hs;exact eq_of_beq (hs n (List.mem_range.2 h))
theorem Ops.idxTab{s:ByteArray}{kk:IntKind}{j:Int}(m:Nat)(hg:gd ops L g=some true)(hx:ev L x=some (.ct (.ex (.string s))))(hy:ev L y=some (.ct (.ex (.int kk j))))(hu:X.P.underlying t=some .string)(hj:j=(m:Int))(hm:m<256)(hs:tabOk s=true)(hn:Nat.blt d X.n=true)
    (h:Ops X ops r ((d, .ct (.ex (.int .u8 (bl m))))::L) B K):Ops X ops (.cons ⟨some d, .index t x y,t',pos,af,g⟩ k r) L B K:=by
  refine Ops.idxS (b:=UInt8.ofNat (bl m)) hg hx hy hu (by omega) (by subst hj;exact tab_at hs hm) hn ?_
  have:((UInt8.ofNat (bl m)).toNat:Int)=(bl m:Int):=by
    have:=bl_lt hm;rw [UInt8.toNat_ofNat'];omega
  rw [this];exact h
end Go.Own
namespace Go.Limbs
def gs (h n t l s : Int) : Int := min 1073741823 ((h * 1073741824 * 1073741824 + n * 1073741824 + t) / (l * 1073741824 + s))
theorem gs_step{h n t l s q r:Int}(hl:0<l)(hs:0≤s)(hv:q*l+r=h*1073741824+n)(hg:gs h n t l s≤q)
    (hc:1073741824≤q∨r*1073741824+t<q*s):gs h n t l s≤q - 1:=by
  unfold gs at*;rcases hc with hc|hc
  · omega
  · have hV:0<l*1073741824+s:=by omega
    have e:q*(l*1073741824+s)=(q*l)*1073741824+q*s:=by grind
    have:(h*1073741824*1073741824+n*1073741824+t)/(l*1073741824+s)<q:=by
      apply Int.ediv_lt_of_lt_mul hV
      rw [e]
      have:q*l=h*1073741824+n - r:=by omega
      rw [this];omega
    omega
theorem gs_exit{h n t l s q r:Int}(hl:0<l)(hh:h≤l)(hn:n<1073741824)(ht:0≤t)(hs:0≤s)(hs2:s<1073741824)(hq:0≤q)(hv:q*l+r=h*1073741824+n)(hg:gs h n t l s≤q)
    (hc:¬(r<1073741824∧(1073741824≤q∨r*1073741824+t<q*s))):q=gs h n t l s:=by
  have hV:0<l*1073741824+s:=by omega
  have e:q*(l*1073741824+s)=(q*l)*1073741824+q*s:=by grind
  have e2:q*l=h*1073741824+n - r:=by omega
  have key:q≤1073741823∧q*(l*1073741824+s)≤h*1073741824*1073741824+n*1073741824+t:=by
    by_cases hr:r<1073741824
    · have:¬1073741824≤q∧¬r*1073741824+t<q*s:=⟨fun h=>hc ⟨hr, .inl h⟩,fun h=>hc ⟨hr, .inr h⟩⟩;refine ⟨by omega,?_⟩;rw [e,e2];omega
    · have hq2:q≤1073741823:=by
        by_cases h1:q<1073741824
        · omega
        · have:1073741824*l≤q*l:=Int.mul_le_mul_of_nonneg_right (by omega) (by omega);omega
      refine ⟨hq2,?_⟩;have:q*s≤1073741823*1073741823:=Int.mul_le_mul hq2 (by omega) hs (by omega);rw [e,e2];omega
  have:q≤(h*1073741824*1073741824+n*1073741824+t)/(l*1073741824+s):=(Int.le_ediv_iff_mul_le hV).2 key.2;unfold gs at*;omega
theorem gs_good{P h n t l s a b:Int}(hP:0<P)(ha:0≤a∧a<P)(hb:0≤b∧b<P)(hl:0<l)(hs:0≤s)(hh:0≤h)(hn:0≤n)(ht:0≤t)
    (hU:(h*1073741824*1073741824+n*1073741824+t)*P+a<((l*1073741824+s)*P+b)*1073741824):
    0≤gs h n t l s∧gs h n t l s≤1073741823∧(gs h n t l s - 1)*((l*1073741824+s)*P+b)≤(h*1073741824*1073741824+n*1073741824+t)*P+a∧
      (h*1073741824*1073741824+n*1073741824+t)*P+a<(gs h n t l s+1)*((l*1073741824+s)*P+b):=by
  have hV:0<l*1073741824+s:=by omega
  have hV1:1073741824≤l*1073741824+s:=by omega
  have hU0:0≤h*1073741824*1073741824+n*1073741824+t:=by omega
  unfold gs;generalize h*1073741824*1073741824+n*1073741824+t=U3 at*;generalize l*1073741824+s=V2 at*;have d0:0≤U3/V2:=Int.ediv_nonneg hU0 (by omega);have d1:U3/V2*V2≤U3:=Int.ediv_mul_le _ (by omega);have d2:U3<(U3/V2+1)*V2:=Int.lt_ediv_add_one_mul_self _ hV;generalize U3/V2=D at*;have hVP:0≤V2*P:=Int.mul_nonneg (by omega) (by omega);refine ⟨by omega,by omega,?_,?_⟩
  · have hg:min 1073741823 D≤D:=by omega
    have hg0:0≤min 1073741823 D:=by omega
    have hg1:min 1073741823 D≤1073741823:=by omega
    generalize min 1073741823 D=G at*;have f1:G*V2≤D*V2:=Int.mul_le_mul_of_nonneg_right hg (by omega);have f2:(G*V2)*P≤U3*P:=Int.mul_le_mul_of_nonneg_right (by omega) (by omega);have f3:G*b≤G*P:=Int.mul_le_mul_of_nonneg_left (by omega) hg0;have f4:G*P≤V2*P:=Int.mul_le_mul_of_nonneg_right (by omega) (by omega)
    have f5:(G - 1)*(V2*P+b)=(G*V2)*P+G*b - V2*P - b:=by grind
    rw [f5];omega
  · by_cases hD:D<1073741823
    · have:min 1073741823 D=D:=by omega
      rw [this];have f1:(U3+1)*P≤((D+1)*V2)*P:=Int.mul_le_mul_of_nonneg_right (by omega) (by omega)
      have f2:(D+1)*(V2*P+b)=((D+1)*V2)*P+(D+1)*b:=by grind
      have f3:0≤(D+1)*b:=Int.mul_nonneg (by omega) hb.1;rw [f2]
      have f4:(U3+1)*P=U3*P+P:=by grind
      omega
    · have:min 1073741823 D=1073741823:=by omega
      rw [this];omega
theorem pre_drop(xs:List Int)(j i:Nat):pre xs (j+i)=pre xs j+BB ^ j*pre (xs.drop j) i:=by
  induction i with
  |zero=>rw [Zg];simp
  |succ i ih=>
    rw [show j+(i+1)=(j+i)+1 by omega,X5,ih,X5]
    have:(xs.drop j).getD i 0=xs.getD (j+i) 0:=by simp [List.getD_eq_getElem?_getD,List.getElem?_drop]
    rw [this,Int.pow_add];grind
theorem getD_ge{xs:List Int}{i:Nat}(h:xs.length≤i):xs.getD i 0=0:=by rw [List.getD_eq_getElem?_getD,List.getElem?_eq_none h];rfl
theorem zero_above{xs:List Int}(h:OKL xs){k:Nat}(hv:val xs<BB ^ k)(j:Nat)(hj:k≤j):xs.getD j 0=0:=by
  rcases Nat.lt_or_ge j xs.length with hl|hl
  · have h1:val xs=pre xs xs.length:=(Zc (Nat.le_refl _)).symm;obtain ⟨d,hd⟩:∃d,xs.length=(j+1)+d:=⟨xs.length - (j+1),by omega⟩;rw [hd,pre_drop,X5] at h1;have b1:=YX h j;have b2:=YX (h.drop (j+1)) d;have b3:=h.get j;have p1:0≤BB ^ (j+1)*pre (xs.drop (j+1)) d:=Int.mul_nonneg (Int.le_of_lt (Int.pow_pos (by decide))) b2.1
    have p2:BB ^ k≤BB ^ j:=by
      obtain ⟨m,rfl⟩:∃m,j=k+m:=⟨j - k,by omega⟩;rw [Int.pow_add];have q1:(1:Int)≤BB ^ m:=Int.pow_pos (by decide);have q2:(0:Int)≤BB ^ k:=Int.le_of_lt (Int.pow_pos (by decide));have:=Int.mul_le_mul_of_nonneg_left q1 q2;omega
    by_cases h0:0<xs.getD j 0
    · have p3:1*BB ^ j≤xs.getD j 0*BB ^ j:=Int.mul_le_mul_of_nonneg_right h0 (Int.le_of_lt (Int.pow_pos (by decide)));omega
    · omega
  · exact getD_ge hl
theorem val_pre_of{xs:List Int}(h:OKL xs){k:Nat}(hv:val xs<BB ^ k):val xs=pre xs k:=val_of_zeros (fun j hj=>zero_above h hv j hj)
def shrL (by' : Nat) : List Int → List Int
  | [] => []
  | x :: xs => ((xs.getD 0 0 * 1073741824 + x) / 2 ^ by') % 1073741824 :: shrL by' xs
theorem shrL_len(k:Nat)(xs:List Int):(shrL k xs).length=xs.length:=by
  induction xs with
  |nil=>rfl
  |cons x xs ih=>simp [shrL,ih]
theorem shrL_get(k:Nat)(xs:List Int)(i:Nat)(h:i<xs.length):(shrL k xs).getD i 0=((xs.getD (i+1) 0*1073741824+xs.getD i 0)/2 ^ k)%1073741824:=by
  induction xs generalizing i with
  |nil=>simp at h
  |cons x xs ih=>
    cases i with
    |zero=>simp [shrL]
    |succ i=>simp only [shrL,List.getD_cons_succ];exact ih i (by simpa using h)
theorem shrL_ok(k:Nat)(xs:List Int):OKL (shrL k xs):=by
  induction xs with
  |nil=>exact OKL.nil
  |cons x xs ih=>exact OKL.cons (by simp only [BB];omega) ih
theorem two_split{k:Nat}(hk:k≤30):(1073741824:Int)=2 ^ k*2 ^ (30 - k):=by
  rw [←Int.pow_add,show k+(30 - k)=30 by omega];rfl
theorem ediv_mod_B{k:Nat}(hk:k≤30)(x y z:Int):((x+1073741824*(y+1073741824*z))/2 ^ k)%1073741824=((y*1073741824+x)/2 ^ k)%1073741824:=by
  have e:=two_split hk
  have hp:(2:Int) ^ k≠0:=by have:(0:Int)<2 ^ k:=Int.pow_pos (by decide);omega
  have:x+1073741824*(y+1073741824*z)=(y*1073741824+x)+(2 ^ (30 - k)*z*1073741824)*2 ^ k:=by
    have:(1073741824:Int)*(1073741824*z)=(2 ^ (30 - k)*z*1073741824)*2 ^ k:=by
      conv=>lhs;rw [e]
      grind
    grind
  rw [this,Int.add_mul_ediv_right _ _ hp,Int.add_mul_emod_self_right]
theorem val_shrL{k:Nat}(hk:k≤30):∀(xs:List Int),OKL xs→val (shrL k xs)=val xs/2 ^ k
  | [],_=>by simp [shrL,val]
  |x::xs,h=>by
    have ih:=val_shrL hk xs h.tail
    have hx:=h.head
    have hp:(0:Int)<2 ^ k:=Int.pow_pos (by decide)
    have h1:val xs=xs.getD 0 0+1073741824*val xs.tail:=by
      cases xs with
      |nil=>simp [val]
      |cons y ys=>simp [val,BB]
    simp only [shrL,val,ih,BB] at*;have e1:=ediv_mod_B hk x (xs.getD 0 0) (val xs.tail);rw [←h1] at e1;rw [←e1]
    have e2:val xs/2 ^ k=(x+1073741824*val xs)/2 ^ k/1073741824:=by
      rw [Int.ediv_ediv_of_nonneg (by omega),Int.mul_comm (2 ^ k) 1073741824,←Int.ediv_ediv_of_nonneg (by omega),Int.mul_comm 1073741824,Int.add_mul_ediv_right _ _ (by decide),Int.ediv_eq_zero_of_lt hx.1 hx.2,Int.zero_add]
    rw [e2];have:=Int.emod_add_mul_ediv ((x+1073741824*val xs)/2 ^ k) 1073741824;omega
end Go.Limbs
namespace Go.Proofs.YtojkdfilabmafaaGreat
open Go.Own Go.Limbs
attribute [local irreducible] St Ops Go.Own.Fin Ok
abbrev u64C (x : Int) : CT := .ex (.int .u64 x)
theorem uStr:Tryz.prog.underlying 9=some .string:=Tryz.underlying9
theorem uIntB:Tryz.prog.underlying 3=some (.int .i64):=Tryz.underlying3
theorem uU8B:Tryz.prog.underlying 5=some (.int .u8):=Tryz.underlying5
theorem uUintB:Tryz.prog.underlying 165=some (.int .u64):=Tryz.underlying165
theorem uU64B:Tryz.prog.underlying 230=some (.int .u64):=Tryz.underlying230
theorem wrap_u8{n:Int}(h1:0≤n)(h2:n<256):IntKind.u8.wrap n=n:=by
  rw [show IntKind.u8.wrap n=n%256 by simp [IntKind.wrap,IntKind.bits,IntKind.signed]];omega
def bln (n : Nat) : Nat := if 65536 ≤ n then (if 256 ≤ n / 65536 then 24 + bl (n / 65536 / 256) else 16 + bl (n / 65536)) else if 256 ≤ n then 8 + bl (n / 256) else bl n
theorem bln_spec{n:Nat}(h0:0<n)(h:n<1073741824):1≤bln n∧bln n≤30∧n<2 ^ bln n:=by
  have pos:∀m,0<m→1≤bl m:=fun m hm=>by unfold bl;rw [if_neg (by omega)];omega
  unfold bln;split
  · split
    · have h1:=bl_spec (n/65536/256);have h2:=pos (n/65536/256) (by omega)
      have h3:bl (n/65536/256)≤6:=by
        unfold bl;rw [if_neg (by omega)];have:Nat.log2 (n/65536/256)<6:=(Nat.log2_lt (by omega)).2 (by omega);omega
      refine ⟨by omega,by omega,?_⟩;rw [Nat.pow_add]
      have:n<(n/65536/256+1)*16777216:=by omega
      exact Nat.lt_of_lt_of_le this (by rw [Nat.mul_comm];exact Nat.mul_le_mul (by decide) h1)
    · have h1:=bl_spec (n/65536);have h2:=pos (n/65536) (by omega);have h3:=bl_lt (n:=n/65536) (by omega);refine ⟨by omega,by omega,?_⟩;rw [Nat.pow_add]
      have:n<(n/65536+1)*65536:=by omega
      exact Nat.lt_of_lt_of_le this (by rw [Nat.mul_comm];exact Nat.mul_le_mul (by decide) h1)
  · split
    · have h1:=bl_spec (n/256);have h2:=pos (n/256) (by omega);have h3:=bl_lt (n:=n/256) (by omega);refine ⟨by omega,by omega,?_⟩;rw [Nat.pow_add]
      have:n<(n/256+1)*256:=by omega
      exact Nat.lt_of_lt_of_le this (by rw [Nat.mul_comm];exact Nat.mul_le_mul (by decide) h1)
    · have h1:=bl_spec n;have h3:=bl_lt (n:=n) (by omega);exact ⟨pos n h0,by omega,h1⟩
theorem goLen64:InGo Tryz.prog 178:=InGo.of Tryz.func178 rfl (by decide)
set_option maxHeartbeats 2000000 in
theorem Len64_ok(n:Nat)(h1:n<1073741824):Ok Tryz.prog 178 [u64C n] (intC (bln n)):=by
  refine Ok.enter Tryz.func178 J _ Tryz.ntmps178 J ?_
  intro S w;refine Qy (Qx fun K hK=> ?_);refine Qv J J J (Qj (hK _ _ (Qz (Qy (Qy ?_)))));clear hK K;refine Qx (fun K hK=> ?_);refine Qq J J J (Qk igeq J J J J (Qj (hK _ _ (Qz ?_))));clear hK K;refine Q2 J (fun h=>by exfalso;omega) (fun _=> ?_);refine QW (Qz (Qy (Qy (Qx fun K hK=> ?_))));refine Qq J J J (Qk igeq J J J J (Qj (hK _ _ (Qz ?_))));clear hK K;refine Q2 J (fun ha=> ?_) (fun ha=> ?_)
  · refine Qy (Qx fun K hK=> ?_);refine Qq J J J (Qk (ushr 16 J (by decide)) J J J J ?_);rw [show (n:Int)/2 ^ 16=((n/65536:Nat):Int) by omega];refine Qv J J J (Qj (hK _ _ (Qz ?_)));clear hK K;refine Qx (fun K hK=> ?_);refine Qq J J J (Qk (iadd (by omega) (by omega)) J J J J ?_);refine Qv J J J (Qj (hK _ _ (Qz (Qy (Qy ?_)))));clear hK K;refine Qx (fun K hK=> ?_);refine Qq J J J (Qk igeq J J J J (Qj (hK _ _ (Qz ?_))));clear hK K;refine Q2 J (fun hb=> ?_) (fun hb=> ?_)
    · refine Qy (Qx fun K hK=> ?_);refine Qq J J J (Qk (ushr 8 J (by decide)) J J J J ?_);rw [show ((n/65536:Nat):Int)/2 ^ 8=((n/65536/256:Nat):Int) by omega];refine Qv J J J (Qj (hK _ _ (Qz ?_)));clear hK K;refine Qx (fun K hK=> ?_);refine Qq J J J (Qk (iadd (by omega) (by omega)) J J J J ?_);refine Qv J J J (Qj (hK _ _ (Qz (Qy ?_))));clear hK K;refine Qx (fun K hK=> ?_);refine Qq J J J (Qq J J J ?_);have hb3:=bl_lt (n:=n/65536/256) (by omega)
      refine Z5 (q:=((n/65536/256:Nat):Int)) J J uU64B uU8B (wrap_u8 (by omega) (by omega)) J ?_
      refine Ops.idxTab (n/65536/256) J J J uStr J (by omega) (by kernel_rfl) J ?_
      refine Z5 (q:=(bl (n/65536/256):Int)) J J uU8B uIntB (Z2 (by omega) (by omega)) J ?_
      refine Qk (iadd (by omega) (by omega)) J J J J ?_
      refine Qv J J J (Qj (hK _ _ (Qz (Q4 ?_))));clear hK K;refine Q1 [_] rfl (QX J QZ) (by unfold bln;rw [if_pos (by omega),if_pos (by omega)];congr 2) J
    · refine QW (Qz (Qy (Qx fun K hK=> ?_)));refine Qq J J J (Qq J J J ?_);have hb3:=bl_lt (n:=n/65536) (by omega)
      refine Z5 (q:=((n/65536:Nat):Int)) J J uU64B uU8B (wrap_u8 (by omega) (by omega)) J ?_
      refine Ops.idxTab (n/65536) J J J uStr J (by omega) (by kernel_rfl) J ?_
      refine Z5 (q:=(bl (n/65536):Int)) J J uU8B uIntB (Z2 (by omega) (by omega)) J ?_
      refine Qk (iadd (by omega) (by omega)) J J J J ?_
      refine Qv J J J (Qj (hK _ _ (Qz (Q4 ?_))));clear hK K;refine Q1 [_] rfl (QX J QZ) (by unfold bln;rw [if_pos (by omega),if_neg (by omega)];congr 2) J
  · refine QW (Qz (Qy (Qy (Qx fun K hK=> ?_))));refine Qq J J J (Qk igeq J J J J (Qj (hK _ _ (Qz ?_))));clear hK K;refine Q2 J (fun hb=> ?_) (fun hb=> ?_)
    · refine Qy (Qx fun K hK=> ?_);refine Qq J J J (Qk (ushr 8 J (by decide)) J J J J ?_);rw [show (n:Int)/2 ^ 8=((n/256:Nat):Int) by omega];refine Qv J J J (Qj (hK _ _ (Qz ?_)));clear hK K;refine Qx (fun K hK=> ?_);refine Qq J J J (Qk (iadd (by omega) (by omega)) J J J J ?_);refine Qv J J J (Qj (hK _ _ (Qz (Qy ?_))));clear hK K;refine Qx (fun K hK=> ?_);refine Qq J J J (Qq J J J ?_);have hb3:=bl_lt (n:=n/256) (by omega)
      refine Z5 (q:=((n/256:Nat):Int)) J J uU64B uU8B (wrap_u8 (by omega) (by omega)) J ?_
      refine Ops.idxTab (n/256) J J J uStr J (by omega) (by kernel_rfl) J ?_
      refine Z5 (q:=(bl (n/256):Int)) J J uU8B uIntB (Z2 (by omega) (by omega)) J ?_
      refine Qk (iadd (by omega) (by omega)) J J J J ?_
      refine Qv J J J (Qj (hK _ _ (Qz (Q4 ?_))));clear hK K;refine Q1 [_] rfl (QX J QZ) (by unfold bln;rw [if_neg (by omega),if_pos (by omega)];congr 2) J
    · refine QW (Qz (Qy (Qx fun K hK=> ?_)));refine Qq J J J (Qq J J J ?_);have hb3:=bl_lt (n:=n) (by omega)
      refine Z5 (q:=(n:Int)) J J uU64B uU8B (wrap_u8 (by omega) (by omega)) J ?_
      refine Ops.idxTab n J J J uStr J (by omega) (by kernel_rfl) J ?_
      refine Z5 (q:=(bl n:Int)) J J uU8B uIntB (Z2 (by omega) (by omega)) J ?_
      refine Qk (iadd (by omega) (by omega)) J J J J ?_
      refine Qv J J J (Qj (hK _ _ (Qz (Q4 ?_))));clear hK K;refine Q1 [_] rfl (QX J QZ) (by unfold bln;rw [if_neg (by omega),if_neg (by omega)];exact congrArg intC (by omega)) J
theorem goLen:InGo Tryz.prog 107:=InGo.of Tryz.func107 rfl (by decide)
theorem Len_ok(n:Nat)(h1:n<1073741824):Ok Tryz.prog 107 [u64C n] (intC (bln n)):=by
  refine Ok.enter Tryz.func107 J _ Tryz.ntmps107 J ?_
  intro S w;refine Qy (Qx fun K hK=> ?_);refine Qv J J J (Qj (hK _ _ (Qz (Qy (Xy J (QW (Qz (Qy ?_))))))));clear hK K;refine Qx (fun K hK=> ?_);refine Qq J J J (QV goLen64 (Len64_ok n h1) J J J J (Qv J J J (Qj (hK _ _ (Qz (Q4 ?_))))));clear hK K;refine Q1 [_] rfl (QX J QZ) J J
theorem goguess:InGo Tryz.prog 283:=InGo.of Tryz.func283 (by kernel_rfl) (by kernel_rfl)
set_option maxHeartbeats 4000000 in
theorem guess_ok(h n t l s:Int)(hh0:0≤h)(hh:h≤l)(hl0:0<l)(hl:l<1073741824)(hn0:0≤n)(hn:n<1073741824)(ht0:0≤t)(ht:t<1073741824)(hs0:0≤s)(hs:s<1073741824):
    Ok Tryz.prog 283 [intC h,intC n,intC t,intC l,intC s] (intC (gs h n t l s)):=by
  refine Ok.enter Tryz.func283 J _ Tryz.ntmps283 J ?_
  intro S w;refine Qy (Qx fun K hK=> ?_);refine Qv J J J (Qj (hK _ _ (Qz (Qy ?_))));clear hK K;refine Qx (fun K hK=> ?_);refine Qq J J J (Qk (ishl30 (by omega) (by omega)) J J J J ?_);refine Qq J J J (Qk (ior30 (by omega) (by omega) (by omega) (by omega)) J J J J ?_);refine Qv J J J (Qj (hK _ _ (Qz (Qy ?_))));clear hK K;refine XX mixed 8 (.p 0 (.p 1 (.p 2 (.p 3 (.p 4 (.p 5 (.p 6 (.p 7 .done)))))))) (by kernel_rfl) (fun K hK=> ?_);refine Qq J J J (Qq J J J (Qk (iquo (by omega) (by omega) (by omega)) J J J J ?_));refine Qq J J J (Qq J J J (Qk (irem (by omega) (by omega)) J J J J ?_));refine Qv J J J (Qv J J J (Qj (hK _ _ (Qz (Qy (Q3 ?_))))));clear hK K;have e0:=Int.mul_ediv_add_emod (h*1073741824+n) l;have e1:=Int.emod_nonneg (h*1073741824+n) (b:=l) (by omega);have e2:=Int.emod_lt_of_pos (h*1073741824+n) hl0;have e3:0≤(h*1073741824+n)/l:=Int.ediv_nonneg (by omega) (by omega)
  have e4:(h*1073741824+n)/l≤2147483648:=by
    have:(h*1073741824+n)/l<2147483649:=by
      apply Int.ediv_lt_of_lt_mul hl0
      have:h*1073741824≤l*1073741824:=Int.mul_le_mul_of_nonneg_right hh (by decide);omega
    omega
  have e5:gs h n t l s≤(h*1073741824+n)/l:=by
    unfold gs
    have:(h*1073741824*1073741824+n*1073741824+t)/(l*1073741824+s)<(h*1073741824+n)/l+1:=by
      apply Int.ediv_lt_of_lt_mul (by omega)
      generalize (h*1073741824+n)/l=q at*
      have f1:(q+1)*(l*1073741824+s)=(l*q)*1073741824+l*1073741824+(q+1)*s:=by grind
      have f2:0≤(q+1)*s:=Int.mul_nonneg (by omega) hs0;rw [f1];omega
    omega
  generalize (h*1073741824+n)/l=q0 at*;generalize (h*1073741824+n)%l=r0 at*
  refine Qs (α:=Int × Int) (fun p=>0≤p.1∧p.1≤2147483648∧0≤p.2∧p.2<2147483648∧p.1*l+p.2=h*1073741824+n∧gs h n t l s≤p.1)
    (fun p=>[(2, .ct (intC t)),(3, .ct (intC l)),(4, .ct (intC s)),(12, .ct (intC p.1)),(13, .ct (intC p.2))]) (fun _=>[]) (fun p=>(1073741824 - p.2).toNat) (q0,r0)
    ⟨e3,e4,e1,by dsimp only;omega,by rw [Int.mul_comm];exact e0,e5⟩ (by exact Qu J ⟨rfl,rfl,rfl,rfl,rfl,trivial⟩) ?_
  rintro ⟨q,r⟩ ⟨hq0,hq1,hr0,hr1,hv,hg⟩
  dsimp only at hq0 hq1 hr0 hr1 hv hg ⊢
  have hqs:0≤q*s∧q*s≤2305843009213693952:=⟨Int.mul_nonneg hq0 hs0,by
    have:q*s≤2147483648*1073741824:=Int.mul_le_mul hq1 (by omega) hs0 (by decide)
    omega⟩
  have stop:¬(r<1073741824∧(1073741824≤q∨r*1073741824+t<q*s))→q=gs h n t l s:=fun hc=>gs_exit hl0 hh hn ht0 hs0 hs hq0 hv hg hc
  have go:r<1073741824→(1073741824≤q∨r*1073741824+t<q*s)→gs h n t l s≤q - 1:=fun _ hc=>gs_step hl0 hs0 hv hg hc
  have hv' :(q - 1)*l+(r+l)=h*1073741824+n:=by rw [Int.sub_mul];omega
  have gs0:0≤gs h n t l s:=by
    unfold gs;have:0≤(h*1073741824*1073741824+n*1073741824+t)/(l*1073741824+s):=Int.ediv_nonneg (by omega) (by omega);omega
  refine Qy (Qy (Qx fun K hK=> ?_));refine Qq J J J (Qk ilss J J J J (Qq J J J (Qi 26 J (fun h1=> ?_) (fun h1=> ?_))))
  · refine Qq J J J (Qk igeq J J J J (Qq J J J (Qi 29 J (fun h2=> ?_) (fun h2=> ?_))))
    · refine Qw J J J (Qw J J J (Qw J J J (Qw J J J (Qw J J J (Qw J J J (Qw J J J (Qw J J J (Q5 J J J J (Q5 J J J J (Qj (hK _ _ (Qz (XZ J (QW (Qz (Q3 ?_))))))))))))))));clear hK K;refine Qx (fun K hK=> ?_);refine Qq J J J (Qk (isub (by omega) (by omega)) J J J J ?_);refine Qq J J J (Qq J J J (Qk (iadd (by omega) (by omega)) J J J J ?_));refine Qv J J J (Qv J J J (Qj (hK _ _ (Ql (Q6 ?_)))));clear hK K;have hg' :=go h1 (.inl h2);refine Q9 (q - 1,r+l) (by dsimp only;omega) ⟨by dsimp only;omega,by dsimp only;omega,by dsimp only;omega,by dsimp only;omega,hv',hg'⟩ (by exact Qu J ⟨rfl,rfl,rfl,rfl,rfl,trivial⟩)
    · refine Qq J J J (Qq J J J (Qk (imul (by omega) (by omega)) J J J J ?_));refine Qq J J J (Qk (ishl30 (by omega) (by omega)) J J J J ?_);refine Qq J J J (Qk (ior30 (by omega) (by omega) (by omega) (by omega)) J J J J ?_);refine Qk igtr J J J J (Q7 J J J J (Q5 J J J J (Qj (hK _ _ (Qz ?_)))));clear hK K;refine Q2 J (fun h3=> ?_) (fun h3=> ?_)
      · refine QW (Qz (Q3 (Qx fun K hK=> ?_)));refine Qq J J J (Qk (isub (by omega) (by omega)) J J J J ?_);refine Qq J J J (Qq J J J (Qk (iadd (by omega) (by omega)) J J J J ?_));refine Qv J J J (Qv J J J (Qj (hK _ _ (Ql (Q6 ?_)))));clear hK K;have hg' :=go h1 (.inr h3);refine Q9 (q - 1,r+l) (by dsimp only;omega) ⟨by dsimp only;omega,by dsimp only;omega,by dsimp only;omega,by dsimp only;omega,hv',hg'⟩ (by exact Qu J ⟨rfl,rfl,rfl,rfl,rfl,trivial⟩)
      · have e:=stop (fun hc=>by rcases hc.2 with hc|hc <;>omega);refine Qm (Qz (Qy (Qx fun K hK=> ?_)));refine Qq J J J (Qv J J J (Qj (hK _ _ (Qz (Q4 ?_)))));clear hK K;refine Q1 [_] rfl (QX J QZ) (by rw [e];rfl) J
  · have e:=stop (fun hc=>h1 hc.1);refine Qw J J J (Qw J J J (Qw J J J (Qw J J J (Qw J J J (Qw J J J (Qw J J J (Qw J J J (Qw J J J (Qw J J J (Qw J J J (Qw J J J (Q7 J J J J (Qj (hK _ _ (Qz (Xy J (Qm (Qz (Qy ?_)))))))))))))))))));clear hK K;refine Qx (fun K hK=> ?_);refine Qq J J J (Qv J J J (Qj (hK _ _ (Qz (Q4 ?_)))));clear hK K;refine Q1 [_] rfl (QX J QZ) (by rw [e];rfl) J
attribute [local irreducible] OkF
theorem goshifted:InGo Tryz.prog 282:=InGo.of Tryz.func282 (by kernel_rfl) (by kernel_rfl)
def shl (xs : List Int) (k : Nat) : List Int := (limbs ((val xs).toNat * 2 ^ k)) ++ List.replicate (xs.length + 1 - (limbs ((val xs).toNat * 2 ^ k)).length) 0
theorem limbs_unique{xs ys:List Int}(hx:OKL xs)(hy:OKL ys)(hl:xs.length=ys.length)(hv:val xs=val ys):xs=ys:=by
  induction xs generalizing ys with
  |nil=>exact (List.eq_nil_of_length_eq_zero hl.symm).symm
  |cons x xs ih=>
    cases ys with
    |nil=>simp at hl
    |cons y ys=>
      have a:=hx.head;have b:=hy.head;simp only [val,BB] at*
      have e:x=y∧val xs=val ys:=by omega
      rw [e.1,ih hx.tail hy.tail (by simpa using hl) e.2]
set_option maxHeartbeats 4000000 in
theorem shifted_ok(xs:List Int)(k:Nat)(hk:k≤30)(hok:OKL xs)(hl:xs.length≤256):OkF Tryz.prog 282 [intsC xs,intC k] 3 1 (ints (shl xs k)):=by
  have hpk:(0:Int)<2 ^ k:=Int.pow_pos (by decide)
  have hpk30:(2:Int) ^ k≤1073741824:=by
    have e:=two_split hk;have:(1:Int)≤2 ^ (30 - k):=Int.pow_pos (by decide);have:=Int.mul_le_mul_of_nonneg_left this (Int.le_of_lt hpk);omega
  refine OkF.enter Tryz.func282 J _ Tryz.ntmps282 J ?_
  intro S w;refine Qy (Qx fun K hK=> ?_);refine Qv J J J (Qj (hK _ _ (Qz (Qy ?_))));clear hK K;refine Qx (fun K hK=> ?_);refine Qq J J J (Qh J J sNat.und (List.length_map ..) J (Qk (iadd (by omega) (by omega)) J J J J ?_))
  refine Zp 0 (xs.length+1) J J J (by omega) sNat (by omega) (by omega) J J J ?_
  rw [ints_made];refine Qv J J J (Qj (hK _ _ (Qz (Qy (Qy ?_)))));clear hK K;refine Qx (fun K hK=> ?_);refine Qq J J J (Qh J J sNat.und (List.length_map ..) J (Qq J J J (Qj (hK _ _ (Qz (Q3 ?_))))));clear hK K
  refine Qs (α:=Nat × List Int) (fun s=>s.1≤xs.length∧s.2.length=xs.length+1∧OKL s.2∧(∀j,s.1<j→s.2.getD j 0=0)∧s.2.getD s.1 0<2 ^ k∧val s.2=pre xs s.1*2 ^ k)
    (fun s=>[(0, .ct (intsC xs)),(1, .ct (intC k)),(5, .own 0),(13, .ct (intsC xs)),(14, .ct (intC xs.length)),(15, .ct (intC s.1))])
    (fun s=>[(0, .row 3 1 (ints s.2))]) (fun s=>xs.length - s.1) (0,List.replicate (xs.length+1) 0) ⟨Nat.zero_le _,by simp,OKL.zeros _,?_,?_,?_⟩ (by exact Qu J ⟨rfl,rfl,rfl,rfl,rfl,rfl,trivial⟩) ?_
  · intro j _;simp [List.getD_eq_getElem?_getD,List.getElem?_replicate];split <;>rfl
  · have:(List.replicate (xs.length+1) (0:Int)).getD 0 0=0:=by simp [List.getD_eq_getElem?_getD]
    dsimp only;rw [this];exact hpk
  · dsimp only;rw [val_zeros,Zg];simp
  rintro ⟨i,zs⟩ ⟨hi,hzl,hzok,hz,hzi,hv⟩
  dsimp only at hi hzl hzok hz hzi hv ⊢;refine Qy (Qx fun K hK=> ?_);refine Qk ilss J J J J (Qj (hK _ _ (Qz (Qy ?_))));clear hK K;refine Q2 J (fun h=> ?_) (fun h=> ?_)
  · have bx:=hok.get i;have bz:=hzok.get i;simp only [BB] at bx bz;have eix:(i:Int).toNat=i:=Int.toNat_natCast i
    have e1:(i:Int).toNat*1=i:=by omega
    have e2:((i:Int)+1).toNat*1=i+1:=by omega
    have bs:0≤xs.getD i 0*2 ^ k∧xs.getD i 0*2 ^ k≤1152921503533105152:=⟨Int.mul_nonneg bx.1 (by omega),by
      have:xs.getD i 0*2 ^ k≤1073741823*1073741824:=Int.mul_le_mul (by omega) hpk30 (by omega) (by omega)
      omega⟩
    refine QW (Qz (Qy (Q3 (Qy (Qx fun K hK=> ?_)))));refine Qq J J J (Xx J J J sNat (by omega) (Xs (by omega) (by omega)) J ?_);refine X1 J J J lInt J (Qv J J J (Qv J J J (Qj (hK _ _ (Qz (Qy ?_))))));clear hK K;refine Qx (fun K hK=> ?_);refine Qq J J J (Qq J J J ?_);rw [eix];skip
    refine Qk (ishl k J (by omega) (by omega) (by omega)) J J J J ?_
    refine Qv J J J (Qj (hK _ _ (Qz (Qy ?_))));clear hK K;refine Qx (fun K hK=> ?_);refine Qq J J J (Qq J J J (XJ (xs.length+1) J J J (by simp;omega) J sNat (by omega) (by omega) J ?_));rw [e1]
    refine QQ J J J J (Xo (by omega)) lInt J ?_
    refine Qq J J J ?_
    have dvd:∃m:Nat,xs.getD i 0*2 ^ k%1073741824=(m:Int)*2 ^ k:=by
      have h1:(xs.getD i 0%2 ^ (30 - k))*2 ^ k=xs.getD i 0*2 ^ k%1073741824:=by
        rw [two_split hk,Int.mul_comm (xs.getD i 0),Int.mul_emod_mul_of_pos _ _ hpk,Int.mul_comm]
      have h2:0≤xs.getD i 0%2 ^ (30 - k):=Int.emod_nonneg _ (by have:(0:Int)<2 ^ (30 - k):=Int.pow_pos (by decide);omega);exact ⟨(xs.getD i 0%2 ^ (30 - k)).toNat,by rw [←h1];congr 1;omega⟩
    obtain ⟨m,hm⟩:=dvd
    have hmod:zs.getD i 0+xs.getD i 0*2 ^ k%1073741824<1073741824:=by
      rw [hm];have e:=two_split hk
      have hmk:(m:Int)*2 ^ k<2 ^ (30 - k)*2 ^ k:=by rw [←hm,Int.mul_comm (2 ^ (30 - k)),←e];omega
      have hm2:(m:Int)<2 ^ (30 - k):=Int.lt_of_mul_lt_mul_right hmk (by omega);have:((m:Int)+1)*2 ^ k≤2 ^ (30 - k)*2 ^ k:=Int.mul_le_mul_of_nonneg_right (by omega) (by omega);rw [Int.add_mul,Int.one_mul,Int.mul_comm (2 ^ (30 - k)),←e] at this;omega
    refine Qk iand30 J J J J (Qk (ior_add k m bz.1 hzi hm (by omega)) J J J J ?_);skip
    refine XJ (xs.length+1) J J J (by simp;omega) J sNat (by omega) (by omega) J ?_
    rw [e1]
    refine Xj J J J J J zInt (by simp [Ent.cs];omega) ?_
    simp only [Ent.setc,ZX];refine Qj (hK _ _ (Qz ?_));clear hK K;refine Qx (fun K hK=> ?_);refine Qq J J J (Qq J J J (Qk (iadd (by omega) (by omega)) J J J J ?_));refine Qq J J J (Qk ishr30 J J J J ?_);skip
    refine XJ (xs.length+1) J J J (by simp;omega) J sNat (by omega) (by omega) J ?_
    rw [e2]
    refine Xj J J J J J zInt (by simp [Ent.cs];omega) ?_
    simp only [Ent.setc,ZX];refine Qj (hK _ _ (Qz ?_));clear hK K;refine Qx (fun K hK=> ?_)
    refine Qk (iadd (by omega) (by omega)) J J J J ?_
    refine Qq J J J (Qj (hK _ _ (Q6 ?_)));clear hK K
    have hq:xs.getD i 0*2 ^ k/1073741824<2 ^ k:=by
      apply Int.ediv_lt_of_lt_mul (by decide)
      rw [Int.mul_comm];exact Int.mul_lt_mul_of_pos_left (by omega) hpk
    refine Q9 (i+1,(zs.set i (zs.getD i 0+xs.getD i 0*2 ^ k%1073741824)).set (i+1) (xs.getD i 0*2 ^ k/1073741824)) (by dsimp only;omega) ⟨by dsimp only;omega,by simp [hzl],?_,?_,?_,?_⟩ (by exact Qu J ⟨rfl,rfl,rfl,rfl,rfl,by simp only [Int.natCast_add];rfl,trivial⟩)
    all_goals dsimp only
    · exact (hzok.set _ (by simp only [BB];omega)).set _ (by simp only [BB];omega)
    · intro j hj;rw [getD_set (by simp;omega),if_neg (by omega),getD_set (by omega),if_neg (by omega)];exact hz j (by omega)
    · rw [getD_set (by simp;omega),if_pos J];exact hq
    · rw [val_set (by simp;omega),val_set (by omega),getD_set (by omega),if_neg (by omega),hz (i+1) (by omega),X5,hv,Int.pow_succ];have e:=Int.mul_ediv_add_emod (xs.getD i 0*2 ^ k) 1073741824;simp only [BB] at*;generalize xs.getD i 0*2 ^ k/1073741824=Q at*;generalize xs.getD i 0*2 ^ k%1073741824=M at*;generalize (1073741824:Int) ^ i=I at*
      grind
  · have hi' :i=xs.length:=by omega
    have hv2:val zs=val xs*2 ^ k:=by rw [hv,hi',Zc (Nat.le_refl _)]
    have hvx:=Y7 hok
    have e2k:((2 ^ k:Nat):Int)=(2:Int) ^ k:=by rw [Int.natCast_pow];rfl
    have hn:((val xs).toNat*2 ^ k:Nat)=(val zs).toNat:=by
      rw [hv2]
      have:(((val xs).toNat*2 ^ k:Nat):Int)=val xs*2 ^ k:=by rw [Int.natCast_mul,e2k,Int.toNat_of_nonneg hvx]
      omega
    have hzs:zs=shl xs k:=by
      unfold shl;rw [hn]
      have hlen:(limbs (val zs).toNat).length≤xs.length+1:=by rw [←Za hzok,←hzl];exact trim_len _
      have hvz:=Y7 hzok
      refine limbs_unique hzok ((X2 _).append (OKL.zeros _)) (by simp;omega) ?_
      rw [val_append,val_zeros,Xt];omega
    subst hzs;refine Qm (Qz (Qy (Qx fun K hK=> ?_)));refine Qq J J J (Qv J J J (Qj (hK _ _ (Qz (Q4 ?_)))));clear hK K;refine Fin.retF J J J J
theorem shl_val(xs:List Int)(k:Nat)(hok:OKL xs):val (shl xs k)=val xs*2 ^ k:=by
  unfold shl;rw [val_append,val_zeros,Xt,Int.natCast_mul,Int.toNat_of_nonneg (Y7 hok),Int.natCast_pow];simp
theorem shl_ok(xs:List Int)(k:Nat):OKL (shl xs k):=(X2 _).append (OKL.zeros _)
theorem shl_len(xs:List Int)(k:Nat)(hk:k≤30)(hok:OKL xs):(shl xs k).length=xs.length+1:=by
  unfold shl
  have:(limbs ((val xs).toNat*2 ^ k)).length≤xs.length+1:=by
    apply Xn
    rw [Nat.pow_succ]
    have h1:val xs<BB ^ xs.length:=by have:=YX hok xs.length;rw [Zc (Nat.le_refl _)] at this;exact this.2
    have h2:(val xs).toNat<1073741824 ^ xs.length:=by
      have:=Y7 hok
      have e:((1073741824 ^ xs.length:Nat):Int)=BB ^ xs.length:=by rw [Int.natCast_pow];rfl
      omega
    have h3:2 ^ k≤1073741824:=by
      have:2 ^ k≤2 ^ 30:=Nat.pow_le_pow_right (by decide) hk;omega
    have h4:0<2 ^ k:=Nat.pow_pos (by decide)
    calc (val xs).toNat*2 ^ k<1073741824 ^ xs.length*2 ^ k:=Nat.mul_lt_mul_of_pos_right h2 h4
      _≤_:=Nat.mul_le_mul_left _ h3
  simp;omega
end Go.Proofs.YtojkdfilabmafaaGreat
namespace Go.Limbs
theorem getD_drop(xs:List Int)(j i:Nat):(xs.drop j).getD i 0=xs.getD (j+i) 0:=by simp [List.getD_eq_getElem?_getD,List.getElem?_drop]
theorem Bpos(k:Nat):(0:Int)<BB ^ k:=Int.pow_pos (by decide)
theorem win{us vs:List Int}{n j:Nat}(hu:OKL us)(hv:OKL vs)(hn:2≤n)(hvl:vs.length=n+1)(htop:vs.getD n 0=0)(hld:0<vs.getD (n - 1) 0)(hA:val us<val vs*BB ^ (j+1)):
    us.getD (j+n) 0≤vs.getD (n - 1) 0∧0≤gs (us.getD (j+n) 0) (us.getD (j+n - 1) 0) (us.getD (j+n - 2) 0) (vs.getD (n - 1) 0) (vs.getD (n - 2) 0)∧
    gs (us.getD (j+n) 0) (us.getD (j+n - 1) 0) (us.getD (j+n - 2) 0) (vs.getD (n - 1) 0) (vs.getD (n - 2) 0)≤1073741823∧
    (gs (us.getD (j+n) 0) (us.getD (j+n - 1) 0) (us.getD (j+n - 2) 0) (vs.getD (n - 1) 0) (vs.getD (n - 2) 0) - 1)*val vs*BB ^ j≤val us∧
    val us<(gs (us.getD (j+n) 0) (us.getD (j+n - 1) 0) (us.getD (j+n - 2) 0) (vs.getD (n - 1) 0) (vs.getD (n - 2) 0)+1)*val vs*BB ^ j∧
    (∀p,j+n+1≤p→us.getD p 0=0)∧0<val vs∧val vs<BB ^ n:=by
  obtain ⟨m,rfl⟩:∃m,n=m+2:=⟨n - 2,by omega⟩
  have e1:m+2 - 1=m+1:=by omega
  have e2:m+2 - 2=m:=by omega
  have e3:j+(m+2) - 1=j+(m+1):=by omega
  have e4:j+(m+2) - 2=j+m:=by omega
  rw [e1] at hld ⊢;rw [e2,e3,e4];have v1:val vs=pre vs (m+3):=(Zc (by omega)).symm
  have v2:val vs=(vs.getD (m+1) 0*1073741824+vs.getD m 0)*BB ^ m+pre vs m:=by
    rw [v1,show m+3=(m+2)+1 by omega,X5,htop,show m+2=(m+1)+1 by omega,X5,X5,Int.pow_succ];simp only [BB];grind
  have b1:=YX hv m;have b2:=hv.get (m+1);have b3:=hv.get m
  have vlt:val vs<BB ^ (m+2):=by
    have:=YX hv (m+2);rw [v1,show m+3=(m+2)+1 by omega,X5,htop];omega
  have vpos:0<val vs:=by
    rw [v2];have:0<(vs.getD (m+1) 0*1073741824+vs.getD m 0)*BB ^ m:=Int.mul_pos (by omega) (Bpos m);omega
  have ult:val us<BB ^ (j+(m+2)+1):=by
    have h1:val vs*BB ^ (j+1)<BB ^ (m+2)*BB ^ (j+1):=Int.mul_lt_mul_of_pos_right vlt (Bpos _);rw [←Int.pow_add,show m+2+(j+1)=j+(m+2)+1 by omega] at h1;omega
  have uz:=fun p hp=>zero_above hu ult p hp
  have u1:val us=pre us j+BB ^ j*pre (us.drop j) (m+3):=by
    rw [val_pre_of hu ult,show j+(m+2)+1=j+(m+3) by omega,pre_drop]
  have u2:pre (us.drop j) (m+3)=(us.getD (j+(m+2)) 0*1073741824*1073741824+us.getD (j+(m+1)) 0*1073741824+us.getD (j+m) 0)*BB ^ m+pre (us.drop j) m:=by
    rw [show m+3=(m+2)+1 by omega,X5,show m+2=(m+1)+1 by omega,X5,X5,Int.pow_succ,Int.pow_succ,getD_drop,getD_drop,getD_drop];simp only [BB];grind
  have c0:=YX hu j;have c1:=YX (hu.drop j) m;have c2:=hu.get (j+(m+2));have c3:=hu.get (j+(m+1));have c4:=hu.get (j+m);have pj:=Bpos j
  have hUV:pre (us.drop j) (m+3)<val vs*1073741824:=by
    have h1:BB ^ j*pre (us.drop j) (m+3)<BB ^ j*(val vs*1073741824):=by
      have:val vs*BB ^ (j+1)=BB ^ j*(val vs*1073741824):=by rw [Int.pow_succ];simp only [BB];grind
      omega
    exact Int.lt_of_mul_lt_mul_left h1 (by omega)
  have hi:us.getD (j+(m+2)) 0≤vs.getD (m+1) 0:=by
    have h1:us.getD (j+(m+2)) 0*(1073741824*1073741824*BB ^ m)≤pre (us.drop j) (m+3):=by
      rw [u2];have:0≤(us.getD (j+(m+1)) 0*1073741824+us.getD (j+m) 0)*BB ^ m:=Int.mul_nonneg (by omega) (by have:=Bpos m;omega)
      have e:(us.getD (j+(m+2)) 0*1073741824*1073741824+us.getD (j+(m+1)) 0*1073741824+us.getD (j+m) 0)*BB ^ m=us.getD (j+(m+2)) 0*(1073741824*1073741824*BB ^ m)+(us.getD (j+(m+1)) 0*1073741824+us.getD (j+m) 0)*BB ^ m:=by grind
      omega
    have h2:val vs*1073741824<(vs.getD (m+1) 0+1)*(1073741824*1073741824*BB ^ m):=by
      rw [v2]
      have e:(vs.getD (m+1) 0+1)*(1073741824*1073741824*BB ^ m)=((vs.getD (m+1) 0*1073741824+1073741824)*BB ^ m)*1073741824:=by grind
      rw [e];have:(vs.getD (m+1) 0*1073741824+vs.getD m 0+1)*BB ^ m≤(vs.getD (m+1) 0*1073741824+1073741824)*BB ^ m:=Int.mul_le_mul_of_nonneg_right (by simp only [BB] at b3;omega) (by have:=Bpos m;omega)
      have e5:(vs.getD (m+1) 0*1073741824+vs.getD m 0+1)*BB ^ m=(vs.getD (m+1) 0*1073741824+vs.getD m 0)*BB ^ m+BB ^ m:=by grind
      omega
    have h3:us.getD (j+(m+2)) 0*(1073741824*1073741824*BB ^ m)<(vs.getD (m+1) 0+1)*(1073741824*1073741824*BB ^ m):=by omega
    have h4:(0:Int)≤1073741824*1073741824*BB ^ m:=by have:=Bpos m;omega
    have:=Int.lt_of_mul_lt_mul_right h3 h4;omega
  have G:=gs_good (P:=BB ^ m) (h:=us.getD (j+(m+2)) 0) (n:=us.getD (j+(m+1)) 0) (t:=us.getD (j+m) 0) (l:=vs.getD (m+1) 0) (s:=vs.getD m 0) (a:=pre (us.drop j) m) (b:=pre vs m)
    (Bpos m) c1 b1 hld b3.1 c2.1 c3.1 c4.1 (by rw [←u2,←v2];exact hUV)
  rw [←u2,←v2] at G;generalize gs (us.getD (j+(m+2)) 0) (us.getD (j+(m+1)) 0) (us.getD (j+m) 0) (vs.getD (m+1) 0) (vs.getD m 0)=gg at*;obtain ⟨g1,g2,g3,g4⟩:=G;generalize pre (us.drop j) (m+3)=U at*;refine ⟨hi,g1,g2,?_,?_,uz,vpos,vlt⟩
  · have:=Int.mul_le_mul_of_nonneg_right g3 (Int.le_of_lt pj);rw [u1,Int.mul_comm (BB ^ j)];omega
  · have:(U+1)*BB ^ j≤(gg+1)*val vs*BB ^ j:=Int.mul_le_mul_of_nonneg_right (by omega) (Int.le_of_lt pj);rw [Int.add_mul,Int.one_mul] at this;rw [u1,Int.mul_comm (BB ^ j)];omega
structure Win (us vs : List Int) (j : Nat) (f : Int) (lo hi : Int) (i : Nat) (zs : List Int) (c : Int) : Prop where
  len : zs.length = us.length
  ok : OKL zs
  same : ∀ p, p < j ∨ j + i ≤ p → zs.getD p 0 = us.getD p 0
  lo : lo ≤ c
  hi : c ≤ hi
  value : val zs + c * BB ^ (j + i) = val us + f * pre vs i * BB ^ j
theorem Win.zero{us vs:List Int}{j:Nat}{f lo hi:Int}(hu:OKL us)(h1:lo≤0)(h2:0≤hi):Win us vs j f lo hi 0 us 0:=
  ⟨rfl,hu,fun _ _=>rfl,h1,h2,by rw [Zg];simp⟩
theorem Win.step{us vs:List Int}{j:Nat}{f lo hi:Int}{i:Nat}{zs:List Int}{c:Int}(h:Win us vs j f lo hi i zs c)(hl:j+i<us.length)
    (h1:lo≤(zs.getD (j+i) 0+f*vs.getD i 0+c)/1073741824) (h2:(zs.getD (j+i) 0+f*vs.getD i 0+c)/1073741824≤hi):
    Win us vs j f lo hi (i+1) (zs.set (j+i) ((zs.getD (j+i) 0+f*vs.getD i 0+c)%1073741824)) ((zs.getD (j+i) 0+f*vs.getD i 0+c)/1073741824):=by
  have hlz:j+i<zs.length:=by rw [h.len];exact hl
  refine ⟨by simp [h.len],h.ok.set _ (by simp only [BB];omega),fun p hp=> ?_,h1,h2,?_⟩
  · rw [getD_set hlz,if_neg (by omega)];exact h.same p (by omega)
  · have hv:=h.value;have e:=Int.mul_ediv_add_emod (zs.getD (j+i) 0+f*vs.getD i 0+c) 1073741824;rw [val_set hlz,X5,show j+(i+1)=j+i+1 by omega,Int.pow_succ,Int.pow_add];rw [Int.pow_add] at hv;simp only [BB] at*;generalize (zs.getD (j+i) 0+f*vs.getD i 0+c)/1073741824=Q at*;generalize (zs.getD (j+i) 0+f*vs.getD i 0+c)%1073741824=M at*;generalize (1073741824:Int) ^ i=I at*;generalize (1073741824:Int) ^ j=J at*;generalize zs.getD (j+i) 0=z at*;generalize vs.getD i 0=y at*;generalize pre vs i=pv at*;generalize val zs=vz at*;generalize val us=vu at*
    grind
theorem Win.lt{us vs:List Int}{j n:Nat}{f lo hi:Int}{zs:List Int}{c:Int}(h:Win us vs j f lo hi (n+1) zs c)(hz:∀p,j+n+1≤p→us.getD p 0=0):0≤val zs∧val zs<BB ^ (j+n+1):=by
  have:val zs=pre zs (j+n+1):=val_of_zeros (fun p hp=>by rw [h.same p (by omega)];exact hz p hp);rw [this];exact YX h.ok _
theorem sub_done{V J W R c z:Int}(hW:V*J<W)(hlo: -(V*J)≤R)(hhi:R<V*J)(hz0:0≤z)(hzW:z<W)(hc:c≤0)(he:z+c*W=R):
    (¬c<0→z=R)∧(c<0→z=R+W∧R<0):=by
  refine ⟨fun h=> ?_,fun h=> ?_⟩
  · have:c=0:=by omega
    subst this;omega
  · have h1:c= -1:=by
      by_cases h2:c≤-2
      · have:c*W≤-2*W:=Int.mul_le_mul_of_nonneg_right h2 (by omega);omega
      · omega
    subst h1;omega
theorem add_done{V W R c z:Int}(hW:V<W)(hlo: -V≤R)(hhi:R<0)(hz0:0≤z)(hzW:z<W)(he:z+c*W=(R+W)+V):z=R+V:=by
  have h1:c=1:=by
    by_cases h2:c≤0
    · have:c*W≤0*W:=Int.mul_le_mul_of_nonneg_right h2 (by omega);omega
    · by_cases h3:2≤c
      · have:2*W≤c*W:=Int.mul_le_mul_of_nonneg_right h3 (by omega);omega
      · omega
  subst h1;omega
end Go.Limbs
namespace Go.Proofs.YtojkdfilabmafaaGreat
open Go.Own Go.Limbs
attribute [local irreducible] St Ops Go.Own.Fin Ok OkF
theorem top_pos{b:Nat}(h:0<(limbs b).length):0<(limbs b).getD ((limbs b).length - 1) 0:=by
  have h1:=(X2 b).get ((limbs b).length - 1)
  have h2:(limbs b).getD ((limbs b).length - 1) 0≠0:=by
    intro he;have h2:=trim_last (ys:=limbs b) (by omega) he;rw [trim_of_limbs] at h2;have h3:=trim_len ((limbs b).take ((limbs b).length - 1));rw [h2] at h3;simp at h3;omega
  omega
theorem top_split{b:Nat}(h:0<(limbs b).length):(b:Int)=pre (limbs b) ((limbs b).length - 1)+(limbs b).getD ((limbs b).length - 1) 0*BB ^ ((limbs b).length - 1):=by
  rw [←X5,show (limbs b).length - 1+1=(limbs b).length by omega,val_eq_pre]
theorem shifted_top{b:Nat}{k:Nat}(hk:k≤30)(hn:0<(limbs b).length)(ht:(limbs b).getD ((limbs b).length - 1) 0<2 ^ (30 - k)):
    (shl (limbs b) k).getD (limbs b).length 0=0∧0<(shl (limbs b) k).getD ((limbs b).length - 1) 0:=by
  have hv:=shl_val (limbs b) k (X2 b);rw [Xt] at hv;have hs:=top_split hn;have hp:=top_pos hn;have hb:=YX (X2 b) ((limbs b).length - 1);have h2k:(0:Int)<2 ^ k:=Int.pow_pos (by decide)
  have hlt:val (shl (limbs b) k)<BB ^ (limbs b).length:=by
    rw [hv]
    have h1:(b:Int)<2 ^ (30 - k)*BB ^ ((limbs b).length - 1):=by
      have:((limbs b).getD ((limbs b).length - 1) 0+1)*BB ^ ((limbs b).length - 1)≤2 ^ (30 - k)*BB ^ ((limbs b).length - 1):=Int.mul_le_mul_of_nonneg_right (by omega) (Int.le_of_lt (Bpos _));rw [Int.add_mul,Int.one_mul] at this;omega
    have h2:=Int.mul_lt_mul_of_pos_right h1 h2k
    have h3:2 ^ (30 - k)*BB ^ ((limbs b).length - 1)*2 ^ k=BB ^ (limbs b).length:=by
      have e:=two_split hk
      have e2:BB ^ (limbs b).length=BB ^ ((limbs b).length - 1)*BB:=by rw [←Int.pow_succ];congr 1;omega
      rw [e2];show _=BB ^ ((limbs b).length - 1)*(1073741824:Int);rw [e];grind
    omega
  refine ⟨zero_above (shl_ok _ _) hlt _ (Nat.le_refl _),?_⟩;have h1:=(shl_ok (limbs b) k).get ((limbs b).length - 1);by_cases h0:(shl (limbs b) k).getD ((limbs b).length - 1) 0=0
  · exfalso;have e1:=val_pre_of (shl_ok (limbs b) k) hlt;rw [show (limbs b).length=((limbs b).length - 1)+1 by omega,X5,h0] at e1;have e2:=YX (shl_ok (limbs b) k) ((limbs b).length - 1)
    have e3:BB ^ ((limbs b).length - 1)≤(b:Int):=by
      have:1*BB ^ ((limbs b).length - 1)≤(limbs b).getD ((limbs b).length - 1) 0*BB ^ ((limbs b).length - 1):=Int.mul_le_mul_of_nonneg_right (by omega) (Int.le_of_lt (Bpos _));omega
    have e4:(b:Int)*1≤b*2 ^ k:=Int.mul_le_mul_of_nonneg_left (by omega) (by omega);omega
  · omega
theorem first_lt{a b:Nat}{k:Nat}(hn:0<(limbs b).length)(hl:(limbs b).length≤(limbs a).length):
    val (shl (limbs a) k)<val (shl (limbs b) k)*BB ^ ((limbs a).length - (limbs b).length+1):=by
  rw [shl_val _ _ (X2 a),shl_val _ _ (X2 b),Xt,Xt];have hs:=top_split hn;have hp:=top_pos hn;have hb:=YX (X2 b) ((limbs b).length - 1);have ha:=YX (X2 a) (limbs a).length;rw [val_eq_pre] at ha;have h2k:(0:Int)<2 ^ k:=Int.pow_pos (by decide)
  have e3:BB ^ ((limbs b).length - 1)≤(b:Int):=by
    have:1*BB ^ ((limbs b).length - 1)≤(limbs b).getD ((limbs b).length - 1) 0*BB ^ ((limbs b).length - 1):=Int.mul_le_mul_of_nonneg_right (by omega) (Int.le_of_lt (Bpos _));omega
  have e4:=Int.mul_le_mul_of_nonneg_right e3 (Int.le_of_lt (Bpos ((limbs a).length - (limbs b).length+1)));rw [←Int.pow_add,show (limbs b).length - 1+((limbs a).length - (limbs b).length+1)=(limbs a).length by omega] at e4
  have e5:(a:Int)<b*BB ^ ((limbs a).length - (limbs b).length+1):=by omega
  have e6:=Int.mul_lt_mul_of_pos_right e5 h2k
  have e7:(b:Int)*BB ^ ((limbs a).length - (limbs b).length+1)*2 ^ k=b*2 ^ k*BB ^ ((limbs a).length - (limbs b).length+1):=by grind
  omega
theorem gd_bd{g y c z:Int}(hg0:0≤g)(hg:g≤1073741823)(hy0:0≤y)(hy:y<1073741824)(hz0:0≤z)(hz:z<1073741824)(hc0: -1073741824≤c)(hc:c≤0):
    0≤g*y∧g*y≤1152921502459363329∧-1073741824≤(z - g*y+c)/1073741824∧(z - g*y+c)/1073741824≤0:=by
  have h1:0≤g*y:=Int.mul_nonneg hg0 hy0;have h2:g*y≤1073741823*1073741823:=Int.mul_le_mul hg (by omega) hy0 (by omega);exact ⟨h1,by omega,by omega,by omega⟩
theorem fin_val{a b k:Nat}{A Q:Int}(hb:0<b)(hA:0≤A)(hlt:A<b*2 ^ k)(hi:A+Q*(b*2 ^ k)=a*2 ^ k):Q=((a/b:Nat):Int)∧A=(((a%b)*2 ^ k:Nat):Int):=by
  have h2k:(0:Int)<2 ^ k:=Int.pow_pos (by decide)
  have e:A=((a:Int) - Q*b)*2 ^ k:=by grind
  have h0:0≤(a:Int) - Q*b:=by
    by_cases h:0≤(a:Int) - Q*b
    · exact h
    · have:((a:Int) - Q*b)*2 ^ k<0:=Int.mul_neg_of_neg_of_pos (by omega) h2k;omega
  have h1:(a:Int) - Q*b<b:=by
    have:((a:Int) - Q*b)*2 ^ k<b*2 ^ k:=by omega
    exact Int.lt_of_mul_lt_mul_right this (by omega)
  have h2:(a:Int)/b=Q∧(a:Int)%b=a - Q*b:=by
    rw [Int.ediv_emod_unique (by omega)];refine ⟨?_,h0,h1⟩;rw [Int.mul_comm (b:Int)];omega
  refine ⟨by rw [Int.natCast_ediv];exact h2.1.symm,?_⟩;rw [e,Int.natCast_mul,Int.natCast_emod,h2.2,Int.natCast_pow];rfl
theorem shr_limbs(r k:Nat)(hk:k≤30):trimL (shrL k (limbs (r*2 ^ k)))=limbs r:=by
  rw [Za (shrL_ok _ _),val_shrL hk _ (X2 _),Xt,Int.natCast_mul,Int.natCast_pow]
  congr 1
  have h2k:(2:Int) ^ k≠0:=by have:(0:Int)<2 ^ k:=Int.pow_pos (by decide);omega
  show ((r:Int)*2 ^ k/2 ^ k).toNat=r;rw [Int.mul_ediv_cancel _ h2k];simp
theorem trim_take{us:List Int}{n:Nat}(h:OKL us)(hv:val us<BB ^ n):trimL (us.take n)=limbs (val us).toNat:=by
  rw [Za (h.take n)]
  congr 2
  exact (val_pre_of h hv).symm
set_option maxHeartbeats 16000000 in
theorem DivMod_big(a b:Nat)(hb:2≤(limbs b).length)(hab:b≤a)(hl:(limbs a).length≤256):Ok Tryz.prog 254 [natC a,natC b] (.fr (tupT [natC (a/b),natC (a%b),intC 0])):=by
  have hlab:(limbs b).length≤(limbs a).length:=Xr hab;have htp:=top_pos (b:=b) (by omega);have htb:=(X2 b).get ((limbs b).length - 1);simp only [BB] at htb;obtain ⟨tp,htq⟩:∃tp:Nat,(limbs b).getD ((limbs b).length - 1) 0=tp:=⟨((limbs b).getD ((limbs b).length - 1) 0).toNat,by omega⟩;have hbn:=bln_spec (n:=tp) (by omega) (by omega);obtain ⟨k,hk⟩:∃k,bln tp=30 - k∧k≤30:=⟨30 - bln tp,by omega,by omega⟩;have hk30:=hk.2
  have htop:(limbs b).getD ((limbs b).length - 1) 0<2 ^ (30 - k):=by
    rw [htq,←hk.1]
    have:((2 ^ bln tp:Nat):Int)=(2:Int) ^ bln tp:=by rw [Int.natCast_pow];rfl
    omega
  have hst:=shifted_top hk30 (by omega) htop;have hfl:=first_lt (k:=k) (b:=b) (by omega) hlab;have hUl:=shl_len (limbs a) k hk30 (X2 a);have hVl:=shl_len (limbs b) k hk30 (X2 b);have hUok:=shl_ok (limbs a) k;have hVok:=shl_ok (limbs b) k;have hUv:=shl_val (limbs a) k (X2 a);have hVv:=shl_val (limbs b) k (X2 b);rw [Xt] at hUv hVv;have hAok:=shifted_ok (limbs a) k hk30 (X2 a) (by omega);have hBok:=shifted_ok (limbs b) k hk30 (X2 b) (by omega);generalize shl (limbs a) k=U0 at*;generalize shl (limbs b) k=V at*;have eN:((limbs b).length:Int).toNat=(limbs b).length:=Int.toNat_natCast _;generalize hN:(limbs b).length=n at*;generalize hLA:(limbs a).length=la at*
  refine Ok.enter Tryz.func254 Y _ Tryz.ntmps254 Y ?_
  intro S w;refine Qy (Qx fun K hK=> ?_);refine Qv Y Y Y (Qv Y Y Y (Qv Y Y Y (Qj (hK _ _ (Qz (Qy ?_))))));clear hK K;refine Qx (fun K hK=> ?_);refine Qq Y Y Y (QV gotrim (trim_ok _ (by omega)) Y Y Y Y ?_);rw [trim_of_limbs];refine Qv Y Y Y (Qj (hK _ _ (Qz (Qy ?_))));clear hK K;refine Qx (fun K hK=> ?_);refine Qq Y Y Y (Qh Y Y sNat.und (List.length_map ..) Y (Qv Y Y Y (Qj (hK _ _ (Qz (Qy (Q3 (Qy ?_))))))));clear hK K;refine Qx (fun K hK=> ?_);refine Qq Y Y Y (Qk ieql Y Y Y Y (Qv Y Y Y (Qj (hK _ _ (Qz ?_)))));clear hK K;rw [hN];refine Q2 Y (fun h=>by exfalso;omega) (fun h=> ?_);clear h;refine Qy (Qx fun K hK=> ?_);refine Qq Y Y Y (Qq Y Y Y (QV goCompare (Compare_ok a b (by omega) (by omega)) Y Y Y Y ?_));refine Qk ilss Y Y Y Y (Qv Y Y Y (Qj (hK _ _ (Qz ?_))));clear hK K;refine Q2 Y (fun h=> ?_) (fun h=> ?_)
  · exfalso;rw [cmpI_eq] at h;split at h
    · omega
    · split at h <;>omega
  clear h;refine Qy (Qx fun K hK=> ?_);refine Qq Y Y Y (Qk ieql Y Y Y Y (Qv Y Y Y (Qj (hK _ _ (Qz ?_)))));clear hK K;refine Q2 Y (fun h=>by exfalso;omega) (fun h=> ?_);clear h;refine QW (Qz (Qy (Qx fun K hK=> ?_)));refine Qq Y Y Y (Qq Y Y Y (Qk (isub (by omega) (by omega)) Y Y Y Y ?_))
  refine Xx Y Y Y sNat (by omega) (Xs (by omega) (by omega)) Y ?_
  refine X1 Y Y Y lInt Y ?_
  rw [show ((n:Int) - 1).toNat=n - 1 by omega,htq]
  refine Z5 (q:=(tp:Int)) Y Y uIntB uUintB (wrap_u (by omega) (by omega)) Y ?_
  refine QV goLen (Len_ok tp (by omega)) Y Y Y Y ?_
  refine Qk (isub (by omega) (by omega)) Y Y Y Y ?_
  refine Qv Y Y Y (Qj (hK _ _ (Qz (Qy ?_))));clear hK K;refine Qx (fun K hK=> ?_);refine Qq Y Y Y (Qq Y Y Y ?_);rw [show (30:Int) - (bln tp:Int)=(k:Int) by omega];skip;refine Zm 0 goshifted hAok Y Y Y Y Y Y (Qq Y Y Y (Qq Y Y Y (Zm 1 goshifted hBok Y Y Y Y Y Y (Qv Y Y Y (Qv Y Y Y (Qj (hK _ _ (Qz (Qy ?_)))))))));clear hK K;refine Qx (fun K hK=> ?_);refine Qq Y Y Y (Qh Y Y sNat.und (List.length_map ..) Y (Qq Y Y Y (Qk (isub (by omega) (by omega)) Y Y Y Y ?_)))
  refine Qk (iadd (by omega) (by omega)) Y Y Y Y ?_
  rw [hLA]
  refine Zp 2 (la - n+1) Y Y Y (by omega) sNat (by omega) (by omega) Y Y Y ?_
  rw [ints_made];refine Qv Y Y Y (Qj (hK _ _ (Qz (Qy (Qy ?_)))));clear hK K;refine Qx (fun K hK=> ?_);refine Qq Y Y Y (Qh Y Y sNat.und (List.length_map ..) Y (Qq Y Y Y (Qk (isub (by omega) (by omega)) Y Y Y Y ?_)));refine Qv Y Y Y (Qj (hK _ _ (Qz (Q3 ?_))));clear hK K;rw [hLA]
  refine Qs (α:=Nat × List Int × List Int) (fun s=>s.1≤la - n+1∧s.2.1.length=la+1∧OKL s.2.1∧val s.2.1<val V*BB ^ s.1∧s.2.2.length=la - n+1∧OKL s.2.2∧(∀p,p<s.1→s.2.2.getD p 0=0)∧val s.2.1+val s.2.2*val V=val U0)
    (fun s=>[(0, .ct (natC a)),(1, .ct (natC b)),(7, .ct (intC n)),(10, .ct (intC k)),(11, .own 0),(12, .own 1),(13, .own 2),(14, .ct (intC ((s.1:Int) - 1)))])
    (fun s=>[(2, .row 3 1 (ints s.2.2)),(1, .row 3 1 (ints V)),(0, .row 3 1 (ints s.2.1))])
    (fun s=>s.1) (la - n+1,U0,List.replicate (la - n+1) 0) ⟨Nat.le_refl _,by dsimp only;omega,hUok,hfl,by simp,OKL.zeros _,?_,?_⟩ (by exact Qu Y ⟨rfl,rfl,rfl,rfl,rfl,rfl,rfl,by show _=some (Sl.ct (intC (((la - n+1:Nat):Int) - 1)));rw [show (((la - n+1:Nat):Int) - 1)=(la:Int) - n by omega];rfl,trivial⟩) ?_
  · intro p _;simp [List.getD_eq_getElem?_getD,List.getElem?_replicate];split <;>rfl
  · dsimp only;rw [val_zeros];simp
  rintro ⟨J,us,qs⟩ ⟨hJ,hul,huok,hult,hql,hqok,hqz,hinv⟩
  dsimp only at hJ hul huok hult hql hqok hqz hinv ⊢;refine Qy (Qy (Qx fun K hK=> ?_));refine Qq Y Y Y (Qk igeq Y Y Y Y (Qj (hK _ _ (Qz ?_))));clear hK K;refine Q2 Y (fun h=> ?_) (fun h=> ?_)
  · obtain ⟨j,rfl⟩:∃j,J=j+1:=⟨J - 1,by omega⟩
    have ej:(((j+1:Nat):Int) - 1)=(j:Int):=by omega
    rw [ej];have W:=win (n:=n) (j:=j) huok hVok (by omega) (by omega) hst.1 hst.2 hult;have c1:=huok.get (j+n);have c2:=huok.get (j+n - 1);have c3:=huok.get (j+n - 2);have c4:=hVok.get (n - 1);have c5:=hVok.get (n - 2);simp only [BB] at c1 c2 c3 c4 c5
    have i1:((j:Int)+n).toNat*1=j+n:=by omega
    have i2:((j:Int)+n - 1).toNat*1=j+n - 1:=by omega
    have i3:((j:Int)+n - 2).toNat*1=j+n - 2:=by omega
    have i4:((n:Int) - 1).toNat*1=n - 1:=by omega
    have i5:((n:Int) - 2).toNat*1=n - 2:=by omega
    refine QW (Qz (Qy (Q3 (Qy ?_))));refine XX mixed 32 (.p 0 (.p 1 (.p 2 (.p 3 (.p 4 (.p 6 (.p 7 (.p 8 (.p 9 (.p 10 (.p 11 (.p 13 (.p 14 (.p 15 (.p 16 (.p 17 (.p 18 (.p 20 (.p 21 (.p 22 (.p 23 (.p 25 (.p 26 (.p 27 (.p 28 (.f 5 (.f 12 (.f 19 (.f 24 (.f 29 (.m 30 (.p 31 .done)))))))))))))))))))))))))))))))) (by kernel_rfl) (fun K hK=> ?_);refine Qq Y Y Y (Qq Y Y Y (Qq Y Y Y (Qk (iadd (by omega) (by omega)) Y Y Y Y ?_)))
    refine XJ (la+1) Y Y Y (by simp;omega) Y sNat (by omega) (by omega) Y ?_
    rw [i1];refine Qq Y Y Y (Qq Y Y Y (Qq Y Y Y (Qk (iadd (by omega) (by omega)) Y Y Y Y ?_)))
    refine Qk (isub (by omega) (by omega)) Y Y Y Y ?_
    refine XJ (la+1) Y Y Y (by simp;omega) Y sNat (by omega) (by omega) Y ?_
    rw [i2];refine Qq Y Y Y (Qq Y Y Y (Qq Y Y Y (Qk (iadd (by omega) (by omega)) Y Y Y Y ?_)))
    refine Qk (isub (by omega) (by omega)) Y Y Y Y ?_
    refine XJ (la+1) Y Y Y (by simp;omega) Y sNat (by omega) (by omega) Y ?_
    rw [i3];refine Qq Y Y Y (Qq Y Y Y (Qk (isub (by omega) (by omega)) Y Y Y Y ?_))
    refine XJ (n+1) Y Y Y (by simp;omega) Y sNat (by omega) (by omega) Y ?_
    rw [i4];refine Qq Y Y Y (Qq Y Y Y (Qk (isub (by omega) (by omega)) Y Y Y Y ?_))
    refine XJ (n+1) Y Y Y (by simp;omega) Y sNat (by omega) (by omega) Y ?_
    rw [i5];skip
    refine QQ Y Y Y Y (Xo (by omega)) lInt Y ?_
    refine QQ Y Y Y Y (Xo (by omega)) lInt Y ?_
    refine QQ Y Y Y Y (Xo (by omega)) lInt Y ?_
    refine QQ Y Y Y Y (Xo (by omega)) lInt Y ?_
    refine QQ Y Y Y Y (Xo (by omega)) lInt Y ?_
    refine QV goguess (guess_ok _ _ _ _ _ c1.1 W.1 hst.2 c4.2 c2.1 c2.2 c3.1 c3.2 c5.1 c5.2) Y Y Y Y ?_
    generalize gs (us.getD (j+n) 0) (us.getD (j+n - 1) 0) (us.getD (j+n - 2) 0) (V.getD (n - 1) 0) (V.getD (n - 2) 0)=gg at*;obtain ⟨-,g1,g2,g3,g4,uz,vpos,vlt⟩:=W
    have hVJ:val V*BB ^ j<BB ^ (j+n+1):=by
      have h1:val V*BB ^ j<BB ^ n*BB ^ j:=Int.mul_lt_mul_of_pos_right vlt (Bpos _)
      have h2:BB ^ n*BB ^ j≤BB ^ (j+n+1):=by
        rw [←Int.pow_add,show j+n+1=(n+j)+1 by omega,Int.pow_succ];have:=Bpos (n+j);simp only [BB] at*;omega
      omega
    have hRlo: -(val V*BB ^ j)≤val us - gg*val V*BB ^ j:=by
      have:(gg - 1)*val V*BB ^ j=gg*val V*BB ^ j - val V*BB ^ j:=by grind
      omega
    have hRhi:val us - gg*val V*BB ^ j<val V*BB ^ j:=by
      have:(gg+1)*val V*BB ^ j=gg*val V*BB ^ j+val V*BB ^ j:=by grind
      omega
    refine Qv Y Y Y (Qj (hK _ _ (Qz (Qy ?_))));clear hK K;refine Qx (fun K hK=> ?_);refine Qv Y Y Y (Qj (hK _ _ (Qz (Qy (Qy ?_)))));clear hK K;refine Qx (fun K hK=> ?_);refine Qq Y Y Y (Qk (iadd (by omega) (by omega)) Y Y Y Y ?_);refine Qq Y Y Y (Qj (hK _ _ (Qz (Q3 ?_))));clear hK K
    refine Qs (α:=Nat × List Int × Int) (fun s=>s.1≤n+1∧Win us V j (-gg) (-1073741824) 0 s.1 s.2.1 s.2.2)
      (fun s=>[(0, .ct (natC a)),(1, .ct (natC b)),(7, .ct (intC n)),(10, .ct (intC k)),(11, .own 0),(12, .own 1),(13, .own 2),(14, .ct (intC j)),(15, .ct (intC gg)),(16, .ct (intC s.2.2)),(113, .ct (intC ((n:Int)+1))),(114, .ct (intC s.1))])
      (fun s=>[(2, .row 3 1 (ints qs)),(1, .row 3 1 (ints V)),(0, .row 3 1 (ints s.2.1))])
      (fun s=>n+1 - s.1) (0,us,0) ⟨Nat.zero_le _,Win.zero huok (by decide) (by decide)⟩ (by exact Qu Y ⟨rfl,rfl,rfl,rfl,rfl,rfl,rfl,rfl,rfl,rfl,rfl,rfl,trivial⟩) ?_
    · rintro ⟨i,zs,c⟩ ⟨hi,HW⟩
      dsimp only at hi HW ⊢;have hzl:=HW.len;refine Qy (Qx fun K hK=> ?_);refine Qk ilss Y Y Y Y (Qj (hK _ _ (Qz (Qy ?_))));clear hK K;refine Q2 Y (fun h2=> ?_) (fun h2=> ?_)
      · have d1:=HW.ok.get (j+i);have d2:=hVok.get i;simp only [BB] at d1 d2;have d3:=HW.lo;have d4:=HW.hi;have GB:=gd_bd g1 g2 d2.1 d2.2 d1.1 d1.2 d3 d4
        have k1:((j:Int)+i).toNat*1=j+i:=by omega
        have k2:(i:Int).toNat*1=i:=by omega
        refine QW (Qz (Qy (Q3 (Qy (Qx fun K hK=> ?_)))));refine Qq Y Y Y (Qv Y Y Y (Qj (hK _ _ (Qz (Qy ?_)))));clear hK K;refine XX mixed 16 (.p 0 (.p 1 (.p 2 (.p 3 (.p 4 (.p 6 (.p 7 (.p 8 (.p 9 (.p 13 (.f 5 (.f 10 (.p 11 (.p 12 (.p 14 (.p 15 .done)))))))))))))))) (by kernel_rfl) (fun K hK=> ?_);refine Qq Y Y Y (Qq Y Y Y (Qq Y Y Y (Qk (iadd (by omega) (by omega)) Y Y Y Y ?_)))
        refine XJ (la+1) Y Y Y (by simp;omega) Y sNat (by omega) (by omega) Y ?_
        rw [k1];refine Qq Y Y Y (Qq Y Y Y (Qq Y Y Y (XJ (n+1) Y Y Y (by simp;omega) Y sNat (by omega) (by omega) Y ?_)));rw [k2];refine Qq Y Y Y (QQ Y Y Y Y (Xo (by omega)) lInt Y ?_)
        refine QQ Y Y Y Y (Xo (by omega)) lInt Y ?_
        refine Qk (imul (by omega) (by omega)) Y Y Y Y ?_
        refine Qk (isub (by omega) (by omega)) Y Y Y Y ?_
        refine Qk (iadd (by omega) (by omega)) Y Y Y Y ?_
        refine Qv Y Y Y (Qj (hK _ _ (Qz ?_)));clear hK K;refine Qx (fun K hK=> ?_);refine Qq Y Y Y (Qq Y Y Y (Qq Y Y Y (Qk (iadd (by omega) (by omega)) Y Y Y Y ?_)));refine Qq Y Y Y (Qk iand30 Y Y Y Y (Qq Y Y Y (Qk ishr30 Y Y Y Y ?_)));skip
        refine XJ (la+1) Y Y Y (by simp;omega) Y sNat (by omega) (by omega) Y ?_
        rw [k1]
        refine Xj Y Y Y Y Y zInt (by simp [Ent.cs];omega) ?_
        simp only [Ent.setc,ZX];refine Qv Y Y Y (Qj (hK _ _ (Qz ?_)));clear hK K;refine Qx (fun K hK=> ?_)
        refine Qk (iadd (by omega) (by omega)) Y Y Y Y ?_
        refine Qq Y Y Y (Qj (hK _ _ (Q6 ?_)));clear hK K
        have ef:zs.getD (j+i) 0 - gg*V.getD i 0+c=zs.getD (j+i) 0+ -gg*V.getD i 0+c:=by rw [Int.neg_mul];omega
        have HS:=HW.step (by omega) (by rw [←ef];exact GB.2.2.1) (by rw [←ef];exact GB.2.2.2);rw [←ef] at HS;refine Q9 (i+1,_,_) (by dsimp only;omega) ⟨by dsimp only;omega,HS⟩ (by exact Qu Y ⟨rfl,rfl,rfl,rfl,rfl,rfl,rfl,rfl,rfl,rfl,rfl,by simp only [Int.natCast_add];rfl,trivial⟩)
      · have hi' :i=n+1:=by omega
        subst hi';have hzr:=HW.lt uz;have hval:=HW.value;rw [Zc (xs:=V) (by omega),show j+(n+1)=j+n+1 by omega] at hval
        have hR2:val zs+c*BB ^ (j+n+1)=val us - gg*val V*BB ^ j:=by rw [hval,Int.neg_mul,Int.neg_mul];omega
        have SD:=sub_done hVJ hRlo hRhi hzr.1 hzr.2 HW.hi hR2;refine Qm (Qz (Qy (Qy (Qx fun K hK=> ?_))));refine Qq Y Y Y (Qk ilss Y Y Y Y (Qj (hK _ _ (Qz ?_))));clear hK K;refine Q2 Y (fun h3=> ?_) (fun h3=> ?_)
        · obtain ⟨s1,s2⟩:=SD.2 h3;have hus0:=Y7 huok
          have gpos:1≤gg:=by
            by_cases h0:gg=0
            · subst h0;simp at s2;omega
            · omega
          have zz:∀p,j+n+1≤p→zs.getD p 0=0:=fun p hp=>by rw [HW.same p (by omega)];exact uz p hp
          have hzok:=HW.ok;clear HW hval hR2 SD;refine Qy (Qx fun K hK=> ?_);refine Qq Y Y Y (Qk (isub (by omega) (by omega)) Y Y Y Y ?_);refine Qv Y Y Y (Qv Y Y Y (Qj (hK _ _ (Qz (Qy ?_)))));clear hK K;refine Qx (fun K hK=> ?_);refine Qq Y Y Y (Qk (iadd (by omega) (by omega)) Y Y Y Y ?_);refine Qq Y Y Y (Qj (hK _ _ (Qz (Q3 ?_))));clear hK K
          refine Qs (α:=Nat × List Int × Int) (fun s=>s.1≤n+1∧Win zs V j 1 0 1 s.1 s.2.1 s.2.2)
            (fun s=>[(0, .ct (natC a)),(1, .ct (natC b)),(7, .ct (intC n)),(10, .ct (intC k)),(11, .own 0),(12, .own 1),(13, .own 2),(14, .ct (intC j)),(15, .ct (intC (gg - 1))),(16, .ct (intC s.2.2)),(147, .ct (intC ((n:Int)+1))),(148, .ct (intC s.1))])
            (fun s=>[(2, .row 3 1 (ints qs)),(1, .row 3 1 (ints V)),(0, .row 3 1 (ints s.2.1))])
            (fun s=>n+1 - s.1) (0,zs,0) ⟨Nat.zero_le _,Win.zero hzok (by decide) (by decide)⟩ (by exact Qu Y ⟨rfl,rfl,rfl,rfl,rfl,rfl,rfl,rfl,rfl,rfl,rfl,rfl,trivial⟩) ?_
          rintro ⟨i,ys,c'⟩ ⟨hi,HW⟩
          dsimp only at hi HW ⊢;have hyl:=HW.len;refine Qy (Qx fun K hK=> ?_);refine Qk ilss Y Y Y Y (Qj (hK _ _ (Qz (Qy ?_))));clear hK K;refine Q2 Y (fun h4=> ?_) (fun h4=> ?_)
          · have d1:=HW.ok.get (j+i);have d2:=hVok.get i;simp only [BB] at d1 d2;have d3:=HW.lo;have d4:=HW.hi
            have k1:((j:Int)+i).toNat*1=j+i:=by omega
            have k2:(i:Int).toNat*1=i:=by omega
            refine QW (Qz (Qy (Q3 (Qy (Qx fun K hK=> ?_)))));refine Qq Y Y Y (Qv Y Y Y (Qj (hK _ _ (Qz (Qy ?_)))));clear hK K;refine XX mixed 14 (.p 0 (.p 1 (.p 2 (.p 3 (.p 4 (.p 6 (.p 7 (.p 8 (.p 11 (.f 5 (.f 9 (.p 10 (.p 12 (.p 13 .done)))))))))))))) (by kernel_rfl) (fun K hK=> ?_);refine Qq Y Y Y (Qq Y Y Y (Qq Y Y Y (Qk (iadd (by omega) (by omega)) Y Y Y Y ?_)))
            refine XJ (la+1) Y Y Y (by simp;omega) Y sNat (by omega) (by omega) Y ?_
            rw [k1];refine Qq Y Y Y (Qq Y Y Y (XJ (n+1) Y Y Y (by simp;omega) Y sNat (by omega) (by omega) Y ?_));rw [k2];refine Qq Y Y Y (QQ Y Y Y Y (Xo (by omega)) lInt Y ?_)
            refine QQ Y Y Y Y (Xo (by omega)) lInt Y ?_
            refine Qk (iadd (by omega) (by omega)) Y Y Y Y ?_
            refine Qk (iadd (by omega) (by omega)) Y Y Y Y ?_
            refine Qv Y Y Y (Qj (hK _ _ (Qz ?_)));clear hK K;refine Qx (fun K hK=> ?_);refine Qq Y Y Y (Qq Y Y Y (Qq Y Y Y (Qk (iadd (by omega) (by omega)) Y Y Y Y ?_)));refine Qq Y Y Y (Qk iand30 Y Y Y Y (Qq Y Y Y (Qk ishr30 Y Y Y Y ?_)));skip
            refine XJ (la+1) Y Y Y (by simp;omega) Y sNat (by omega) (by omega) Y ?_
            rw [k1]
            refine Xj Y Y Y Y Y zInt (by simp [Ent.cs];omega) ?_
            simp only [Ent.setc,ZX];refine Qv Y Y Y (Qj (hK _ _ (Qz ?_)));clear hK K;refine Qx (fun K hK=> ?_)
            refine Qk (iadd (by omega) (by omega)) Y Y Y Y ?_
            refine Qq Y Y Y (Qj (hK _ _ (Q6 ?_)));clear hK K
            have ef:ys.getD (j+i) 0+V.getD i 0+c' =ys.getD (j+i) 0+1*V.getD i 0+c' :=by omega
            have HS:=HW.step (by omega) (by rw [←ef];omega) (by rw [←ef];omega);rw [←ef] at HS;refine Q9 (i+1,_,_) (by dsimp only;omega) ⟨by dsimp only;omega,HS⟩ (by exact Qu Y ⟨rfl,rfl,rfl,rfl,rfl,rfl,rfl,rfl,rfl,rfl,rfl,by simp only [Int.natCast_add];rfl,trivial⟩)
          · have hi' :i=n+1:=by omega
            subst hi';have hyr:=HW.lt zz;have hval:=HW.value;rw [Zc (xs:=V) (by omega),show j+(n+1)=j+n+1 by omega,Int.one_mul,s1] at hval;have AD:=add_done hVJ hRlo s2 hyr.1 hyr.2 hval;have hyok:=HW.ok
            have k3:(j:Int).toNat*1=j:=by omega
            clear HW hval;refine Qm (Qz (Qx fun K hK=> ?_));refine Qq Y Y Y (Qq Y Y Y (Qq Y Y Y (XJ (la - n+1) Y Y Y (by simp;omega) Y sNat (by omega) (by omega) Y ?_)));rw [k3]
            refine Xj Y Y Y Y Y zInt (by simp [Ent.cs];omega) ?_
            simp only [Ent.setc,ZX];refine Qj (hK _ _ (Qz ?_));clear hK K;refine Qx (fun K hK=> ?_);refine Qq Y Y Y (Qk (isub (by omega) (by omega)) Y Y Y Y ?_);refine Qv Y Y Y (Qj (hK _ _ (Q6 ?_)));clear hK K;refine Q9 (j,ys,qs.set j (gg - 1)) (by dsimp only;omega) ⟨by dsimp only;omega,by dsimp only;omega,hyok,?_,by simp [hql],hqok.set _ (by simp only [BB];omega),?_,?_⟩ (by exact Qu Y ⟨rfl,rfl,rfl,rfl,rfl,rfl,rfl,rfl,trivial⟩)
            all_goals dsimp only
            · omega
            · intro p hp;rw [getD_set (by omega),if_neg (by omega)];exact hqz p (by omega)
            · rw [AD,val_set (by omega),hqz j (by omega),←hinv];grind
        · have s1:=SD.1 h3;have hzok:=HW.ok
          have k3:(j:Int).toNat*1=j:=by omega
          clear HW hval hR2 SD;refine QW (Qz (Qx fun K hK=> ?_));refine Qq Y Y Y (Qq Y Y Y (Qq Y Y Y (XJ (la - n+1) Y Y Y (by simp;omega) Y sNat (by omega) (by omega) Y ?_)));rw [k3]
          refine Xj Y Y Y Y Y zInt (by simp [Ent.cs];omega) ?_
          simp only [Ent.setc,ZX];refine Qj (hK _ _ (Qz ?_));clear hK K;refine Qx (fun K hK=> ?_);refine Qq Y Y Y (Qk (isub (by omega) (by omega)) Y Y Y Y ?_);refine Qv Y Y Y (Qj (hK _ _ (Q6 ?_)));clear hK K;refine Q9 (j,zs,qs.set j gg) (by dsimp only;omega) ⟨by dsimp only;omega,by dsimp only;omega,hzok,?_,by simp [hql],hqok.set _ (by simp only [BB];omega),?_,?_⟩ (by exact Qu Y ⟨rfl,rfl,rfl,rfl,rfl,rfl,rfl,rfl,trivial⟩)
          all_goals dsimp only
          · omega
          · intro p hp;rw [getD_set (by omega),if_neg (by omega)];exact hqz p (by omega)
          · rw [s1,val_set (by omega),hqz j (by omega),←hinv];grind
  · have hJ0:J=0:=by omega
    subst hJ0
    have hb0:0<b:=by
      rcases Nat.eq_zero_or_pos b with h0|h0
      · subst h0;rw [limbs_zero] at hN;simp at hN;omega
      · exact h0
    rw [Int.pow_zero,Int.mul_one] at hult;have FV:=fin_val (k:=k) (a:=a) hb0 (Y7 huok) (by rw [←hVv];exact hult) (by rw [←hVv,←hUv];exact hinv)
    have hVn:val V<BB ^ n:=by
      have e:=val_of_zeros (xs:=V) (p:=n) (fun p hp=>by
        rcases Nat.eq_or_lt_of_le hp with rfl|hp
        · exact hst.1
        · exact getD_ge (by omega))
      rw [e];exact (YX hVok n).2
    have ht:=trim_take (n:=n) huok (by omega);rw [FV.2,Int.toNat_natCast] at ht
    have hqs:trimL qs=limbs (a/b):=by rw [Za hqok,FV.1,Int.toNat_natCast]
    have hrl:(limbs (a%b*2 ^ k)).length≤n:=by rw [←ht];exact Nat.le_trans (trim_len _) (by simp;omega)
    have hsh:=shr_limbs (a%b) k hk30;have hsl:=shrL_len k (limbs (a%b*2 ^ k));have hrok:=X2 (a%b*2 ^ k);have hsg:=shrL_get k (limbs (a%b*2 ^ k));clear hfl hinv hult hUv hVv hbn htop;refine Y8 0 _ Y (Zy _ _) noBor_sub (Qm (Qz (Qy (Qx fun K hK=> ?_))));refine Qq Y Y Y (Qq Y Y Y (Ops.cutHi Y Y Y sNat (by omega) (by rw [List.length_map];omega) Y ?_));rw [←List.map_take,eN]
    refine QV gotrim (trim_ok _ (by simp;omega)) Y Y Y Y ?_
    rw [ht];generalize limbs (a%b*2 ^ k)=rs at*;generalize shrL k rs=ss at*;refine Qv Y Y Y (Qj (hK _ _ (Qz (Qy ?_))));clear hK K;refine Qx (fun K hK=> ?_);refine Qq Y Y Y (Qh Y Y sNat.und (List.length_map ..) Y (Zp 0 rs.length Y Y Y Y sNat (by omega) (by omega) Y Y Y ?_));rw [ints_made];refine Qv Y Y Y (Qj (hK _ _ (Qz (Qy (Qy ?_)))));clear hK K;refine Qx (fun K hK=> ?_);refine Qq Y Y Y (Qh Y Y sNat.und (List.length_map ..) Y (Qk (isub (by omega) (by omega)) Y Y Y Y ?_));refine Qv Y Y Y (Qj (hK _ _ (Qz (Q3 ?_))));clear hK K
    refine Qs (α:=Nat × List Int) (fun s=>s.1≤rs.length∧s.2.length=rs.length∧(∀p,s.1≤p→s.2.getD p 0=ss.getD p 0))
      (fun s=>[(10, .ct (intC k)),(13, .own 2),(21, .ct (intsC rs)),(22, .own 0),(23, .ct (intC ((s.1:Int) - 1)))])
      (fun s=>[(0, .row 3 1 (ints s.2)),(2, .row 3 1 (ints qs)),(1, .row 3 1 (ints V))])
      (fun s=>s.1) (rs.length,List.replicate rs.length 0) ⟨Nat.le_refl _,by simp,?_⟩ (by exact Qu Y ⟨rfl,rfl,rfl,rfl,rfl,trivial⟩) ?_
    · intro p hp;dsimp only at hp ⊢;rw [getD_ge (by simp;omega),getD_ge (by omega)]
    rintro ⟨J,zs⟩ ⟨hJ,hzl,hz⟩
    dsimp only at hJ hzl hz ⊢;refine Qy (Qy (Qx fun K hK=> ?_));refine Qq Y Y Y (Qk igeq Y Y Y Y (Qj (hK _ _ (Qz ?_))));clear hK K;refine Q2 Y (fun h=> ?_) (fun h=> ?_)
    · obtain ⟨i,rfl⟩:∃i,J=i+1:=⟨J - 1,by omega⟩
      have ej:(((i+1:Nat):Int) - 1)=(i:Int):=by omega
      rw [ej];have d1:=hrok.get i;have d2:=hrok.get (i+1);simp only [BB] at d1 d2;have k1:(i:Int).toNat=i:=Int.toNat_natCast i
      have k2:(i:Int).toNat*1=i:=by omega
      have k3:((i:Int)+1).toNat=i+1:=by omega
      refine QW (Qz (Qy (Q3 ?_)));refine XX mixed 16 (.p 0 (.p 1 (.p 2 (.p 3 (.p 4 (.p 7 (.p 8 (.p 9 (.p 12 (.f 10 (.m 5 (.p 6 (.p 11 (.p 13 (.p 14 (.p 15 (.a 16 .done))))))))))))))))) (by kernel_rfl) (fun K hK=> ?_);refine Qq Y Y Y (Qq Y Y Y (Qq Y Y Y (Qq Y Y Y (Qk (iadd (by omega) (by omega)) Y Y Y Y ?_))));refine Qq Y Y Y (Qq Y Y Y (Xx Y Y Y sNat (by omega) (Xs (by omega) (by omega)) Y ?_));refine Qq Y Y Y (X1 Y Y Y lInt Y ?_);rw [k1]
      refine QV goat (at_ok rs _ (by omega)) Y Y Y Y ?_
      rw [k3]
      refine Qk (ishl30 (by omega) (by omega)) Y Y Y Y ?_
      skip
      refine Qk (ior30 (by omega) (by omega) (by omega) (by omega)) Y Y Y Y ?_
      refine Qk (ishr k Y (by omega)) Y Y Y Y ?_
      refine Qk iand30 Y Y Y Y (XJ rs.length Y Y Y (by simp;omega) Y sNat (by omega) (by omega) Y ?_);rw [k2]
      refine Xj Y Y Y Y Y zInt (by simp [Ent.cs];omega) ?_
      simp only [Ent.setc,ZX];refine Qj (hK _ _ (Qz ?_));clear hK K;refine Qx (fun K hK=> ?_);refine Qq Y Y Y (Qk (isub (by omega) (by omega)) Y Y Y Y ?_);refine Qv Y Y Y (Qj (hK _ _ (Q6 ?_)));clear hK K;refine Q9 (i,_) (by dsimp only;omega) ⟨by dsimp only;omega,?_,?_⟩ (by exact Qu Y ⟨rfl,rfl,rfl,rfl,rfl,trivial⟩)
      · simp [hzl]
      · intro p hp;dsimp only at hp ⊢;rw [getD_set (by omega)];split
        · rename_i e;subst e;exact (hsg i (by omega)).symm
        · exact hz p (by omega)
    · have hJ0:J=0:=by omega
      subst hJ0
      have hzs:zs=ss:=by
        apply List.ext_getElem (by omega)
        intro p h1 h2;have:=hz p (Nat.zero_le _)
        simpa [List.getD_eq_getElem?_getD,h1,h2] using this
      subst hzs;refine Y8 0 _ Y (Zy _ _) noBor_sub (Y8 2 _ Y (Zy _ _) noBor_sub (Qm (Qz (Qy (Qx fun K hK=> ?_)))));refine Qq Y Y Y (QV gotrim (trim_ok _ (by omega)) Y Y Y Y ?_);rw [hqs];refine Qq Y Y Y (QV gotrim (trim_ok _ (by omega)) Y Y Y Y ?_);rw [hsh];refine Qv Y Y Y (Qv Y Y Y (Qv Y Y Y (Qj (hK _ _ (Qz (Q4 ?_))))));clear hK K;refine Q1 [_,_,_] rfl (QX Y (QX Y (QX Y QZ))) Y Y
end Go.Proofs.YtojkdfilabmafaaGreat
namespace Go.Proofs.YtojkdfilabmafaaGreat
open Go.Own Go.Limbs
theorem uBool:Tryz.prog.underlying 4=some .bool:=Tryz.underlying4
theorem zvFrac:(Tryz.prog.info? 88).map (·.zero)=some (some (.agg #[.bool false, .slice none 0 0, .slice none 0 0])):=by kernel_rfl
theorem fF0:fldInfo Tryz.prog 88 0=some (0,some 1):=by kernel_rfl
theorem fF1:fldInfo Tryz.prog 88 1=some (1,some 1):=by kernel_rfl
theorem fF2:fldInfo Tryz.prog 88 2=some (2,some 1):=by kernel_rfl
theorem lFrac:LdN Tryz.prog 88 3:=LdN.of _ Tryz.underlying88 rfl (by kernel_rfl)
theorem szFrac:(Tryz.prog.info? 88).map (·.size)=some 3:=by kernel_rfl
theorem bFrac:bInfo Tryz.prog 88=some (.agg #[.bool false, .slice none 0 0, .slice none 0 0],[(0,some 1),(1,some 1),(2,some 1)]):=by kernel_rfl
structure Fr where
  neg : Bool
  num : Nat
  den : Nat
abbrev frCs (f : Fr) : List CT := [boolC f.neg, natC f.num, natC f.den]
abbrev fracC (f : Fr) : CT := .fr (aggT (frCs f))
abbrev fracsC (fs : List Fr) : CT := .fr (sliceT 3 (fs.map frCs))
abbrev frac0 : CT := .fr (aggT [boolC false, .ex (.slice none 0 0), .ex (.slice none 0 0)])
attribute [local irreducible] Go.Own.Fin Ok Ops St
theorem limbs_len_pos{n:Nat}:0<(limbs n).length↔n≠0:=by
  constructor
  · intro h h0;subst h0;rw [limbs_zero] at h;simp at h
  · intro h;rw [limbs_pos h];simp
theorem limbs_len_posI{n:Nat}:decide ((limbs n).length>(0:Int))=decide (n≠0):=by
  rw [decide_eq_decide,←limbs_len_pos];omega
theorem goAdd:InGo Tryz.prog 246:=InGo.of Tryz.func246 (by kernel_rfl) (by kernel_rfl)
def sumN (n1 : Bool) (a : Nat) (n2 : Bool) (b : Nat) : Nat := if n1 = n2 then a + b else if a < b then b - a else a - b
def sumS (n1 : Bool) (a : Nat) (n2 : Bool) (b : Nat) : Bool := if n1 = n2 then n1 else if a < b then n2 else n1
def redF (neg : Bool) (a b : Nat) : Fr := ⟨neg && decide (a / Nat.gcd a b ≠ 0), a / Nat.gcd a b, b / Nat.gcd a b⟩
theorem goreduced:InGo Tryz.prog 253:=InGo.of Tryz.func253 (by kernel_rfl) (by kernel_rfl)
end Go.Proofs.YtojkdfilabmafaaGreat
namespace Go.Proofs.YtojkdfilabmafaaGreat
open Go.Own Go.Limbs
def sg (n : Bool) (a : Nat) : Int := if n then -(a : Int) else a
def ofQ (q : Rat) : Fr := ⟨decide (q.num < 0), q.num.natAbs, q.den⟩
abbrev ratC (q : Rat) : CT := fracC (ofQ q)
theorem sg_natAbs(x:Int):sg (decide (x<0)) x.natAbs=x:=by
  unfold sg;split
  · rename_i h;simp at h;omega
  · rename_i h;simp at h;omega
theorem natAbs_sg(n:Bool)(a:Nat):(sg n a).natAbs=a:=by unfold sg;split <;>omega
theorem ofQ_sg(q:Rat):sg (ofQ q).neg (ofQ q).num=q.num:=sg_natAbs _
theorem redF_q(n:Bool)(a b:Nat)(hb:0<b):redF n a b=ofQ (mkRat (sg n a) b):=by
  have hb' :b≠0:=by omega
  have hg:0<Nat.gcd a b:=Nat.gcd_pos_of_pos_right _ hb;rw [Rat.mkRat_def,dif_neg hb',Rat.normalize_eq];unfold redF ofQ;simp only [natAbs_sg];have hd:(Nat.gcd a b:Int) ∣ (a:Int):=Int.natCast_dvd_natCast.mpr (Nat.gcd_dvd_left a b)
  have e1:(sg n a/(Nat.gcd a b:Int))=sg n (a/Nat.gcd a b):=by
    unfold sg;split
    · rw [Int.neg_ediv_of_dvd hd,Int.natCast_ediv]
    · rw [Int.natCast_ediv]
  rw [e1,natAbs_sg]
  congr 1
  generalize a/Nat.gcd a b=c;unfold sg;cases n
  · simp
  · show (true&&decide (c≠0))=decide (-(c:Int)<0);rw [Bool.true_and,decide_eq_decide];omega
attribute [local irreducible] Go.Own.Fin Ok Ops St
def Sz (a : Nat) : Prop := (limbs a).length ≤ 30
theorem dne(p q:Bool):decide (p≠q)=(p !=q):=by cases p <;>cases q <;>rfl
attribute [local irreducible] OkF
set_option maxHeartbeats 2000000 in
theorem DivMod_less(a b:Nat)(hab:a<b)(hl:(limbs b).length≤256):Ok Tryz.prog 254 [natC a,natC b] (.fr (tupT [natC (a/b),natC (a%b),intC 0])):=by
  have hla:(limbs a).length≤(limbs b).length:=Xr (by omega)
  have hlb:0<(limbs b).length:=by
    rcases Nat.eq_zero_or_pos (limbs b).length with h|h
    · have:=limbs_nil (List.eq_nil_of_length_eq_zero h);omega
    · exact h
  refine Ok.enter Tryz.func254 J _ Tryz.ntmps254 J ?_
  intro S w;refine Qy (Qx fun K hK=> ?_);refine Qv J J J (Qv J J J (Qv J J J (Qj (hK _ _ (Qz (Qy ?_))))));clear hK K;refine Qx (fun K hK=> ?_);refine Qq J J J (QV gotrim (trim_ok _ (by omega)) J J J J ?_);rw [trim_of_limbs];refine Qv J J J (Qj (hK _ _ (Qz (Qy ?_))));clear hK K;refine Qx (fun K hK=> ?_);refine Qq J J J (Qh J J sNat.und (List.length_map ..) J (Qv J J J (Qj (hK _ _ (Qz (Qy (Q3 (Qy ?_))))))));clear hK K;refine Qx (fun K hK=> ?_);refine Qq J J J (Qk ieql J J J J (Qv J J J (Qj (hK _ _ (Qz ?_)))));clear hK K;refine Q2 J (fun h=>by exfalso;omega) (fun h=> ?_);clear h;refine Qy (Qx fun K hK=> ?_);refine Qq J J J (Qq J J J (QV goCompare (Compare_ok a b (by omega) (by omega)) J J J J ?_));refine Qk ilss J J J J (Qv J J J (Qj (hK _ _ (Qz ?_))));clear hK K;refine Q2 J (fun h=> ?_) (fun h=> ?_)
  · refine Qy (Qx fun K hK=> ?_);refine Qq J J J (QV goClone (Clone_ok _ (by omega)) J J J J ?_);refine Qv J J J (Qv J J J (Qv J J J (Qj (hK _ _ (Qz (Q4 (Qb (QY ?_))))))));clear hK K;rw [Nat.div_eq_of_lt hab,Nat.mod_eq_of_lt hab,natC_zero];refine Q1 [_,_,_] rfl (AllRes.nilS 1 J (QX J (QX J QZ))) J J
  · exfalso;apply h;rw [cmpI_eq,if_pos (by omega)];decide
theorem DivMod_ok(a b:Nat)(hb:0<b)(hla:(limbs a).length≤256)(hlb:(limbs b).length≤256):Ok Tryz.prog 254 [natC a,natC b] (.fr (tupT [natC (a/b),natC (a%b),intC 0])):=by
  by_cases h:a<b
  · exact DivMod_less a b h hlb
  · by_cases h2:2≤(limbs b).length
    · exact DivMod_big a b h2 (by omega) hla
    · refine DivMod_small a b hb ?_ hla
      have:=Xl (n:=b) (k:=1) (by omega)
      simpa using this
set_option maxHeartbeats 2000000 in
theorem Gcd_ok(a b:Nat)(hla:(limbs a).length≤256)(hlb:(limbs b).length≤256):Ok Tryz.prog 279 [natC a,natC b] (natC (Nat.gcd a b)):=by
  refine Ok.enter Tryz.func279 J _ Tryz.ntmps279 J ?_
  intro S w;refine Qy (Qx fun K hK=> ?_);refine Qv J J J (Qj (hK _ _ (Qz (Qy (Qy ?_)))));clear hK K;refine Qx (fun K hK=> ?_);refine Qq J J J (QV goClone (Clone_ok _ (by omega)) J J J J ?_);refine Qq J J J (QV goClone (Clone_ok _ (by omega)) J J J J ?_);refine Qv J J J (Qv J J J (Qj (hK _ _ (Qz (Q3 ?_)))));clear hK K
  refine Qs (α:=Nat × Nat) (fun s=>(limbs s.1).length≤256∧(limbs s.2).length≤256∧Nat.gcd s.1 s.2=Nat.gcd a b)
    (fun s=>[(0, .ct (natC s.1)),(1, .ct (natC s.2))]) (fun _=>[]) (fun s=>s.2) (a,b) ⟨hla,hlb,rfl⟩ (by exact Qu J ⟨rfl,rfl,trivial⟩) ?_
  rintro ⟨p,q⟩ ⟨hp,hq,hg⟩
  dsimp only at hq hp hg ⊢;refine Qy (Qy (Qx fun K hK=> ?_));refine Qq J J J (Qh J J sNat.und (List.length_map ..) J (Qk igtr J J J J (Qj (hK _ _ (Qz ?_)))));clear hK K;refine Q2 J (fun h=> ?_) (fun h=> ?_)
  · have hq0:0<q:=by
      rcases Nat.eq_zero_or_pos q with h0|h0
      · subst h0;rw [limbs_zero] at h;simp at h
      · exact h0
    refine QW (Qz (Q3 (Qy (Qx fun K hK=> ?_))));refine Qq J J J (Qq J J J (QV goDivMod (DivMod_ok p q hq0 hp hq) J J J J (Qq J J J (QK J J J J (QK J J J J (QK J J J J (Qv J J J (Qv J J J (Qv J J J (Qj (hK _ _ (Qz (Qy (Qy ?_))))))))))))));clear hK K;refine Qx (fun K hK=> ?_);refine Qq J J J (Qk ineq J J J J (Qj (hK _ _ (Qz (Xy J (QW (Qz ?_)))))));clear hK K;refine Qx (fun K hK=> ?_);refine Qq J J J (Qq J J J (Qv J J J (Qv J J J (Qj (hK _ _ (Ql (Q6 ?_)))))));clear hK K;have hm:=Nat.mod_lt p hq0;refine Q9 (q,p%q) hm ⟨hq,?_,?_⟩ (by exact Qu J ⟨rfl,rfl,trivial⟩)
    · have:=Xr (Nat.le_of_lt hm);dsimp only;omega
    · dsimp only;rw [←hg,Nat.gcd_comm,←Nat.gcd_rec,Nat.gcd_comm]
  · have hq0:q=0:=limbs_nil (List.eq_nil_of_length_eq_zero (by omega))
    have e:p=Nat.gcd a b:=by rw [←hg,hq0,Nat.gcd_zero_right]
    rw [←e];refine Qm (Qz (Qy (Qx fun K hK=> ?_)));refine Qq J J J (Qv J J J (Qj (hK _ _ (Qz (Q4 ?_)))));clear hK K;refine Q1 [_] rfl (QX J QZ) J J
set_option maxHeartbeats 2000000 in
theorem reduced_ok(neg:Bool)(a b:Nat)(h0:0<b)(hla:(limbs a).length≤256)(hlb:(limbs b).length≤256):Ok Tryz.prog 253 [boolC neg,natC a,natC b] (fracC (redF neg a b)):=by
  have hg0:0<Nat.gcd a b:=Nat.gcd_pos_of_pos_right _ h0;have hg1:Nat.gcd a b≤b:=Nat.gcd_le_right _ h0;have hlg:=Xr hg1
  refine Ok.enter Tryz.func253 J _ Tryz.ntmps253 J ?_
  intro S w;have e0:redF neg a b=⟨neg&&decide (a/Nat.gcd a b≠0),a/Nat.gcd a b,b/Nat.gcd a b⟩:=rfl;rw [e0];clear e0;have h1:=Gcd_ok a b hla hlb;generalize Nat.gcd a b=g at*;refine Qy (Qx fun K hK=> ?_);refine Qf 0 J J zvFrac J J J (Qj (hK _ _ (Qz (Qy ?_))));clear hK K;refine Qx (fun K hK=> ?_);refine Qq J J J (Qq J J J (QV goGcd h1 J J J J (Qv J J J (Qj (hK _ _ (Qz (Qy ?_)))))));clear hK K;refine Qx (fun K hK=> ?_);refine Qq J J J (Qq J J J (QV goDivMod (DivMod_ok a g hg0 hla (by omega)) J J J J ?_));refine Qq J J J (QK J J J J (QK J J J J (QK J J J J (Qv J J J (Qv J J J (Qv J J J (Qj (hK _ _ (Qz (Qy ?_))))))))));clear hK K;refine Qx (fun K hK=> ?_);refine Qq J J J (Qq J J J (QV goDivMod (DivMod_ok b g hg0 hlb (by omega)) J J J J ?_));refine Qq J J J (QK J J J J (QK J J J J (QK J J J J (Qv J J J (Qv J J J (Qv J J J (Qj (hK _ _ (Qz (Qy ?_))))))))));clear hK K;refine Qx (fun K hK=> ?_);refine Qq J J J (Qq J J J (Xd 32 J (fun h=> ?_) (fun h=> ?_)))
  · refine Qq J J J (Qh J J sNat.und (List.length_map ..) J (Qk igtr J J J J (Q5 J J J J (Qq J J J (Qq J J J (Qo J bFrac J (.one J J J J (.one J J J J (.one J J J J .nil))) J (Qa 3 J J J J J szFrac J J (Qj (hK _ _ (Qz (Q4 ?_)))))))))));clear hK K;refine Q1 [_] rfl (Qg (n:=3) J J lFrac J QZ) (by rw [←limbs_len_posI,h];rfl) J
  · refine Qw J J J (Qw J J J (Qw J J J (Q7 J J J J (Qq J J J (Qq J J J (Qo J bFrac J (.one J J J J (.one J J J J (.one J J J J .nil))) J (Qa 3 J J J J J szFrac J J (Qj (hK _ _ (Qz (Q4 ?_)))))))))));clear hK K;refine Q1 [_] rfl (Qg (n:=3) J J lFrac J QZ) (by rw [h];rfl) J
end Go.Proofs.YtojkdfilabmafaaGreat
namespace Go.Proofs.YtojkdfilabmafaaGreat
open Go.Own Go.Limbs
attribute [local irreducible] St Ops Go.Own.Fin Ok
def fvalidL (neg : Bool) (xs ys : List Int) : Bool := (validL xs && decide (xs.length ≤ 64)) && (validL ys && decide (ys.length ≤ 64)) && decide (0 < ys.length) && !(neg && decide (xs.length = 0))
set_option maxHeartbeats 2000000 in
theorem Sub_ok(a b:Nat)(hb:b≤a)(hx:(limbs a).length≤256):Ok Tryz.prog 248 [natC a,natC b] (.fr (tupT [natC (a - b),intC 0])):=by
  have hlb:=Xr hb
  refine Ok.enter Tryz.func248 J _ Tryz.ntmps248 J ?_
  intro S w;refine Qy (Qx fun K hK=> ?_);refine Qv J J J (Qv J J J (Qj (hK _ _ ?_)));refine Qz (Qy (Qy (Qx fun K hK=> ?_)));refine Qq J J J (Qq J J J (QV goCompare (Compare_ok a b (by omega) (by omega)) J J J J ?_));refine Qk ilss J J J J (Qj (hK _ _ ?_));refine Qz (Q2 J (fun h=> ?_) (fun h=> ?_))
  · rw [cmpI_eq,if_neg (by omega)] at h;split at h <;>omega
  clear h;refine QW (Qz (Qy (Qx fun K hK=> ?_)));refine Qq J J J (Qh J J sNat.und (List.length_map ..) J (Zp 0 (limbs a).length J J J J sNat (by omega) (by omega) J J J ?_));rw [ints_made];refine Qv J J J (Qj (hK _ _ ?_));refine Qz (Qy (Qx fun K hK=> ?_));refine Qv J J J (Qj (hK _ _ ?_));refine Qz (Qy (Qy (Qx fun K hK=> ?_)));refine Qq J J J (Qh J J sNat.und (List.length_map ..) J (Qq J J J (Qj (hK _ _ ?_))));refine Qz (Q3 ?_)
  refine Qs (α:=Nat × List Int × Int) (fun s=>s.1≤(limbs a).length∧s.2.1.length=s.1∧OKL s.2.1∧-1≤s.2.2∧s.2.2≤0∧val s.2.1+s.2.2*BB ^ s.1=pre (limbs a) s.1 - pre (limbs b) s.1)
    (fun s=>[(0, .ct (natC a)),(1, .ct (natC b)),(6, .own 0),(7, .ct (intC s.2.2)),(18, .ct (intC (limbs a).length)),(19, .ct (intC s.1))])
    (fun s=>[(0, .row 3 1 (ints (s.2.1++List.replicate ((limbs a).length - s.1) 0)))])
    (fun s=>(limbs a).length - s.1) (0,[],0) ⟨Nat.zero_le _,rfl,OKL.nil,by decide,by decide,by simp [val,Zg]⟩ (by exact Qu J ⟨rfl,rfl,rfl,rfl,rfl,rfl,trivial⟩) ?_
  rintro ⟨i,zs,c⟩ ⟨hi,hz,hok,hc0,hc1,hv⟩
  dsimp only at hi hz hok hc0 hc1 hv ⊢;refine Qy (Qx fun K hK=> ?_);refine Qk ilss J J J J (Qj (hK _ _ ?_));refine Qz (Qy ?_);refine Q2 J (fun h=> ?_) (fun h=> ?_)
  · have b1:=(X2 a).get i;have b2:=(X2 b).get i;simp only [BB] at b1 b2;refine QW (Qz (Qy (Q3 (Qy (Qx fun K hK=> ?_)))));refine Qq J J J (Qv J J J (Qj (hK _ _ ?_)));refine Qz (Qy ?_);refine XX mixed 11 (.p 0 (.p 1 (.p 2 (.p 4 (.p 5 (.p 8 (.f 3 (.m 6 (.p 7 (.p 9 (.p 10 .done))))))))))) (by kernel_rfl) (fun K hK=> ?_);refine Qq J J J (Qq J J J (Xx J J J sNat (by omega) (Xs (by omega) (by omega)) J ?_));refine Qq J J J (Qq J J J (Qq J J J (X1 J J J lInt J ?_)));rw [Int.toNat_natCast];skip
    refine QV goat (at_ok (limbs b) i (by omega)) J J J J ?_
    rw [Int.toNat_natCast]
    refine Qk (isub (by omega) (by omega)) J J J J ?_
    refine Qk (iadd (by omega) (by omega)) J J J J ?_
    refine Qv J J J (Qj (hK _ _ ?_));refine Qz (Qx fun K hK=> ?_);refine Qq J J J (Qq J J J (Qq J J J (Qk iand30 J J J J (Qq J J J (Qk ishr30 J J J J (XJ (limbs a).length J J J (by simp;omega) J sNat (by omega) (by omega) J ?_))))))
    refine Xj J J J J J zInt (by simp [Ent.cs];omega) ?_
    simp only [Ent.setc,ZX];refine Qv J J J (Qj (hK _ _ ?_));refine Qz (Qx fun K hK=> ?_)
    refine Qk (iadd (by omega) (by omega)) J J J J ?_
    refine Qq J J J (Qj (hK _ _ ?_));refine Q6 (Q9 (i+1,zs++ [((limbs a).getD i 0 - (limbs b).getD i 0+c)%1073741824],((limbs a).getD i 0 - (limbs b).getD i 0+c)/1073741824) (by dsimp only;omega) ⟨by dsimp only;omega,by simp [hz],?_,?_,?_,?_⟩ ?_)
    all_goals dsimp only
    · exact hok.append (OKL.cons (by simp only [BB];omega) OKL.nil)
    · omega
    · omega
    · rw [val_append,hz,X5,X5];have e:=Int.mul_ediv_add_emod ((limbs a).getD i 0 - (limbs b).getD i 0+c) 1073741824;simp only [val,BB] at*;generalize ((limbs a).getD i 0 - (limbs b).getD i 0+c)/1073741824=q at*;generalize ((limbs a).getD i 0 - (limbs b).getD i 0+c)%1073741824=m at*
      grind
    · refine Qu ?_ ⟨rfl,rfl,rfl,rfl,rfl,by simp only [Int.natCast_add];rfl,trivial⟩
      have e1:(limbs a).length - i=((limbs a).length - (i+1))+1:=by omega
      have e3:(i:Int).toNat*1=zs.length:=by omega
      rw [e1,e3,set_snoc];rfl
  · have hi' :i=(limbs a).length:=by omega
    subst hi';rw [Nat.sub_self,List.replicate_zero,List.append_nil];refine Qm (Qz (Qy (Qx fun K hK=> ?_)));refine Qq J J J (ZY 0 _ J (Zy _ _) noBor_sub (QV goresult (result_ok _ (by omega)) J J J J ?_))
    have e4:trimL zs=limbs (a - b):=by
      rw [Za hok];rw [Zc (Nat.le_refl _),Zc hlb,Xt,Xt] at hv;have hp:0<BB ^ (limbs a).length:=Int.pow_pos (by decide);have h1:=YX hok (limbs a).length;rw [Zc (by omega)] at h1
      have hc:c=0:=by
        rcases Int.lt_or_le c 0 with hc|hc
        · have:c= -1:=by omega
          subst this;rw [Int.neg_mul,Int.one_mul] at hv;omega
        · omega
      subst hc;rw [Int.zero_mul] at hv
      congr 1;omega
    rw [e4];refine QK J J J J (QK J J J J (Qv J J J (Qv J J J (Qj (hK _ _ ?_)))));refine Qz (Q4 ?_);refine Q1 [_,_] rfl (QX J (QX J QZ)) J J
theorem goSub:InGo Tryz.prog 248:=InGo.of Tryz.func248 (by kernel_rfl) (by kernel_rfl)
set_option maxHeartbeats 4000000 in
theorem Mul_ok(a b:Nat)(hx:(limbs a).length+(limbs b).length≤256):Ok Tryz.prog 278 [natC a,natC b] (.fr (tupT [natC (a*b),intC 0])):=by
  refine Ok.enter Tryz.func278 Y _ Tryz.ntmps278 Y ?_
  intro S w;refine Qy (Qx fun K hK=> ?_);refine Qv Y Y Y (Qv Y Y Y (Qj (hK _ _ ?_)));refine Qz (Qy (Qx fun K hK=> ?_));refine Qq Y Y Y (Qh Y Y sNat.und (List.length_map ..) Y (Qq Y Y Y (Qh Y Y sNat.und (List.length_map ..) Y (Qk (iadd (by omega) (by omega)) Y Y Y Y ?_))))
  refine Zp 0 ((limbs a).length+(limbs b).length) Y Y Y (by omega) sNat (by omega) (by omega) Y Y Y ?_
  rw [ints_made];refine Qv Y Y Y (Qj (hK _ _ ?_));refine Qz (Qy (Qy (Qx fun K hK=> ?_)));refine Qq Y Y Y (Qh Y Y sNat.und (List.length_map ..) Y (Qq Y Y Y (Qj (hK _ _ ?_))));refine Qz (Q3 ?_)
  refine Qs (α:=Nat × List Int) (fun s=>s.1≤(limbs a).length∧s.2.length=(limbs a).length+(limbs b).length∧OKL s.2∧(∀j,s.1+(limbs b).length≤j→s.2.getD j 0=0)∧val s.2=pre (limbs a) s.1*b)
    (fun s=>[(0, .ct (natC a)),(1, .ct (natC b)),(6, .own 0),(19, .ct (natC a)),(20, .ct (intC (limbs a).length)),(21, .ct (intC s.1))])
    (fun s=>[(0, .row 3 1 (ints s.2))])
    (fun s=>(limbs a).length - s.1) (0,List.replicate ((limbs a).length+(limbs b).length) 0) ⟨Nat.zero_le _,by simp,OKL.zeros _,?_,?_⟩ (by exact Qu Y ⟨rfl,rfl,rfl,rfl,rfl,rfl,trivial⟩) ?_
  · intro j _;simp [List.getD_eq_getElem?_getD,List.getElem?_replicate];split <;>rfl
  · rw [Zg,val_zeros];simp
  rintro ⟨i,out⟩ ⟨hi,hlen,hok,hz,hv⟩
  dsimp only at hi hlen hok hz hv ⊢;refine Qy (Qx fun K hK=> ?_);refine Qk ilss Y Y Y Y (Qj (hK _ _ ?_));refine Qz (Qy ?_);refine Q2 Y (fun h=> ?_) (fun h=> ?_)
  · have bx:=(X2 a).get i;have eix:(i:Int).toNat=i:=Int.toNat_natCast i;refine QW (Qz (Qy (Q3 (Qy (Qx fun K hK=> ?_)))));refine Qq Y Y Y (Xx Y Y Y sNat (by omega) (Xs (by omega) (by omega)) Y ?_);refine X1 Y Y Y lInt Y (Qv Y Y Y (Qv Y Y Y (Qj (hK _ _ ?_))));refine Qz (Qy (Qx fun K hK=> ?_));refine Qv Y Y Y (Qj (hK _ _ ?_));refine Qz (Qy (Qy (Qx fun K hK=> ?_)));refine Qq Y Y Y (Qh Y Y sNat.und (List.length_map ..) Y (Qq Y Y Y (Qj (hK _ _ ?_))));refine Qz (Q3 ?_);rw [eix];skip
    refine Qs (α:=Nat × List Int × Int) (fun s=>s.1≤(limbs b).length∧s.2.1.length=(limbs a).length+(limbs b).length∧OKL s.2.1∧(∀j,i+(limbs b).length≤j→s.2.1.getD j 0=0)∧0≤s.2.2∧s.2.2<BB∧
        val s.2.1+s.2.2*BB ^ (i+s.1)=val out+(limbs a).getD i 0*pre (limbs b) s.1*BB ^ i)
      (fun s=>[(0, .ct (natC a)),(1, .ct (natC b)),(6, .own 0),(7, .ct (intC i)),(8, .ct (intC ((limbs a).getD i 0))),(9, .ct (intC s.2.2)),(19, .ct (natC a)),(20, .ct (intC (limbs a).length)),(21, .ct (intC i)),(26, .ct (natC b)),(27, .ct (intC (limbs b).length)),(28, .ct (intC s.1))])
      (fun s=>[(0, .row 3 1 (ints s.2.1))])
      (fun s=>(limbs b).length - s.1) (0,out,0) ⟨Nat.zero_le _,hlen,hok,hz,Int.le_refl _,by show (0:Int)<BB;decide,by rw [Zg];simp⟩ (by exact Qu Y ⟨rfl,rfl,rfl,rfl,rfl,rfl,rfl,rfl,rfl,rfl,rfl,rfl,trivial⟩) ?_
    rintro ⟨q,zs,c⟩ ⟨hq,hzl,hzok,hzz,hc0,hc1,hzv⟩
    dsimp only at hq hzl hzok hzz hc0 hc1 hzv ⊢;refine Qy (Qx fun K hK=> ?_);refine Qk ilss Y Y Y Y (Qj (hK _ _ ?_));refine Qz (Qy ?_);refine Q2 Y (fun h2=> ?_) (fun h2=> ?_)
    · have by' :=(X2 b).get q
      have bz:=hzok.get (i+q)
      have bm:=mul_bd bx by'
      simp only [BB] at bz hc1 bx;have eq1:(q:Int).toNat=q:=Int.toNat_natCast q
      have eiq:((i:Int)+q).toNat*1=i+q:=by omega
      refine QW (Qz (Qy (Q3 (Qy (Qx fun K hK=> ?_)))));refine Qq Y Y Y (Xx Y Y Y sNat (by omega) (Xs (by omega) (by omega)) Y ?_);refine X1 Y Y Y lInt Y (Qv Y Y Y (Qv Y Y Y (Qj (hK _ _ ?_))));refine Qz (Qy (Qx fun K hK=> ?_));refine Qq Y Y Y (Qq Y Y Y (Qq Y Y Y (Qk (iadd (by omega) (by omega)) Y Y Y Y ?_)));rw [eq1];skip
      refine XJ ((limbs a).length+(limbs b).length) Y Y Y (by simp;omega) Y sNat (by omega) (by omega) Y ?_
      rw [eiq]
      refine QQ Y Y Y Y (Xo (by omega)) lInt Y ?_
      refine Qq Y Y Y (Qq Y Y Y (Qk (imul (by omega) (by omega)) Y Y Y Y ?_))
      refine Qk (iadd (by omega) (by omega)) Y Y Y Y ?_
      refine Qq Y Y Y (Qk (iadd (by omega) (by omega)) Y Y Y Y ?_);refine Qv Y Y Y (Qj (hK _ _ ?_));refine Qz (Qx fun K hK=> ?_);refine Qq Y Y Y (Qq Y Y Y (Qq Y Y Y (Qk (iadd (by omega) (by omega)) Y Y Y Y ?_)));refine Qq Y Y Y (Qk iand30 Y Y Y Y (Qq Y Y Y (Qk ishr30 Y Y Y Y (XJ ((limbs a).length+(limbs b).length) Y Y Y (by simp;omega) Y sNat (by omega) (by omega) Y ?_))));rw [eiq]
      refine Xj Y Y Y Y Y zInt (by simp [Ent.cs];omega) ?_
      simp only [Ent.setc,ZX];refine Qv Y Y Y (Qj (hK _ _ ?_));refine Qz (Qx fun K hK=> ?_)
      refine Qk (iadd (by omega) (by omega)) Y Y Y Y ?_
      refine Qq Y Y Y (Qj (hK _ _ ?_));refine Q6 (Q9 (q+1,zs.set (i+q) ((zs.getD (i+q) 0+(limbs a).getD i 0*(limbs b).getD q 0+c)%1073741824),(zs.getD (i+q) 0+(limbs a).getD i 0*(limbs b).getD q 0+c)/1073741824) (by dsimp only;omega) ⟨by dsimp only;omega,by simp [hzl],?_,?_,?_,?_,?_⟩ ?_)
      all_goals dsimp only
      · exact hzok.set _ (by simp only [BB];omega)
      · intro j hj;rw [getD_set (by omega),if_neg (by omega)];exact hzz j hj
      · omega
      · simp only [BB];omega
      · rw [val_set (by omega),X5,show i+(q+1)=(i+q)+1 by omega,Int.pow_succ,Int.pow_add];rw [Int.pow_add] at hzv;have e:=Int.mul_ediv_add_emod (zs.getD (i+q) 0+(limbs a).getD i 0*(limbs b).getD q 0+c) 1073741824;simp only [BB] at*;generalize (zs.getD (i+q) 0+(limbs a).getD i 0*(limbs b).getD q 0+c)/1073741824=Q at*;generalize (zs.getD (i+q) 0+(limbs a).getD i 0*(limbs b).getD q 0+c)%1073741824=M at*;generalize (1073741824:Int) ^ i=I at*;generalize (1073741824:Int) ^ q=J at*;generalize zs.getD (i+q) 0=z at*;generalize (limbs a).getD i 0=x at*;generalize (limbs b).getD q 0=y at*;generalize pre (limbs b) q=pb at*;generalize val zs=vz at*;generalize val out=vo at*
        grind
      · exact Qu Y ⟨rfl,rfl,rfl,rfl,rfl,rfl,rfl,rfl,rfl,rfl,rfl,by simp only [Int.natCast_add];rfl,trivial⟩
    · have hq' :q=(limbs b).length:=by omega
      have eib:((i:Int)+(limbs b).length).toNat*1=i+(limbs b).length:=by omega
      simp only [BB] at hc1;refine Qm (Qz (Qx fun K hK=> ?_));refine Qq Y Y Y (Qq Y Y Y (Qq Y Y Y (Qh Y Y sNat.und (List.length_map ..) Y (Qk (iadd (by omega) (by omega)) Y Y Y Y ?_))));refine Qq Y Y Y (XJ ((limbs a).length+(limbs b).length) Y Y Y (by simp;omega) Y sNat (by omega) (by omega) Y ?_);rw [eib]
      refine Xj Y Y Y Y Y zInt (by simp [Ent.cs];omega) ?_
      simp only [Ent.setc,ZX];refine Qj (hK _ _ ?_);refine Qz (Qx fun K hK=> ?_)
      refine Qk (iadd (by omega) (by omega)) Y Y Y Y ?_
      refine Qq Y Y Y (Qj (hK _ _ ?_));refine Q6 (Q9 (i+1,zs.set (i+(limbs b).length) c) (by dsimp only;omega) ⟨by dsimp only;omega,by simp [hzl],?_,?_,?_⟩ ?_)
      all_goals dsimp only
      · exact hzok.set _ (by simp only [BB];omega)
      · intro j hj;rw [getD_set (by omega),if_neg (by omega)];exact hzz j (by omega)
      · rw [val_set (by omega),hzz _ (Nat.le_refl _),X5];rw [hq',Zc (Nat.le_refl _),Xt,hv] at hzv
        grind
      · exact Qu Y ⟨rfl,rfl,rfl,rfl,rfl,by simp only [Int.natCast_add];rfl,trivial⟩
  · have hi' :i=(limbs a).length:=by omega
    have e4:trimL out=limbs (a*b):=by
      rw [Za hok,hv,hi',Zc (Nat.le_refl _),Xt]
      congr 1
    refine Qm (Qz (Qy (Qx fun K hK=> ?_)));refine Qq Y Y Y (ZY 0 _ Y (Zy _ _) noBor_sub (QV goresult (result_ok _ (by omega)) Y Y Y Y ?_));rw [e4];refine QK Y Y Y Y (QK Y Y Y Y (Qv Y Y Y (Qv Y Y Y (Qj (hK _ _ ?_)))));refine Qz (Q4 ?_);refine Q1 [_,_] rfl (QX Y (QX Y QZ)) Y Y
theorem goMul:InGo Tryz.prog 278:=InGo.of Tryz.func278 (by kernel_rfl) (by kernel_rfl)
attribute [local irreducible] OkF
theorem goReduce:InGo Tryz.prog 210:=InGo.of Tryz.func210 (by kernel_rfl) (by kernel_rfl)
theorem Reduce_ok(f:Fr)(h0:0<f.den)(hla:(limbs f.num).length≤256)(hlb:(limbs f.den).length≤256):Ok Tryz.prog 210 [fracC f] (fracC (redF f.neg f.num f.den)):=by
  refine Ok.enter Tryz.func210 J _ Tryz.ntmps210 J ?_
  intro S w;refine Qy (Qx fun K hK=> ?_);refine Xu 0 J J J J J J J (Qf 1 J J zvFrac J J J (Qj (hK _ _ (Qz (Qy ?_)))));clear hK K;refine Qx (fun K hK=> ?_);refine QJ J J J fF0 J (QQ J J J J J lBool J (QJ J J J fF1 J (QQ J J J J J lNat J (QJ J J J fF2 J (QQ J J J J J lNat J (QV goreduced (reduced_ok f.neg f.num f.den h0 hla hlb) J J J J (Qa 3 J J J J J szFrac J J (Qj (hK _ _ (Qz (Q4 ?_)))))))))));clear hK K;refine Q1 [_] rfl (Qg (n:=3) J J lFrac J QZ) J J
def qv (f : Fr) : Rat := mkRat (sg f.neg f.num) f.den
end Go.Proofs.YtojkdfilabmafaaGreat
namespace Go.Proofs.YtojkdfilabmafaaGreat
open Go.Own Go.Limbs
theorem zvWh:(Tryz.prog.info? 211).map (·.zero)=some (some (.agg #[.bool false, .slice none 0 0])):=by kernel_rfl
theorem fW0:fldInfo Tryz.prog 211 0=some (0,some 1):=by kernel_rfl
theorem fW1:fldInfo Tryz.prog 211 1=some (1,some 1):=by kernel_rfl
theorem lWh:LdN Tryz.prog 211 2:=LdN.of _ Tryz.underlying211 rfl (by kernel_rfl)
theorem szWh:(Tryz.prog.info? 211).map (·.size)=some 2:=by kernel_rfl
theorem bWh:bInfo Tryz.prog 211=some (.agg #[.bool false, .slice none 0 0],[(0,some 1),(1,some 1)]):=by kernel_rfl
theorem sWhs:SlcT Tryz.prog 212 211 2 32 (.agg #[.bool false, .slice none 0 0]):=SlcT.of Tryz.underlying212 (by kernel_rfl) rfl (by decide)
theorem lWhs:Ld1 Tryz.prog 212:=Ld1.of _ Tryz.underlying212 rfl
theorem sMat:SlcT Tryz.prog 213 212 1 24 (.slice none 0 0):=SlcT.of Tryz.underlying213 (by kernel_rfl) rfl (by decide)
theorem lMat:Ld1 Tryz.prog 213:=Ld1.of _ Tryz.underlying213 rfl
theorem fT0:fldInfo Tryz.prog 215 0=some (0,some 1):=by kernel_rfl
theorem fT1:fldInfo Tryz.prog 215 1=some (1,some 1):=by kernel_rfl
theorem fT2:fldInfo Tryz.prog 215 2=some (2,some 1):=by kernel_rfl
theorem fT3:fldInfo Tryz.prog 215 3=some (3,some 2):=by kernel_rfl
theorem bTab:bInfo Tryz.prog 215=some (.agg #[.slice none 0 0, .slice none 0 0, .slice none 0 0, .bool false, .slice none 0 0],[(0,some 1),(1,some 1),(2,some 1),(3,some 2)]):=by kernel_rfl
theorem zMat:(Tryz.prog.info? 213).map (·.size)=some 1:=by kernel_rfl
theorem zWhs:(Tryz.prog.info? 212).map (·.size)=some 1:=by kernel_rfl
theorem zInts:(Tryz.prog.info? 26).map (·.size)=some 1:=by kernel_rfl
theorem uBoolW:Tryz.prog.underlying 4=some .bool:=Tryz.underlying4
abbrev whCs (z : Int) : List CT := [boolC (decide (z < 0)), natC z.natAbs]
abbrev whC (z : Int) : CT := .fr (aggT (whCs z))
def whs (zs : List Int) : List CT := (zs.map whCs).flatten
theorem XV(zs:List Int):(whs zs).length=zs.length*2:=by
  unfold whs;rw [Xm (k:=2) (by simp)];simp
theorem whs_get{zs:List Int}{j:Nat}(h:j<zs.length):((whs zs).drop (j*2)).take 2=whCs (zs.getD j 0):=by
  induction zs generalizing j with
  |nil=>simp at h
  |cons z zs ih=>
    cases j with
    |zero=>simp [whs]
    |succ j=>
      have:=ih (j:=j) (by simpa using h);have e:whs (z::zs)=whCs z++whs zs:=rfl;rw [e,show (j+1)*2=2+j*2 by omega,←List.drop_drop]
      simpa using this
theorem whs_put{zs:List Int}{j:Nat}(z:Int)(h:j<zs.length):(whs zs).take (j*2)++whCs z++(whs zs).drop (j*2+2)=whs (zs.set j z):=by
  induction zs generalizing j with
  |nil=>simp at h
  |cons y zs ih=>
    cases j with
    |zero=>simp [whs]
    |succ j=>
      have:=ih (j:=j) (by simpa using h);have e:whs (y::zs)=boolC (decide (y<0))::natC y.natAbs::whs zs:=rfl;have e2:whs ((y::zs).set (j+1) z)=boolC (decide (y<0))::natC y.natAbs::whs (zs.set j z):=rfl;rw [e,e2,show (j+1)*2=(j*2+1)+1 by omega,←this];simp
section
variable {X : Ctx} {L : AL} {B : BL} {ops : Array Oper} {K : Act → World → Prop} {r : Pl} {k : Kd}
  {x y z : Operand} {d : Nat} {t t2 t' : TypeId} {pos : String} {af : Array Edge} {g : Option (Nat × Bool)}
theorem ldWh{i j:Nat}{e:Ent}{l:List Int}(hk:k.rd=true)(hg:gd ops L g=some true)(hx:ev L x=some (.loc i (j*2)))(hi:bget B i=some e)(he:e.cs=whs l)(hj:j<l.length)(hT:LdN X.P t 2)(hn:Nat.blt d X.n=true)
    (h:Ops X ops r ((d, .ct (whC (l.getD j 0)))::L) B K):Ops X ops (.cons ⟨some d, .load t x,t',pos,af,g⟩ k r) L B K:=
  Yv hk hg hx hi (by rw [he,XV];omega) hT hn (by rw [he,whs_get hj];exact h)
theorem stWhX{i j el:Nat}{v0:Value}{l:List Int}{c:Int}(hg:gd ops L g=some true)(hx:ev L x=some (.loc i (j*2)))(hi:bget B i=some (.rowx v0 el 2 (whs l)))(hy:ev L y=some (.ct (whC c)))(hj:j<l.length)(hsz:(X.P.info? t).map (·.size)=some 2)
    (h:Ops X ops r L (bset B i (.rowx v0 el 2 (whs (l.set j c)))) K):Ops X ops (.cons ⟨none, .store t x y,t',pos,af,g⟩ .any r) L B K:=
  Ops.stNA hg hx hi hy rfl hsz (by show j*2+2≤(whs l).length;rw [XV];omega) (by
    have:(Ent.rowx v0 el 2 (whs l)).putc (j*2) (whCs c)= .rowx v0 el 2 (whs (l.set j c)):=by rw [←whs_put c hj];rfl
    rw [this];exact h)
end
attribute [local irreducible] Go.Own.Fin Ok Ops St
theorem zvRowW:(Tryz.prog.info? 79).map (·.zero)=some (some (.agg #[.slice none 0 0, .int .i64 0])):=by kernel_rfl
theorem goof:InGo Tryz.prog 197:=InGo.of Tryz.func197 (by kernel_rfl) (by kernel_rfl)
theorem gosign:InGo Tryz.prog 198:=InGo.of Tryz.func198 (by kernel_rfl) (by kernel_rfl)
theorem gominus:InGo Tryz.prog 200:=InGo.of Tryz.func200 (by kernel_rfl) (by kernel_rfl)
theorem goplus:InGo Tryz.prog 199:=InGo.of Tryz.func199 (by kernel_rfl) (by kernel_rfl)
theorem gotimes:InGo Tryz.prog 251:=InGo.of Tryz.func251 (by kernel_rfl) (by kernel_rfl)
theorem goover:InGo Tryz.prog 252:=InGo.of Tryz.func252 (by kernel_rfl) (by kernel_rfl)
theorem whC_eq{z:Int}{b:Bool}{n:Nat}(h:z=sg b n)(hb:b=true→n≠0):whC z= .fr (aggT [boolC b,natC n]):=by
  subst h;unfold whC whCs;rw [natAbs_sg]
  have:decide (sg b n<0)=b:=by
    unfold sg
    cases b with
    |true=>have:=hb J;simp;omega
    |false=>simp
  rw [this]
set_option maxHeartbeats 1000000 in
theorem of_ok(n:Int)(h1: -9223372036854775807≤n)(h2:n≤9223372036854775807):Ok Tryz.prog 197 [intC n] (whC n):=by
  refine Ok.enter Tryz.func197 J _ Tryz.ntmps197 J ?_
  intro S w;refine Qy (Qx fun K hK=> ?_);refine Qf 4 J J zvWh J J J (Qj (hK _ _ (Qz (Qy (Qy ?_)))));clear hK K;refine Qx (fun K hK=> ?_);refine Qq J J J (Qk ilss J J J J (Qj (hK _ _ (Qz ?_))));clear hK K;refine Q2 J (fun h=> ?_) (fun h=> ?_)
  · refine Qy (Qx fun K hK=> ?_);refine Qq J J J (Ops.ineg J J (by omega) (by omega) J ?_);rw [show -n=(n.natAbs:Int) by omega]
    refine QV goFrom (From_ok n.natAbs (by omega)) J J J J ?_
    refine Qq J J J (QK J J J J (QK J J J J (Qv J J J (Qv J J J (Qj (hK _ _ (Qz (Qy ?_))))))));clear hK K;refine Qx (fun K hK=> ?_);refine Qq J J J (Qo J bWh J (.one J J J J (.one J J J J .nil)) J (Qa 2 J J J J J szWh J J (Qj (hK _ _ (Qz (Q4 (QY ?_)))))));clear hK K;refine Q1 [_] rfl (Qg (n:=2) J J lWh J QZ) (by rw [whC_eq (b:=true) (n:=n.natAbs) (by unfold sg;rw [if_pos J];omega) (by intro _;omega)];rfl) J
  · refine QW (Qz (Qy (Qx fun K hK=> ?_)));refine Qq J J J (QV goFrom (by rw [show n=(n.natAbs:Int) by omega];exact From_ok n.natAbs (by omega)) J J J J ?_);refine Qq J J J (QK J J J J (QK J J J J (Qv J J J (Qv J J J (Qj (hK _ _ (Qz (Qy ?_))))))));clear hK K;refine Qx (fun K hK=> ?_);refine Qq J J J (Qo J bWh J (.one J J J J (.one J J J J .nil)) J (Qa 2 J J J J J szWh J J (Qj (hK _ _ (Qz (Q4 ?_))))));clear hK K;refine Q1 [_] rfl (Qg (n:=2) J J lWh J QZ) (by rw [whC_eq (b:=false) (n:=n.natAbs) (by unfold sg;rw [if_neg (by decide)];omega) (by intro h;cases h)];rfl) J
theorem len0{z:Int}:((limbs z.natAbs).length:Int)=0↔z=0:=by
  have:=limbs_len_pos (n:=z.natAbs);omega
theorem Y3(z:Int):Ok Tryz.prog 198 [whC z] (intC z.sign):=by
  have hz:=len0 (z:=z)
  refine Ok.enter Tryz.func198 J _ Tryz.ntmps198 J ?_
  intro S w;refine Qy (Qx fun K hK=> ?_);refine Xu 4 J J J J J J J (Qv J J J (Qj (hK _ _ (Qz (Qy (Q3 (Qy ?_)))))));clear hK K;refine Qx (fun K hK=> ?_);refine QJ J J J fW1 J (QQ J J J J J lNat J (Qh J J sNat.und (List.length_map ..) J (Qk ieql J J J J (Qv J J J (Qj (hK _ _ (Qz ?_)))))));clear hK K;refine Q2 J (fun h=> ?_) (fun h=> ?_)
  · have h0:z=0:=hz.1 h;subst h0;refine Qy (Qx fun K hK=> ?_);refine Qv J J J (Qj (hK _ _ (Qz (Q4 (Qb (QY ?_))))));clear hK K;refine Q1 [_] rfl (QX J QZ) J J
  · refine Qy (Qx fun K hK=> ?_);refine QJ J J J fW0 J (QQ J J J J J lBool J (Qv J J J (Qj (hK _ _ (Qz ?_)))));clear hK K;refine Q2 J (fun h2=> ?_) (fun h2=> ?_)
    · refine Qy (Qx fun K hK=> ?_);refine Qv J J J (Qj (hK _ _ (Qz (Q4 (Qb (QY ?_))))));clear hK K;refine Q1 [_] rfl (QX J QZ) (by rw [Int.sign_eq_neg_one_of_neg h2];rfl) J
    · have h3:0<z:=by have:=fun e=>h (hz.2 e);omega
      refine QW (Qz (Qy (Qx fun K hK=> ?_)));refine Qv J J J (Qj (hK _ _ (Qz (Q4 ?_))));clear hK K;refine Q1 [_] rfl (QX J QZ) (by rw [Int.sign_eq_one_of_pos h3];rfl) J
set_option maxHeartbeats 1000000 in
theorem minus_ok(z:Int):Ok Tryz.prog 200 [whC z] (whC (-z)):=by
  have hz:=limbs_len_pos (n:=z.natAbs)
  refine Ok.enter Tryz.func200 J _ Tryz.ntmps200 J ?_
  intro S w
  have e:whC (-z)= .fr (aggT [boolC (!decide (z<0)&&decide (((limbs z.natAbs).length:Int)>0)),natC z.natAbs]):=by
    unfold whC whCs;rw [Int.natAbs_neg]
    congr 4
    by_cases h:z<0
    · rw [decide_eq_true h,decide_eq_false (by omega)];rfl
    · rw [decide_eq_false h,Bool.not_false,Bool.true_and,decide_eq_decide];omega
  rw [e];clear e;refine Qy (Qx fun K hK=> ?_);refine Xu 4 J J J J J J J (Qf 5 J J zvWh J J J (Qj (hK _ _ (Qz (Qy ?_)))));clear hK K;refine Qx (fun K hK=> ?_);refine QJ J J J fW0 J (QQ J J J J J lBool J (Xz J J J (Qq J J J (Xd 6 J (fun h=> ?_) (fun h=> ?_)))))
  · refine QJ J J J fW1 J (QQ J J J J J lNat J (Qh J J sNat.und (List.length_map ..) J (Qk igtr J J J J (Q5 J J J J (QJ J J J fW1 J (QQ J J J J J lNat J (Qo J bWh J (.one J J J J (.one J J J J .nil)) J (Qa 2 J J J J J szWh J J (Qj (hK _ _ (Qz (Q4 ?_))))))))))));clear hK K;refine Q1 [_] rfl (Qg (n:=2) J J lWh J QZ) (by rw [h];rfl) J
  · refine Qw J J J (Qw J J J (Qw J J J (Qw J J J (Q7 J J J J (QJ J J J fW1 J (QQ J J J J J lNat J (Qo J bWh J (.one J J J J (.one J J J J .nil)) J (Qa 2 J J J J J szWh J J (Qj (hK _ _ (Qz (Q4 ?_))))))))))));clear hK K;refine Q1 [_] rfl (Qg (n:=2) J J lWh J QZ) (by rw [h];rfl) J
set_option maxHeartbeats 2000000 in
theorem plus_ok(a b:Int)(ha:(limbs a.natAbs).length≤200)(hb:(limbs b.natAbs).length≤200):Ok Tryz.prog 199 [whC a,whC b] (whC (a+b)):=by
  refine Ok.enter Tryz.func199 J _ Tryz.ntmps199 J ?_
  intro S w;refine Qy (Qx fun K hK=> ?_);refine Xu 4 J J J J J J J (Xu 5 J J J J J J J (Qf 6 J J zvWh J J J (Qj (hK _ _ (Qz (Qy (Qy ?_)))))));clear hK K;refine Qx (fun K hK=> ?_);refine QJ J J J fW0 J (QQ J J J J J lBool J (QJ J J J fW0 J (QQ J J J J J lBool J (Ops.beq J J J uBoolW J (Qj (hK _ _ (Qz ?_)))))));clear hK K;refine X6 J (fun h=> ?_) (fun h=> ?_)
  · have h' :decide (a<0)=decide (b<0):=by simpa using h
    have hab:(a+b).natAbs=a.natAbs+b.natAbs:=by
      rw [decide_eq_decide] at h';omega
    have hneg:decide (a+b<0)=(decide (a<0)&&decide (((limbs (a+b).natAbs).length:Int)>0)):=by
      have hz:=limbs_len_pos (n:=(a+b).natAbs);rw [decide_eq_decide] at h';by_cases h:a<0
      · rw [decide_eq_true h,Bool.true_and,decide_eq_decide];omega
      · rw [decide_eq_false h,Bool.false_and,decide_eq_false_iff_not];omega
    have e:whC (a+b)= .fr (aggT [boolC (decide (a<0)&&decide (((limbs (a+b).natAbs).length:Int)>0)),natC (a+b).natAbs]):=by
      unfold whC whCs;rw [hneg]
    rw [e,hab];clear e hneg;refine Qy (Qx fun K hK=> ?_);refine QJ J J J fW1 J (QQ J J J J J lNat J (QJ J J J fW1 J (QQ J J J J J lNat J (QV goAdd (Add_list _ _ ha hb (X2 _) (X2 _)) J J J J ?_))));rw [Xt,Xt,show ((a.natAbs:Int)+b.natAbs).toNat=a.natAbs+b.natAbs by omega];refine Qq J J J (QK J J J J (QK J J J J (Qv J J J (Qv J J J (Qj (hK _ _ (Qz (Qy ?_))))))));clear hK K;refine Qx (fun K hK=> ?_);refine QJ J J J fW0 J (QQ J J J J J lBool J (Qq J J J (Xd 24 J (fun h=> ?_) (fun h=> ?_))))
    · refine Qq J J J (Qh J J sNat.und (List.length_map ..) J (Qk igtr J J J J (Q5 J J J J (Qq J J J (Qo J bWh J (.one J J J J (.one J J J J .nil)) J (Qa 2 J J J J J szWh J J (Qj (hK _ _ (Qz (Q4 (QY ?_)))))))))));clear hK K;refine Q1 [_] rfl (Qg (n:=2) J J lWh J QZ) (by rw [h];rfl) J
    · refine Qw J J J (Qw J J J (Qw J J J (Q7 J J J J (Qq J J J (Qo J bWh J (.one J J J J (.one J J J J .nil)) J (Qa 2 J J J J J szWh J J (Qj (hK _ _ (Qz (Q4 (QY ?_)))))))))));clear hK K;refine Q1 [_] rfl (Qg (n:=2) J J lWh J QZ) (by rw [h];rfl) J
  · have h' :¬decide (a<0)=decide (b<0):=by simpa using h
    rw [decide_eq_decide] at h';refine QW (Qz (Qy (Qy (Qx fun K hK=> ?_))));refine QJ J J J fW1 J (QQ J J J J J lNat J (QJ J J J fW1 J (QQ J J J J J lNat J (QV goCompare (Compare_ok a.natAbs b.natAbs (by omega) (by omega)) J J J J ?_))));refine Qk ilss J J J J (Qj (hK _ _ (Qz ?_)));clear hK K;refine Q2 J (fun h3=> ?_) (fun h3=> ?_)
    · have hlt:a.natAbs<b.natAbs:=by
        rw [cmpI_eq] at h3;split at h3
        · omega
        · split at h3 <;>omega
      have hab:(a+b).natAbs=b.natAbs - a.natAbs:=by omega
      have hneg:decide (a+b<0)=(decide (b<0)&&decide (((limbs (a+b).natAbs).length:Int)>0)):=by
        have hz:=limbs_len_pos (n:=(a+b).natAbs);by_cases h:b<0
        · rw [decide_eq_true h,Bool.true_and,decide_eq_decide];omega
        · rw [decide_eq_false h,Bool.false_and,decide_eq_false_iff_not];omega
      have e:whC (a+b)= .fr (aggT [boolC (decide (b<0)&&decide (((limbs (a+b).natAbs).length:Int)>0)),natC (a+b).natAbs]):=by
        unfold whC whCs;rw [hneg]
      rw [e,hab];clear e hneg;refine Qx (fun K hK=> ?_);refine Qc (n:=2) J J J J J lWh J (Qc (n:=2) J J J J J lWh J (Qa 2 J J J J J szWh J J (Qa 2 J J J J J szWh J J (Qj (hK _ _ (Qz (Qy ?_)))))));clear hK K;refine Qx (fun K hK=> ?_);refine QJ J J J fW1 J (QQ J J J J J lNat J (QJ J J J fW1 J (QQ J J J J J lNat J (QV goSub (Sub_ok b.natAbs a.natAbs (by omega) (by omega)) J J J J ?_))));refine Qq J J J (QK J J J J (QK J J J J (Qv J J J (Qv J J J (Qj (hK _ _ (Qz (Qy ?_))))))));clear hK K;refine Qx (fun K hK=> ?_);refine QJ J J J fW0 J (QQ J J J J J lBool J (Qq J J J (Xd 49 J (fun h=> ?_) (fun h=> ?_))))
      · refine Qq J J J (Qh J J sNat.und (List.length_map ..) J (Qk igtr J J J J (Q5 J J J J (Qq J J J (Qo J bWh J (.one J J J J (.one J J J J .nil)) J (Qa 2 J J J J J szWh J J (Qj (hK _ _ (Qz (Q4 ?_))))))))));clear hK K;refine Q1 [_] rfl (Qg (n:=2) J J lWh J QZ) (by rw [h];rfl) J
      · refine Qw J J J (Qw J J J (Qw J J J (Q7 J J J J (Qq J J J (Qo J bWh J (.one J J J J (.one J J J J .nil)) J (Qa 2 J J J J J szWh J J (Qj (hK _ _ (Qz (Q4 ?_))))))))));clear hK K;refine Q1 [_] rfl (Qg (n:=2) J J lWh J QZ) (by rw [h];rfl) J
    · have hlt:¬a.natAbs<b.natAbs:=by
        intro hl;rw [cmpI_eq,if_pos (by omega)] at h3;omega
      have hab:(a+b).natAbs=a.natAbs - b.natAbs:=by omega
      have hneg:decide (a+b<0)=(decide (a<0)&&decide (((limbs (a+b).natAbs).length:Int)>0)):=by
        have hz:=limbs_len_pos (n:=(a+b).natAbs);by_cases h:a<0
        · rw [decide_eq_true h,Bool.true_and,decide_eq_decide];omega
        · rw [decide_eq_false h,Bool.false_and,decide_eq_false_iff_not];omega
      have e:whC (a+b)= .fr (aggT [boolC (decide (a<0)&&decide (((limbs (a+b).natAbs).length:Int)>0)),natC (a+b).natAbs]):=by
        unfold whC whCs;rw [hneg]
      rw [e,hab];clear e hneg;refine QW (Qz (Qy (Qx fun K hK=> ?_)));refine QJ J J J fW1 J (QQ J J J J J lNat J (QJ J J J fW1 J (QQ J J J J J lNat J (QV goSub (Sub_ok a.natAbs b.natAbs (by omega) (by omega)) J J J J ?_))));refine Qq J J J (QK J J J J (QK J J J J (Qv J J J (Qv J J J (Qj (hK _ _ (Qz (Qy ?_))))))));clear hK K;refine Qx (fun K hK=> ?_);refine QJ J J J fW0 J (QQ J J J J J lBool J (Qq J J J (Xd 49 J (fun h=> ?_) (fun h=> ?_))))
      · refine Qq J J J (Qh J J sNat.und (List.length_map ..) J (Qk igtr J J J J (Q5 J J J J (Qq J J J (Qo J bWh J (.one J J J J (.one J J J J .nil)) J (Qa 2 J J J J J szWh J J (Qj (hK _ _ (Qz (Q4 ?_))))))))));clear hK K;refine Q1 [_] rfl (Qg (n:=2) J J lWh J QZ) (by rw [h];rfl) J
      · refine Qw J J J (Qw J J J (Qw J J J (Q7 J J J J (Qq J J J (Qo J bWh J (.one J J J J (.one J J J J .nil)) J (Qa 2 J J J J J szWh J J (Qj (hK _ _ (Qz (Q4 ?_))))))))));clear hK K;refine Q1 [_] rfl (Qg (n:=2) J J lWh J QZ) (by rw [h];rfl) J
theorem w_wh0:∀S w v,(CT.fr (aggT [boolC false, .ex (.slice none 0 0)])).p S w v→(whC 0).p S w v:=fun S w v h=>by
  have:whC 0= .fr (aggT [boolC false,intsC []]):=by show CT.fr (aggT [boolC (decide ((0:Int)<0)),natC 0])=_;rw [natC_zero];rfl
  rw [this]
  exact w_agg (cs:=[boolC false, .ex (.slice none 0 0)]) (ds:=[boolC false,intsC []]) ⟨Yk,YQ,trivial⟩ S w v h
set_option maxHeartbeats 2000000 in
theorem times_ok(a b:Int)(hx:(limbs a.natAbs).length+(limbs b.natAbs).length≤256):Ok Tryz.prog 251 [whC a,whC b] (whC (a*b)):=by
  have ha:=len0 (z:=a);have hb:=len0 (z:=b)
  refine Ok.enter Tryz.func251 J _ Tryz.ntmps251 J ?_
  intro S w;refine Qy (Qx fun K hK=> ?_);refine Xu 4 J J J J J J J (Xu 5 J J J J J J J (Qf 6 J J zvWh J J J (Qj (hK _ _ (Qz (Qy (Qy ?_)))))));clear hK K;refine Qx (fun K hK=> ?_);refine QJ J J J fW1 J (QQ J J J J J lNat J (Qh J J sNat.und (List.length_map ..) J (Qk ieql J J J J (Qq J J J (Qi 11 J (fun h=> ?_) (fun h=> ?_))))))
  · have h0:a=0:=ha.1 h;subst h0;refine Qw J J J (Qw J J J (Qw J J J (Qw J J J (Q5 J J J J (Qj (hK _ _ (Qz (XZ J (Qy ?_)))))))));clear hK K;refine Qx (fun K hK=> ?_);refine Qo J bWh J .nil J (Qa 2 J J J J J szWh J J (Qj (hK _ _ (Qz (Q4 (QY ?_))))));clear hK K;refine Q1 [_] rfl (X7 w_wh0 (Qg (n:=2) J J lWh J QZ)) (by rw [Int.zero_mul];rfl) J
  · refine QJ J J J fW1 J (QQ J J J J J lNat J (Qh J J sNat.und (List.length_map ..) J (Qk ieql J J J J (Q7 J J J J (Qj (hK _ _ (Qz ?_)))))));clear hK K;refine Q2 J (fun h2=> ?_) (fun h2=> ?_)
    · have h0:b=0:=hb.1 h2;subst h0;refine Qy (Qx fun K hK=> ?_);refine Qo J bWh J .nil J (Qa 2 J J J J J szWh J J (Qj (hK _ _ (Qz (Q4 (QY ?_))))));clear hK K;refine Q1 [_] rfl (X7 w_wh0 (Qg (n:=2) J J lWh J QZ)) (by rw [Int.mul_zero];rfl) J
    · have ha0:a≠0:=fun e=>h (ha.2 e)
      have hb0:b≠0:=fun e=>h2 (hb.2 e)
      have e:whC (a*b)= .fr (aggT [boolC (decide (a<0) !=decide (b<0)),natC (a.natAbs*b.natAbs)]):=by
        refine whC_eq (b:=decide (a<0) !=decide (b<0)) (n:=a.natAbs*b.natAbs) ?_ (fun _=>Nat.mul_ne_zero (by omega) (by omega))
        have h1:=sg_natAbs a;have h2:=sg_natAbs b
        conv=>lhs;rw [←h1,←h2]
        cases decide (a<0) <;>cases decide (b<0) <;>simp [sg,Int.natCast_mul,Int.neg_mul,Int.mul_neg]
      rw [e];clear e;refine QW (Qz (Qy (Qx fun K hK=> ?_)));refine QJ J J J fW1 J (QQ J J J J J lNat J (QJ J J J fW1 J (QQ J J J J J lNat J (QV goMul (Mul_ok a.natAbs b.natAbs hx) J J J J (Qq J J J (QK J J J J (QK J J J J (Qv J J J (Qv J J J (Qj (hK _ _ (Qz (Qy ?_)))))))))))));clear hK K;refine Qx (fun K hK=> ?_);refine QJ J J J fW0 J (QQ J J J J J lBool J (QJ J J J fW0 J (QQ J J J J J lBool J (Ops.bne J J J uBoolW J (Qq J J J ?_)))));rw [dne];refine Qo J bWh J (.one J J J J (.one J J J J .nil)) J (Qa 2 J J J J J szWh J J (Qj (hK _ _ (Qz (Q4 ?_)))));clear hK K;refine Q1 [_] rfl (Qg (n:=2) J J lWh J QZ) J J
theorem tdiv_sg(a:Int)(b:Nat):a.tdiv b=sg (decide (a<0)) (a.natAbs/b):=by
  unfold sg;by_cases h:a<0
  · rw [if_pos (by simpa using h)];obtain ⟨n,rfl⟩:∃n:Nat,a= -(n:Int):=⟨a.natAbs,by omega⟩;rw [Int.neg_tdiv,Int.natAbs_neg,Int.natAbs_natCast];rfl
  · rw [if_neg (by simpa using h)];obtain ⟨n,rfl⟩:∃n:Nat,a=(n:Int):=⟨a.natAbs,by omega⟩;rw [Int.natAbs_natCast];rfl
set_option maxHeartbeats 2000000 in
theorem over_ok(a:Int)(b:Int)(hb:0<b)(h1:(limbs a.natAbs).length≤256)(h2:(limbs b.natAbs).length≤256):Ok Tryz.prog 252 [whC a,whC b] (whC (a.tdiv b)):=by
  have ha:=len0 (z:=a);obtain ⟨m,rfl⟩:∃m:Nat,b=(m:Int):=⟨b.toNat,by omega⟩;rw [Int.natAbs_natCast] at h2;have hdm:=DivMod_ok a.natAbs m (by omega) h1 h2;have hl:=limbs_len_pos (n:=a.natAbs/m)
  have gen:∀q:Nat,q=a.natAbs/m→whC (a.tdiv m)= .fr (aggT [boolC (decide (a<0)&&decide (((limbs q).length:Int)>0)),natC q]):=fun q hq=>by
    subst hq
    refine whC_eq (b:=decide (a<0)&&decide (((limbs (a.natAbs/m)).length:Int)>0)) (n:=a.natAbs/m) ?_ (fun h=> ?_)
    · rw [tdiv_sg];by_cases h0:a.natAbs/m=0
      · rw [h0,limbs_zero];unfold sg;simp
      · have:decide (((limbs (a.natAbs/m)).length:Int)>0)=true:=by rw [decide_eq_true_eq];omega
        rw [this,Bool.and_true]
    · simp only [Bool.and_eq_true,decide_eq_true_eq] at h;omega
  refine Ok.enter Tryz.func252 J _ Tryz.ntmps252 J ?_
  intro S w;rw [show whC (m:Int)= .fr (aggT [boolC false,natC m]) from whC_eq (b:=false) (n:=m) (by unfold sg;rfl) (by intro h;cases h)];refine Qy (Qx fun K hK=> ?_);refine Xu 4 J J J J J J J (Xu 5 J J J J J J J (Qf 6 J J zvWh J J J (Qj (hK _ _ (Qz (Qy (Qy ?_)))))));clear hK K;refine Qx (fun K hK=> ?_);refine QJ J J J fW1 J (QQ J J J J J lNat J (Qh J J sNat.und (List.length_map ..) J (Qk ieql J J J J (Qq J J J (Qi 12 J (fun h=> ?_) (fun h=> ?_))))))
  · have h0:a=0:=ha.1 h;subst h0;refine Qw J J J (Qw J J J (Qw J J J (Qw J J J (Qw J J J (Qw J J J (Qw J J J (Qw J J J (Qw J J J (Qw J J J (Qw J J J (Q5 J J J J (Qj (hK _ _ (Qz (XZ J (Qy ?_))))))))))))))));clear hK K;refine Qx (fun K hK=> ?_);refine Qc (n:=2) J J J J J lWh J (Qa 2 J J J J J szWh J J (Qj (hK _ _ (Qz (Q4 (QY ?_))))));clear hK K;refine Q1 [_] rfl (Qg (n:=2) J J lWh J QZ) (by rw [Int.zero_tdiv];rfl) J
  · refine QJ J J J fW1 J (QQ J J J J J lNat J (Qh J J sNat.und (List.length_map ..) J (Qk ieql J J J J (Qq J J J (Qi 17 J (fun h3=> ?_) (fun h3=> ?_))))))
    · have hm:m<1073741824:=by
        have:=Xl (n:=m) (k:=1) (by omega)
        simpa using this
      have e0:(limbs m).getD (0:Int).toNat 0=m:=by rw [limbs_one (by omega) hm];rfl
      refine QJ J J J fW1 J (QQ J J J J J lNat J (Xx J J J sNat (by omega) (Xs (by omega) (by omega)) J ?_));refine X1 J J J lInt J (Qk ieql J J J J (Q5 J J J J (Q7 J J J J (Qj (hK _ _ (Qz ?_))))));clear hK K;rw [e0];skip;refine Q2 J (fun h4=> ?_) (fun h4=> ?_)
      · have h5:m=1:=by omega
        subst h5;refine Qy (Qx fun K hK=> ?_);refine Qc (n:=2) J J J J J lWh J (Qa 2 J J J J J szWh J J (Qj (hK _ _ (Qz (Q4 (QY ?_))))));clear hK K;refine Q1 [_] rfl (Qg (n:=2) J J lWh J QZ) (by rw [show ((1:Nat):Int)=1 from rfl,Int.tdiv_one];rfl) J
      · rw [gen _ J];generalize a.natAbs/m=q at*;generalize a.natAbs%m=rr at*;refine QW (Qz (Qy (Qx fun K hK=> ?_)));refine QJ J J J fW1 J (QQ J J J J J lNat J (QJ J J J fW1 J (QQ J J J J J lNat J (QV goDivMod hdm J J J J (Qq J J J (QK J J J J (QK J J J J (QK J J J J (Qv J J J (Qv J J J (Qv J J J (Qj (hK _ _ (Qz (Qy ?_)))))))))))))));clear hK K;refine Qx (fun K hK=> ?_);refine QJ J J J fW0 J (QQ J J J J J lBool J (Qq J J J (Xd 37 J (fun h=> ?_) (fun h=> ?_))))
        · refine Qq J J J (Qh J J sNat.und (List.length_map ..) J (Qk igtr J J J J (Q5 J J J J (Qq J J J (Qo J bWh J (.one J J J J (.one J J J J .nil)) J (Qa 2 J J J J J szWh J J (Qj (hK _ _ (Qz (Q4 ?_))))))))));clear hK K;refine Q1 [_] rfl (Qg (n:=2) J J lWh J QZ) (by rw [h];rfl) J
        · refine Qw J J J (Qw J J J (Qw J J J (Q7 J J J J (Qq J J J (Qo J bWh J (.one J J J J (.one J J J J .nil)) J (Qa 2 J J J J J szWh J J (Qj (hK _ _ (Qz (Q4 ?_))))))))));clear hK K;refine Q1 [_] rfl (Qg (n:=2) J J lWh J QZ) (by rw [h];rfl) J
    · have gq:=gen _ J;generalize a.natAbs/m=q at*;generalize a.natAbs%m=rr at*;refine Qw J J J (Qw J J J (Qw J J J (Qw J J J (Qw J J J (Q7 J J J J (Q7 J J J J (Qj (hK _ _ (Qz (Xy J (QW (Qz (Qy ?_)))))))))))));clear hK K;refine Qx (fun K hK=> ?_);refine QJ J J J fW1 J (QQ J J J J J lNat J (QJ J J J fW1 J (QQ J J J J J lNat J (QV goDivMod hdm J J J J (Qq J J J (QK J J J J (QK J J J J (QK J J J J (Qv J J J (Qv J J J (Qv J J J (Qj (hK _ _ (Qz (Qy ?_)))))))))))))));clear hK K;refine Qx (fun K hK=> ?_);refine QJ J J J fW0 J (QQ J J J J J lBool J (Qq J J J (Xd 37 J (fun h=> ?_) (fun h=> ?_))))
      · refine Qq J J J (Qh J J sNat.und (List.length_map ..) J (Qk igtr J J J J (Q5 J J J J (Qq J J J (Qo J bWh J (.one J J J J (.one J J J J .nil)) J (Qa 2 J J J J J szWh J J (Qj (hK _ _ (Qz (Q4 ?_))))))))));clear hK K;refine Q1 [_] rfl (Qg (n:=2) J J lWh J QZ) (by rw [gq,h];rfl) J
      · refine Qw J J J (Qw J J J (Qw J J J (Q7 J J J J (Qq J J J (Qo J bWh J (.one J J J J (.one J J J J .nil)) J (Qa 2 J J J J J szWh J J (Qj (hK _ _ (Qz (Q4 ?_))))))))));clear hK K;refine Q1 [_] rfl (Qg (n:=2) J J lWh J QZ) (by rw [gq,h];rfl) J
end Go.Proofs.YtojkdfilabmafaaGreat
namespace Go.Own
variable {X : Ctx} {L : AL} {B : BL} {ops : Array Oper} {K : Act → World → Prop} {r : Pl} {k : Kd}
  {x y z : Operand} {d : Nat} {t t2 t' : TypeId} {pos : String} {af : Array Edge} {g : Option (Nat × Bool)}
theorem Qp{el n bytes e:Nat}{v0:Value}{zv:Value}{kk:IntKind}{j:Int}{cs:List CT}(i m:Nat)(hg:gd ops L g=some true)(hx:ev L x=some (.ct (.ex v0)))(hi:bget B i=some (.rowx v0 e n cs))(hl:cs.length=m*n)(hy:ev L y=some (.ct (.ex (.int kk j))))(hT:SlcT X.P t el n bytes zv)(h0:0≤j)(hj:j<m)
    (hn:Nat.blt d X.n=true) (h:Ops X ops r ((d, .loc i (j.toNat*n))::L) B K):Ops X ops (.cons ⟨some d, .indexAddr t x y,t',pos,af,g⟩ k r) L B K:=
  XU (s:= .loc i (j.toNat*n)) hg rfl hn (fun a ρ w hI=>by
    have h1:a.eval x=ρ i:=by
      have:a.eval x=v0:=hI.evx hx;rw [this];exact (hI.ent i _ hi).1.1.symm
    obtain ⟨nf,hi2,hs,_⟩:=hT.inf;obtain ⟨n',vs,how,hc⟩:=(hI.ent i _ hi).1.2;have hl' :=hc.length;rw [how.1,hl] at hl';have:n' =m:=Nat.eq_of_mul_eq_mul_right hT.pos hl';subst this;rcases how.2 with ⟨h2,h3⟩|⟨gb,cap,cur,h2,_⟩
    · omega
    · refine ⟨.pointer (some ⟨gb,j.toNat*n,none⟩),fun w' _=> ?_,gb,by rw [h2];rfl,rfl⟩;show (do pure (Next.value (←Instr.indexAt t (a.eval x) (a.eval y))):Sem Next).run X.P w' =_;rw [h1,h2,hI.evx hy]
      refine Xb ?_
      rw [run_index hT.und hi2 h0 (by omega),hs,Nat.zero_add]) h
theorem ZK{el n e:Nat}{v0:Value}{cs:List CT}(i m:Nat)(hg:gd ops L g=some true)(hx:ev L x=some (.ct (.ex v0)))(hi:bget B i=some (.rowx v0 e n cs))(hp:0<n)(hl:cs.length=m*n)(hu:X.P.underlying t=some (.slice el))(hn:Nat.blt d X.n=true)(h:Ops X ops r ((d, .ct (.ex (.int .i64 m)))::L) B K):
    Ops X ops (.cons ⟨some d, .call {callee:= .builtin .len,args:= #[x],argTypes:= #[t]},t',pos,af,g⟩ k r) L B K:=
  XU (s:= .ct (.ex (.int .i64 m))) hg rfl hn (fun a ρ w hI=>by
    have h1:a.eval x=ρ i:=by
      have:a.eval x=v0:=hI.evx hx;rw [this];exact (hI.ent i _ hi).1.1.symm
    obtain ⟨ad,c,h2⟩:=row_len (hI.ent i _ hi).1.2 hp hl;refine ⟨_,fun w' _=>Zv (args:=[x]) ?_,rfl⟩;intro _;simp only [List.map_cons,List.map_nil,h1,h2]
    exact Ye hu _ _ _ _ _) h
end Go.Own
namespace Go.Proofs.YtojkdfilabmafaaGreat
open Go.Own Go.Limbs
def linesB : Nat → List Value → List (List Int) → BL
  | _, [], _ => []
  | _, _, [] => []
  | k, h :: hl, z :: zs => (k, .rowx h 211 2 (whs z)) :: linesB (k + 1) hl zs
theorem Z1:∀(k:Nat) (hl:List Value) (zs:List (List Int)) (j:Nat),j<k→bget (linesB k hl zs) j=none
  |_,[],_,_,_=>by simp [linesB,bget]
  |_,_::_,[],_,_=>by simp [linesB,bget]
  |k,h::hl,z::zs,j,hj=>by
    rw [linesB,QU _ _ (by omega)];exact Z1 (k+1) hl zs j (by omega)
theorem Xw:∀{k:Nat} {hl:List Value} {zs:List (List Int)} {i:Nat},i<hl.length→i<zs.length→bget (linesB k hl zs) (i+k)=some (.rowx (hl.getD i default) 211 2 (whs (zs.getD i [])))
  |_,[],_,_,h,_=>by simp at h
  |_,_::_,[],_,_,h=>by simp at h
  |k,h::hl,z::zs,0,_,_=>by rw [linesB,Nat.zero_add,Qd];rfl
  |k,h::hl,z::zs,i+1,h1,h2=>by
    rw [linesB,QU _ _ (by omega),show i+1+k=i+(k+1) by omega,Xw (by simpa using h1) (by simpa using h2)]
    simp
theorem lines_ge:∀{k:Nat} {hl:List Value} {zs:List (List Int)} {i:Nat},(hl.length≤i∨zs.length≤i)→bget (linesB k hl zs) (i+k)=none
  |_,[],_,_,_=>by simp [linesB,bget]
  |_,_::_,[],_,_=>by simp [linesB,bget]
  |k,h::hl,z::zs,0,h1=>by simp at h1
  |k,h::hl,z::zs,i+1,h1=>by
    rw [linesB,QU _ _ (by omega),show i+1+k=i+(k+1) by omega]
    exact lines_ge (by simpa using h1)
theorem lines_set:∀{k:Nat} {hl:List Value} {zs:List (List Int)} {i:Nat} (y:List Int),i<hl.length→i<zs.length→
    bset (linesB k hl zs) (i+k) (.rowx (hl.getD i default) 211 2 (whs y))=linesB k hl (zs.set i y)
  |_,[],_,_,_,h,_=>by simp at h
  |_,_::_,[],_,_,_,h=>by simp at h
  |k,h::hl,z::zs,0,y,_,_=>by simp [linesB,bset]
  |k,h::hl,z::zs,i+1,y,h1,h2=>by
    have:=lines_set (k:=k+1) (hl:=hl) (zs:=zs) (i:=i) y (by simpa using h1) (by simpa using h2)
    rw [show i+(k+1)=i+1+k by omega] at this
    have hne:Nat.beq k (i+1+k)=false:=beq_ne (by omega)
    simp only [linesB,bset,hne,List.set_cons_succ,List.getD_cons_succ]
    rw [this]
theorem Zi{j i:Nat}{e e' :Ent}{B:BL}(h:Nat.beq j i=false):bset ((j,e)::B) i e' =(j,e)::bset B i e' :=by simp [bset,h]
structure Tv where
  hR : Value
  hB : Value
  hC : Value
  hl : List Value
  rows : List (List Int)
  bas : List Int
  col : List Int
  den : Int
abbrev tabCs (T : Tv) : List CT := [.ex T.hR, .ex T.hB, .ex T.hC, boolC (decide (T.den < 0)), natC T.den.natAbs]
def tabB (T : Tv) : BL :=
  (0, .box 215 (tabCs T)) :: (1, .rowx T.hR 212 1 (T.hl.map CT.ex)) :: (2, .rowx T.hB 3 1 (ints T.bas)) :: (3, .rowx T.hC 3 1 (ints T.col)) :: linesB 10 T.hl T.rows
structure Fit (T : Tv) : Prop where
  hl : T.hl.length = T.rows.length
  row : ∀ i, i < T.rows.length → (T.rows.getD i []).length = T.col.length + 1
  bas : T.bas.length ≤ T.rows.length
  few : T.rows.length ≤ 100
  thin : T.col.length ≤ 100
theorem Ze{hl:List Value}{i:Nat}(h:i<hl.length):(hl.map CT.ex)[i]? =some (.ex (hl.getD i default)):=by
  simp [List.getElem?_eq_getElem h,List.getD_eq_getElem?_getD]
theorem sgn_lt{z:Int}:z.sign<0↔z<0:=by
  rcases Int.lt_trichotomy z 0 with h|h|h
  · rw [Int.sign_eq_neg_one_of_neg h];omega
  · subst h;simp
  · rw [Int.sign_eq_one_of_pos h];omega
theorem sgn_le{z:Int}:z.sign≤0↔z≤0:=by
  rcases Int.lt_trichotomy z 0 with h|h|h
  · rw [Int.sign_eq_neg_one_of_neg h];omega
  · subst h;simp
  · rw [Int.sign_eq_one_of_pos h];omega
theorem sgn_eq{z:Int}:z.sign=0↔z=0:=Int.sign_eq_zero_iff_zero
def entS (gr col : List Int) : Nat → Int
  | 0 => -1
  | j + 1 => if gr.getD j 0 < 0 ∧ (entS gr col j < 0 ∨ col.getD j 0 < col.getD (entS gr col j).toNat 0) then j else entS gr col j
theorem entS_bd(gr col:List Int):∀j, -1≤entS gr col j∧entS gr col j<j
  |0=>by simp [entS]
  |j+1=>by
    have:=entS_bd gr col j
    simp only [entS];split <;>omega
theorem tab_fx(T:Tv):∀i∈ [0],isBx (bget (tabB T) i)=true:=fun i hi=>by
  have:i=0:=by simpa using hi
  subst this;rfl
attribute [local irreducible] St Ops Go.Own.Fin Ok OkM
theorem goentering:InGo Tryz.prog 208:=InGo.of Tryz.func208 (by kernel_rfl) (by kernel_rfl)
set_option maxHeartbeats 4000000 in
theorem entering_ok(T:Tv)(hF:Fit T)(gi:Nat)(hg:gi<T.rows.length):OkM Tryz.prog 208 [.own 0, .ct (intC gi)] (tabB T) [0] (fun _:Unit=>True) (fun _=> .ct (intC (entS (T.rows.getD gi []) T.col T.col.length))) (fun _=>tabB T):=by
  have hrow:=hF.row gi hg;have hfew:=hF.few;have hthin:=hF.thin;have hhl:=hF.hl
  refine OkM.enter Tryz.func208 J _ Tryz.ntmps208 J (tab_fx T) ?_
  intro S w ρ0 hbor;simp only [tabB];refine Qy (Qx fun K hK=> ?_);refine Qv J J J (Qj (hK _ _ (Qz (Qy ?_))));clear hK K;refine Qx (fun K hK=> ?_);refine Qv J J J (Qj (hK _ _ (Qz (Qy (Qy ?_)))));clear hK K;refine Qx (fun K hK=> ?_);refine Qq J J J (Q0 J J J J (QJ J J J fT2 J (QQ J J J J J lInts J (ZK 3 T.col.length J J J (by decide) (by simp) sInts.und J ?_))));refine Qq J J J (Qj (hK _ _ (Qz (Q3 ?_))));clear hK K
  refine Qs (α:=Nat) (fun s=>s≤T.col.length)
    (fun s=>[(0, .own 0),(1, .ct (intC gi)),(5, .ct (intC (entS (T.rows.getD gi []) T.col s))),(11, .ct (.ex T.hC)),(12, .ct (intC T.col.length)),(13, .ct (intC s))])
    (fun _=>tabB T) (fun s=>T.col.length - s) 0 (Nat.zero_le _) (by exact Qu J ⟨rfl,rfl,rfl,rfl,rfl,rfl,trivial⟩) ?_
  intro j hj;dsimp only at hj ⊢;simp only [tabB];have hb:=entS_bd (T.rows.getD gi []) T.col j
  have es:entS (T.rows.getD gi []) T.col (j+1)=if (T.rows.getD gi []).getD j 0<0∧(entS (T.rows.getD gi []) T.col j<0∨T.col.getD j 0<T.col.getD (entS (T.rows.getD gi []) T.col j).toNat 0) then (j:Int) else entS (T.rows.getD gi []) T.col j:=rfl
  generalize hbest:entS (T.rows.getD gi []) T.col j=best at*;refine Qy (Qx fun K hK=> ?_);refine Qk ilss J J J J (Qj (hK _ _ (Qz (Qy ?_))));clear hK K;refine Q2 J (fun h=> ?_) (fun h=> ?_)
  · have k1:(j:Int).toNat*1=j:=by omega
    have k2:(j:Int).toNat*2=j*2:=by omega
    have k3:(gi:Int).toNat*1=gi:=by omega
    refine QW (Qz (Qy (Q3 (Qy (Qx fun K hK=> ?_)))));refine Qq J J J (Qp 3 T.col.length J J J (by simp) J sInts (by omega) (by omega) J ?_);rw [k1]
    refine QQ J J J J (Xo (by omega)) lInt J ?_
    refine Qv J J J (Qv J J J (Qj (hK _ _ (Qz (Qy ?_)))));clear hK K;refine Qx (fun K hK=> ?_);refine Qq J J J (Q0 J J J J (QJ J J J fT0 J (QQ J J J J J lMat J (Qq J J J (Qp 1 T.rows.length J J J (by simp [hhl]) J sMat (by omega) (by omega) J ?_)))));rw [k3]
    refine QQ J J J J (Ze (by omega)) lWhs J ?_
    refine Qq J J J (Qp (gi+10) (T.col.length+1) J J (Xw (by omega) hg) (by rw [XV,hrow]) J sWhs (by omega) (by omega) J ?_);rw [k2]
    refine ldWh J J J (Xw (by omega) hg) J (by omega) lWh J ?_
    refine QV gosign (Y3 _) J J J J (Qk ilss J J J J (Qq J J J ?_));have sl:=sgn_lt (z:=(T.rows.getD gi []).getD j 0);generalize (T.rows.getD gi []).getD j 0=zz at*;refine Qi 30 J (fun h1=> ?_) (fun h1=> ?_)
    · refine Qq J J J (Qk ilss J J J J (Qq J J J (Qi 33 J (fun h2=> ?_) (fun h2=> ?_))))
      · refine Qw J J J (Qw J J J (Qw J J J (Qw J J J (Qw J J J (Qw J J J (Qw J J J (Qw J J J (Qw J J J (Q5 J J J J (Q5 J J J J (Qj (hK _ _ (Qz (XZ J ?_))))))))))))));clear hK K;refine Qx (fun K hK=> ?_);refine Qq J J J (Qv J J J (Qj (hK _ _ (Qz ?_))));clear hK K;refine Qx (fun K hK=> ?_)
        refine Qk (iadd (by omega) (by omega)) J J J J ?_
        refine Qq J J J (Qj (hK _ _ (Q6 ?_)));clear hK K;refine Q9 (j+1) (by omega) (by omega) (by exact Qu J ⟨rfl,rfl,by rw [es,if_pos ⟨sl.1 h1, .inl h2⟩];rfl,rfl,rfl,by simp only [Int.natCast_add];rfl,trivial⟩)
      · refine Qq J J J (Qq J J J (Q0 J J J J (QJ J J J fT2 J (QQ J J J J J lInts J (Qq J J J (Qp 3 T.col.length J J J (by simp) J sInts (by omega) (by omega) J ?_))))));rw [show best.toNat*1=best.toNat by omega]
        refine QQ J J J J (Xo (by omega)) lInt J ?_
        refine Qk ilss J J J J (Q7 J J J J (Q5 J J J J (Qj (hK _ _ (Qz ?_)))));clear hK K;refine Q2 J (fun h3=> ?_) (fun h3=> ?_)
        · refine Qx (fun K hK=> ?_);refine Qq J J J (Qv J J J (Qj (hK _ _ (Qz ?_))));clear hK K;refine Qx (fun K hK=> ?_)
          refine Qk (iadd (by omega) (by omega)) J J J J ?_
          refine Qq J J J (Qj (hK _ _ (Q6 ?_)));clear hK K;refine Q9 (j+1) (by omega) (by omega) (by exact Qu J ⟨rfl,rfl,by rw [es,if_pos ⟨sl.1 h1, .inr h3⟩];rfl,rfl,rfl,by simp only [Int.natCast_add];rfl,trivial⟩)
        · refine QW (Qz (Qx fun K hK=> ?_))
          refine Qk (iadd (by omega) (by omega)) J J J J ?_
          refine Qq J J J (Qj (hK _ _ (Q6 ?_)));clear hK K;refine Q9 (j+1) (by omega) (by omega) (by exact Qu J ⟨rfl,rfl,by rw [es,if_neg (fun h=>h.2.elim h2 h3)];rfl,rfl,rfl,by simp only [Int.natCast_add];rfl,trivial⟩)
    · refine Qw J J J (Qw J J J (Qw J J J (Qw J J J (Qw J J J (Qw J J J (Qw J J J (Qw J J J (Qw J J J (Qw J J J (Qw J J J (Qw J J J (Qw J J J (Q7 J J J J (Qj (hK _ _ (Qz (Xy J (QW (Qz ?_)))))))))))))))))));clear hK K;refine Qx (fun K hK=> ?_)
      refine Qk (iadd (by omega) (by omega)) J J J J ?_
      refine Qq J J J (Qj (hK _ _ (Q6 ?_)));clear hK K;refine Q9 (j+1) (by omega) (by omega) (by exact Qu J ⟨rfl,rfl,by rw [es,if_neg (fun h=>h1 (sl.2 h.1))];rfl,rfl,rfl,by simp only [Int.natCast_add];rfl,trivial⟩)
  · have hjn:j=T.col.length:=by omega
    subst hjn;refine Qm (Qz (Qy (Qx fun K hK=> ?_)));refine Qq J J J (Qv J J J (Qj (hK _ _ (Qz (Q4 ?_)))));clear hK K;refine YK () [_] rfl (QX J QZ) (by rw [hbest];rfl) (fun _=>rfl) trivial
end Go.Proofs.YtojkdfilabmafaaGreat
namespace Go.Proofs.YtojkdfilabmafaaGreat
open Go.Own Go.Limbs
attribute [local irreducible] St Ops Go.Own.Fin Ok OkM
abbrev Tv.at (T : Tv) (i j : Nat) : Int := (T.rows.getD i []).getD j 0
def levS (T : Tv) (s : Nat) : Nat → Int
  | 0 => -1
  | i + 1 => if T.at i s ≤ 0 then levS T s i else if levS T s i < 0 then i else
      if T.at i T.col.length * T.at (levS T s i).toNat s + -(T.at (levS T s i).toNat T.col.length * T.at i s) < 0 ∨ (T.at i T.col.length * T.at (levS T s i).toNat s + -(T.at (levS T s i).toNat T.col.length * T.at i s) = 0 ∧ T.bas.getD i 0 < T.bas.getD (levS T s i).toNat 0) then i else levS T s i
theorem levS_bd(T:Tv)(s:Nat):∀i, -1≤levS T s i∧levS T s i<i
  |0=>by simp [levS]
  |i+1=>by
    have:=levS_bd T s i
    simp only [levS];split
    · omega
    · split
      · omega
      · split <;>omega
def Shrt (T : Tv) : Prop := ∀ i j, (limbs (T.at i j).natAbs).length ≤ 60
theorem mul_short{a b:Int}(ha:(limbs a.natAbs).length≤60)(hb:(limbs b.natAbs).length≤60):(limbs (a*b).natAbs).length≤120:=by
  rw [Int.natAbs_mul];have:=limbs_mul_len (a:=a.natAbs) (b:=b.natAbs);omega
theorem neg_short{a:Int}{k:Nat}(ha:(limbs a.natAbs).length≤k):(limbs (-a).natAbs).length≤k:=by rw [Int.natAbs_neg];exact ha
theorem goleaving:InGo Tryz.prog 209:=InGo.of Tryz.func209 (by kernel_rfl) (by kernel_rfl)
set_option maxHeartbeats 8000000 in
theorem leaving_ok(T:Tv)(hF:Fit T)(hS:Shrt T)(s:Nat)(hs:s≤T.col.length):OkM Tryz.prog 209 [.own 0, .ct (intC s)] (tabB T) [0] (fun _:Unit=>True) (fun _=> .ct (intC (levS T s T.bas.length))) (fun _=>tabB T):=by
  have hfew:=hF.few;have hthin:=hF.thin;have hhl:=hF.hl;have hbas:=hF.bas
  refine OkM.enter Tryz.func209 J _ Tryz.ntmps209 J (tab_fx T) ?_
  intro S w ρ0 hbor;simp only [tabB];refine Qy (Qx fun K hK=> ?_);refine Qv J J J (Qj (hK _ _ (Qz (Qy ?_))));clear hK K;refine Qx (fun K hK=> ?_);refine Qv J J J (Qj (hK _ _ (Qz (Qy (Qy ?_)))));clear hK K;refine Qx (fun K hK=> ?_);refine Qq J J J (Q0 J J J J (QJ J J J fT1 J (QQ J J J J J lInts J (ZK 2 T.bas.length J J J (by decide) (by simp) sInts.und J ?_))));refine Qq J J J (Qj (hK _ _ (Qz (Q3 ?_))));clear hK K
  refine Qs (α:=Nat) (fun i=>i≤T.bas.length)
    (fun i=>[(0, .own 0),(1, .ct (intC s)),(5, .ct (intC (levS T s i))),(14, .ct (.ex T.hB)),(15, .ct (intC T.bas.length)),(16, .ct (intC i))])
    (fun _=>tabB T) (fun i=>T.bas.length - i) 0 (Nat.zero_le _) (by exact Qu J ⟨rfl,rfl,rfl,rfl,rfl,rfl,trivial⟩) ?_
  intro i hi;dsimp only at hi ⊢;simp only [tabB];have hb:=levS_bd T s i
  have es:levS T s (i+1)=if T.at i s≤0 then levS T s i else if levS T s i<0 then (i:Int) else
      if T.at i T.col.length*T.at (levS T s i).toNat s+ -(T.at (levS T s i).toNat T.col.length*T.at i s)<0∨(T.at i T.col.length*T.at (levS T s i).toNat s+ -(T.at (levS T s i).toNat T.col.length*T.at i s)=0∧T.bas.getD i 0<T.bas.getD (levS T s i).toNat 0) then (i:Int) else levS T s i:=rfl
  generalize hbest:levS T s i=best at*;refine Qy (Qx fun K hK=> ?_);refine Qk ilss J J J J (Qj (hK _ _ (Qz (Qy ?_))));clear hK K;refine Q2 J (fun h=> ?_) (fun h=> ?_)
  · have hi2:i<T.rows.length:=by omega
    have hrow:=hF.row i hi2
    have k1:(i:Int).toNat*1=i:=by omega
    have k2:(s:Int).toNat*2=s*2:=by omega
    refine QW (Qz (Qy (Q3 (Qy (Qx fun K hK=> ?_)))));refine Qq J J J (Qp 2 T.bas.length J J J (by simp) J sInts (by omega) (by omega) J ?_);rw [k1]
    refine QQ J J J J (Xo (by omega)) lInt J ?_
    refine Qv J J J (Qv J J J (Qj (hK _ _ (Qz (Qy ?_)))));clear hK K;refine Qx (fun K hK=> ?_);refine Qq J J J (Q0 J J J J (QJ J J J fT0 J (QQ J J J J J lMat J (Qq J J J (Qp 1 T.rows.length J J J (by simp [hhl]) J sMat (by omega) (by omega) J ?_)))));rw [k1]
    refine QQ J J J J (Ze (by omega)) lWhs J ?_
    refine Qv J J J (Qj (hK _ _ (Qz (Qy (Qy ?_)))));clear hK K;refine Qx (fun K hK=> ?_);refine Qq J J J (Qq J J J (Qp (i+10) (T.col.length+1) J J (Xw (by omega) hi2) (by rw [XV,hrow]) J sWhs (by omega) (by omega) J ?_));rw [k2]
    refine ldWh J J J (Xw (by omega) hi2) J (by omega) lWh J ?_
    refine QV gosign (Y3 _) J J J J (Qk ileq J J J J (Qj (hK _ _ (Qz ?_))));clear hK K;refine Q2 J (fun h1=> ?_) (fun h1=> ?_)
    · refine Qm (Qz (Qx fun K hK=> ?_))
      refine Qk (iadd (by omega) (by omega)) J J J J ?_
      refine Qq J J J (Qj (hK _ _ (Q6 ?_)));clear hK K;refine Q9 (i+1) (by omega) (by omega) (by exact Qu J ⟨rfl,rfl,by rw [es,if_pos (sgn_le.1 h1)];rfl,rfl,rfl,by simp only [Int.natCast_add];rfl,trivial⟩)
    · have h1' :¬T.at i s≤0:=fun h=>h1 (sgn_le.2 h)
      rw [if_neg h1'] at es;refine QW (Qz (Qy (Qy (Qx fun K hK=> ?_))));refine Qq J J J (Qk ilss J J J J (Qj (hK _ _ (Qz ?_))));clear hK K;refine Q2 J (fun h2=> ?_) (fun h2=> ?_)
      · refine Qy (Qx fun K hK=> ?_);refine Qq J J J (Qv J J J (Qj (hK _ _ (Qz (Qm (Qz ?_))))));clear hK K;refine Qx (fun K hK=> ?_)
        refine Qk (iadd (by omega) (by omega)) J J J J ?_
        refine Qq J J J (Qj (hK _ _ (Q6 ?_)));clear hK K;refine Q9 (i+1) (by omega) (by omega) (by exact Qu J ⟨rfl,rfl,by rw [es,if_pos h2];rfl,rfl,rfl,by simp only [Int.natCast_add];rfl,trivial⟩)
      · rw [if_neg h2] at es;obtain ⟨b,rfl⟩:∃b:Nat,best=b:=⟨best.toNat,by omega⟩;rw [Int.toNat_natCast] at es
        have hb2:b<T.rows.length:=by omega
        have hrowb:=hF.row b hb2
        have k3:(b:Int).toNat*1=b:=by omega
        have k4:((T.col.length:Int)).toNat*2=T.col.length*2:=by omega
        have s1:=hS i T.col.length;have s2:=hS b s;have s3:=hS b T.col.length;have s4:=hS i s;refine QW (Qz (Qy (Qx fun K hK=> ?_)));refine Qq J J J (ZK (i+10) (T.col.length+1) J J (Xw (by omega) hi2) (by decide) (by rw [XV,hrow]) sWhs.und J ?_)
        refine Qk (isub (by omega) (by omega)) J J J J ?_
        refine Qv J J J (Qj (hK _ _ (Qz (Qy ?_))));clear hK K;rw [show (((T.col.length+1:Nat):Int) - 1)=(T.col.length:Int) by omega];refine XX mixed 34 (.p 0 (.p 1 (.p 2 (.p 4 (.p 5 (.p 6 (.p 8 (.p 11 (.p 15 (.p 16 (.p 17 (.p 19 (.p 22 (.p 25 (.p 26 (.p 27 (.f 3 (.f 7 (.p 9 (.f 10 (.p 12 (.f 13 (.f 18 (.p 20 (.f 21 (.p 23 (.f 24 (.f 28 (.m 14 (.m 29 (.m 30 (.m 31 (.m 32 (.p 33 .done)))))))))))))))))))))))))))))))))) (by kernel_rfl) (fun K hK=> ?_);refine Qq J J J (Qq J J J (Qp (i+10) (T.col.length+1) J J (Xw (by omega) hi2) (by rw [XV,hrow]) J sWhs (by omega) (by omega) J ?_));rw [k4];refine Qq J J J (Q0 J J J J (QJ J J J fT0 J (Qq J J J (Qq J J J (Qq J J J (Q0 J J J J (QJ J J J fT0 J (Qq J J J (Qq J J J (Qq J J J (Qq J J J (Qp (i+10) (T.col.length+1) J J (Xw (by omega) hi2) (by rw [XV,hrow]) J sWhs (by omega) (by omega) J ?_))))))))))));rw [k2]
        refine ldWh J J J (Xw (by omega) hi2) J (by omega) lWh J ?_
        refine QQ J J J J J lMat J (Qp 1 T.rows.length J J J (by simp [hhl]) J sMat (by omega) (by omega) J ?_);rw [k3]
        refine QQ J J J J (Ze (by omega)) lWhs J ?_
        refine Qp (b+10) (T.col.length+1) J J (Xw (by omega) hb2) (by rw [XV,hrowb]) J sWhs (by omega) (by omega) J ?_
        rw [k2]
        refine ldWh J J J (Xw (by omega) hb2) J (by omega) lWh J ?_
        refine QQ J J J J J lMat J (Qp 1 T.rows.length J J J (by simp [hhl]) J sMat (by omega) (by omega) J ?_);rw [k3]
        refine QQ J J J J (Ze (by omega)) lWhs J ?_
        refine Qp (b+10) (T.col.length+1) J J (Xw (by omega) hb2) (by rw [XV,hrowb]) J sWhs (by omega) (by omega) J ?_
        rw [k4]
        refine ldWh J J J (Xw (by omega) hb2) J (by omega) lWh J ?_
        refine ldWh J J J (Xw (by omega) hi2) J (by omega) lWh J ?_
        refine QV gotimes (times_ok (T.at i T.col.length) (T.at b s) (by omega)) J J J J ?_
        refine QV gotimes (times_ok (T.at b T.col.length) (T.at i s) (by omega)) J J J J ?_
        refine QV gominus (minus_ok _) J J J J ?_
        have m1:=mul_short s1 s2;have m2:=neg_short (mul_short s3 s4)
        refine QV goplus (plus_ok _ _ (by omega) (by omega)) J J J J ?_
        have q1:=sgn_lt (z:=T.at i T.col.length*T.at b s+ -(T.at b T.col.length*T.at i s));have q2:=sgn_eq (z:=T.at i T.col.length*T.at b s+ -(T.at b T.col.length*T.at i s));generalize T.at i T.col.length*T.at b s+ -(T.at b T.col.length*T.at i s)=dd at*;refine QV gosign (Y3 dd) J J J J (Qv J J J (Qj (hK _ _ (Qz (Qy ?_)))));clear hK K;refine Qx (fun K hK=> ?_);refine Qq J J J (Qk ilss J J J J (Qq J J J (Qi 75 J (fun h3=> ?_) (fun h3=> ?_))))
        · refine Qw J J J (Qw J J J (Qw J J J (Qw J J J (Qw J J J (Qw J J J (Qw J J J (Qw J J J (Qw J J J (Qw J J J (Qw J J J (Qw J J J (Qw J J J (Q5 J J J J (Qj (hK _ _ (Qz (XZ J ?_)))))))))))))))));clear hK K;refine Qx (fun K hK=> ?_);refine Qq J J J (Qv J J J (Qj (hK _ _ (Qz ?_))));clear hK K;refine Qx (fun K hK=> ?_)
          refine Qk (iadd (by omega) (by omega)) J J J J ?_
          refine Qq J J J (Qj (hK _ _ (Q6 ?_)));clear hK K;refine Q9 (i+1) (by omega) (by omega) (by exact Qu J ⟨rfl,rfl,by rw [es,if_pos (.inl (q1.1 h3))];rfl,rfl,rfl,by simp only [Int.natCast_add];rfl,trivial⟩)
        · refine Qq J J J (Qk ieql J J J J (Qq J J J (Qi 78 J (fun h4=> ?_) (fun h4=> ?_))))
          · refine Qq J J J (Qq J J J (Q0 J J J J (QJ J J J fT1 J (QQ J J J J J lInts J (Qq J J J (Qp 2 T.bas.length J J J (by simp) J sInts (by omega) (by omega) J ?_))))));rw [k3]
            refine QQ J J J J (Xo (by omega)) lInt J ?_
            refine Qk ilss J J J J (Q5 J J J J (Q7 J J J J (Qj (hK _ _ (Qz ?_)))));clear hK K;refine Q2 J (fun h5=> ?_) (fun h5=> ?_)
            · refine Qx (fun K hK=> ?_);refine Qq J J J (Qv J J J (Qj (hK _ _ (Qz ?_))));clear hK K;refine Qx (fun K hK=> ?_)
              refine Qk (iadd (by omega) (by omega)) J J J J ?_
              refine Qq J J J (Qj (hK _ _ (Q6 ?_)));clear hK K;refine Q9 (i+1) (by omega) (by omega) (by exact Qu J ⟨rfl,rfl,by rw [es,if_pos (.inr ⟨q2.1 h4,h5⟩)];rfl,rfl,rfl,by simp only [Int.natCast_add];rfl,trivial⟩)
            · refine QW (Qz (Qx fun K hK=> ?_))
              refine Qk (iadd (by omega) (by omega)) J J J J ?_
              refine Qq J J J (Qj (hK _ _ (Q6 ?_)));clear hK K;refine Q9 (i+1) (by omega) (by omega) (by exact Qu J ⟨rfl,rfl,by rw [es,if_neg (fun h=>h.elim (fun h=>h3 (q1.2 h)) (fun h=>h5 h.2))];rfl,rfl,rfl,by simp only [Int.natCast_add];rfl,trivial⟩)
          · refine Qw J J J (Qw J J J (Qw J J J (Qw J J J (Qw J J J (Qw J J J (Qw J J J (Qw J J J (Qw J J J (Q7 J J J J (Q7 J J J J (Qj (hK _ _ (Qz (Xy J (QW (Qz ?_))))))))))))))));clear hK K;refine Qx (fun K hK=> ?_)
            refine Qk (iadd (by omega) (by omega)) J J J J ?_
            refine Qq J J J (Qj (hK _ _ (Q6 ?_)));clear hK K;refine Q9 (i+1) (by omega) (by omega) (by exact Qu J ⟨rfl,rfl,by rw [es,if_neg (fun h=>h.elim (fun h=>h3 (q1.2 h)) (fun h=>h4 (q2.2 h.1)))];rfl,rfl,rfl,by simp only [Int.natCast_add];rfl,trivial⟩)
  · have hjn:i=T.bas.length:=by omega
    subst hjn;refine Qm (Qz (Qy (Qx fun K hK=> ?_)));refine Qq J J J (Qv J J J (Qj (hK _ _ (Qz (Q4 ?_)))));clear hK K;refine YK () [_] rfl (QX J QZ) (by rw [hbest];rfl) (fun _=>rfl) trivial
def pvZ (p D : Int) (s : Nat) (rr line : List Int) (j : Nat) : Int := if j = s then -(line.getD s 0) else (line.getD j 0 * p + -(rr.getD j 0 * line.getD s 0)).tdiv D
def pvPre (p D : Int) (s : Nat) (rr line : List Int) (q : Nat) : List Int := (List.range line.length).map fun j => if j < q ∧ j ≠ s then pvZ p D s rr line j else line.getD j 0
def pvRow (p D : Int) (s : Nat) (rr line : List Int) : List Int := (List.range line.length).map (pvZ p D s rr line)
def pvRows (T : Tv) (r s q : Nat) : List (List Int) := (List.range T.rows.length).map fun i => if i < q ∧ i ≠ r then pvRow (T.at r s) T.den s (T.rows.getD r []) (T.rows.getD i []) else T.rows.getD i []
def negL (l : List Int) : List Int := l.map (fun z => -z)
def pvt (T : Tv) (r s : Nat) : Tv :=
  let rows := (pvRows T r s T.rows.length).set r ((T.rows.getD r []).set s T.den)
  { T with rows := if T.at r s < 0 then rows.map negL else rows, bas := T.bas.set r (T.col.getD s 0), col := T.col.set s (T.bas.getD r 0), den := if T.at r s < 0 then -(T.at r s) else T.at r s }
theorem pvPre_len(p D:Int)(s:Nat)(rr line:List Int)(q:Nat):(pvPre p D s rr line q).length=line.length:=by simp [pvPre]
theorem pvRow_len(p D:Int)(s:Nat)(rr line:List Int):(pvRow p D s rr line).length=line.length:=by simp [pvRow]
theorem Y6(T:Tv)(r s q:Nat):(pvRows T r s q).length=T.rows.length:=by simp [pvRows]
theorem ZW{α:Type}(n:Nat)(f:Nat→α)(d:α){j:Nat}(h:j<n):((List.range n).map f).getD j d=f j:=by simp [List.getD_eq_getElem?_getD,h]
theorem Yu{α:Type}(l:List α)(d:α):(List.range l.length).map (fun j=>l.getD j d)=l:=by
  apply List.ext_getElem (by simp)
  intro j h1 h2;simp [List.getD_eq_getElem?_getD,h2]
theorem YY{α:Type}(n:Nat)(f g:Nat→α)(q:Nat)(x:α)(hq:q<n)(h:∀j,j<n→g j=if j=q then x else f j):((List.range n).map f).set q x=(List.range n).map g:=by
  apply List.ext_getElem (by simp)
  intro j h1 h2;simp only [List.length_map,List.length_range] at h2;rw [List.getElem_set];simp only [List.getElem_map,List.getElem_range];rw [h j h2];by_cases e:q=j
  · subst e;simp
  · rw [if_neg e,if_neg (Ne.symm e)]
theorem pvPre_zero(p D:Int)(s:Nat)(rr line:List Int):pvPre p D s rr line 0=line:=by
  unfold pvPre
  have:(fun j=>if j<0∧j≠s then pvZ p D s rr line j else line.getD j 0)=fun j=>line.getD j 0:=by funext j;rw [if_neg (by omega)]
  rw [this,Yu]
theorem pvPre_at(p D:Int)(s:Nat)(rr line:List Int)(q j:Nat)(h:j<line.length)(hq:q≤j∨j=s):(pvPre p D s rr line q).getD j 0=line.getD j 0:=by
  unfold pvPre;rw [ZW _ _ _ h,if_neg (by omega)]
theorem pvPre_skip(p D:Int)(s:Nat)(rr line:List Int)(q:Nat)(hq:q=s∨pvZ p D s rr line q=line.getD q 0):pvPre p D s rr line (q+1)=pvPre p D s rr line q:=by
  unfold pvPre
  congr 1
  funext j
  by_cases h:j<q∧j≠s
  · rw [if_pos h,if_pos ⟨by omega,h.2⟩]
  · rw [if_neg h];by_cases h2:j<q+1∧j≠s
    · rw [if_pos h2]
      have:j=q:=by omega
      subst this;rcases hq with hq|hq
      · omega
      · exact hq
    · rw [if_neg h2]
theorem pvPre_set(p D:Int)(s:Nat)(rr line:List Int)(q:Nat)(h:q<line.length)(hq:q≠s):(pvPre p D s rr line q).set q (pvZ p D s rr line q)=pvPre p D s rr line (q+1):=by
  unfold pvPre;refine YY _ _ _ q _ h (fun j hj=> ?_);by_cases e:j=q
  · subst e;rw [if_pos rfl,if_pos ⟨by omega,hq⟩]
  · rw [if_neg e];by_cases h2:j<q∧j≠s
    · rw [if_pos h2,if_pos ⟨by omega,h2.2⟩]
    · rw [if_neg h2,if_neg (by omega)]
theorem pvPre_done(p D:Int)(s:Nat)(rr line:List Int)(h:s<line.length):(pvPre p D s rr line line.length).set s (-(line.getD s 0))=pvRow p D s rr line:=by
  unfold pvPre pvRow;refine YY _ _ _ s _ h (fun j hj=> ?_);by_cases e:j=s
  · subst e;rw [if_pos rfl];unfold pvZ;rw [if_pos rfl]
  · rw [if_neg e,if_pos ⟨hj,e⟩]
theorem pvZ_zero{p D:Int}{s:Nat}{rr line:List Int}{j:Nat}(hj:j≠s)(h:line.getD j 0=0)(h2:line.getD s 0=0∨rr.getD j 0=0):pvZ p D s rr line j=line.getD j 0:=by
  unfold pvZ;rw [if_neg hj,h];rcases h2 with h2|h2 <;>rw [h2] <;>simp
theorem pvRow_same{D:Int}{s:Nat}{rr line:List Int}(hD:D≠0)(h:line.getD s 0=0):pvRow D D s rr line=line:=by
  unfold pvRow
  have:(pvZ D D s rr line)=fun j=>line.getD j 0:=by
    funext j
    unfold pvZ;split
    · rename_i e;subst e;rw [h];rfl
    · rw [h,Int.mul_zero,Int.neg_zero,Int.add_zero,Int.mul_tdiv_cancel _ hD]
  rw [this,Yu]
theorem pvRows_zero(T:Tv)(r s:Nat):pvRows T r s 0=T.rows:=by
  unfold pvRows
  have:(fun i=>if i<0∧i≠r then pvRow (T.at r s) T.den s (T.rows.getD r []) (T.rows.getD i []) else T.rows.getD i [])=fun i=>T.rows.getD i []:=by funext i;rw [if_neg (by omega)]
  rw [this,Yu]
theorem pvRows_at(T:Tv)(r s q i:Nat)(h:i<T.rows.length)(hq:q≤i∨i=r):(pvRows T r s q).getD i []=T.rows.getD i []:=by
  unfold pvRows;rw [ZW _ _ _ h,if_neg (by omega)]
theorem pvRows_skip(T:Tv)(r s q:Nat)(hq:q=r∨pvRow (T.at r s) T.den s (T.rows.getD r []) (T.rows.getD q [])=T.rows.getD q []):pvRows T r s (q+1)=pvRows T r s q:=by
  unfold pvRows
  congr 1
  funext j
  by_cases h:j<q∧j≠r
  · rw [if_pos h,if_pos ⟨by omega,h.2⟩]
  · rw [if_neg h];by_cases h2:j<q+1∧j≠r
    · rw [if_pos h2]
      have:j=q:=by omega
      subst this;rcases hq with hq|hq
      · omega
      · exact hq
    · rw [if_neg h2]
theorem pvRows_set(T:Tv)(r s q:Nat)(h:q<T.rows.length)(hq:q≠r):(pvRows T r s q).set q (pvRow (T.at r s) T.den s (T.rows.getD r []) (T.rows.getD q []))=pvRows T r s (q+1):=by
  unfold pvRows;refine YY _ _ _ q _ h (fun j hj=> ?_);by_cases e:j=q
  · subst e;rw [if_pos rfl,if_pos ⟨by omega,hq⟩]
  · rw [if_neg e];by_cases h2:j<q∧j≠r
    · rw [if_pos h2,if_pos ⟨by omega,h2.2⟩]
    · rw [if_neg h2,if_neg (by omega)]
def negP (l : List Int) (q : Nat) : List Int := (List.range l.length).map fun j => if j < q then -(l.getD j 0) else l.getD j 0
def negR (l : List (List Int)) (q : Nat) : List (List Int) := (List.range l.length).map fun j => if j < q then negL (l.getD j []) else l.getD j []
theorem negP_len(l:List Int)(q:Nat):(negP l q).length=l.length:=by simp [negP]
theorem negR_len(l:List (List Int))(q:Nat):(negR l q).length=l.length:=by simp [negR]
theorem negP_zero(l:List Int):negP l 0=l:=by
  unfold negP
  have:(fun j=>if j<0 then -(l.getD j 0) else l.getD j 0)=fun j=>l.getD j 0:=by funext j;rw [if_neg (by omega)]
  rw [this,Yu]
theorem negR_zero(l:List (List Int)):negR l 0=l:=by
  unfold negR
  have:(fun j=>if j<0 then negL (l.getD j []) else l.getD j [])=fun j=>l.getD j []:=by funext j;rw [if_neg (by omega)]
  rw [this,Yu]
theorem negP_at(l:List Int)(q:Nat)(h:q<l.length):(negP l q).getD q 0=l.getD q 0:=by unfold negP;rw [ZW _ _ _ h,if_neg (by omega)]
theorem negR_at(l:List (List Int))(q:Nat)(h:q<l.length):(negR l q).getD q []=l.getD q []:=by unfold negR;rw [ZW _ _ _ h,if_neg (by omega)]
theorem negP_set(l:List Int)(q:Nat)(h:q<l.length):(negP l q).set q (-(l.getD q 0))=negP l (q+1):=by
  unfold negP;refine YY _ _ _ q _ h (fun j hj=> ?_);by_cases e:j=q
  · subst e;rw [if_pos rfl,if_pos (by omega)]
  · rw [if_neg e];by_cases h2:j<q
    · rw [if_pos h2,if_pos (by omega)]
    · rw [if_neg h2,if_neg (by omega)]
theorem negR_set(l:List (List Int))(q:Nat)(h:q<l.length):(negR l q).set q (negL (l.getD q []))=negR l (q+1):=by
  unfold negR;refine YY _ _ _ q _ h (fun j hj=> ?_);by_cases e:j=q
  · subst e;rw [if_pos rfl,if_pos (by omega)]
  · rw [if_neg e];by_cases h2:j<q
    · rw [if_pos h2,if_pos (by omega)]
    · rw [if_neg h2,if_neg (by omega)]
theorem negP_done(l:List Int):negP l l.length=negL l:=by
  unfold negP negL
  apply List.ext_getElem (by simp)
  intro j h1 h2;simp only [List.length_map,List.length_range] at h1;simp [List.getD_eq_getElem?_getD,h1]
theorem negR_done(l:List (List Int)):negR l l.length=l.map negL:=by
  unfold negR
  apply List.ext_getElem (by simp)
  intro j h1 h2;simp only [List.length_map,List.length_range] at h1;simp [List.getD_eq_getElem?_getD,h1]
end Go.Proofs.YtojkdfilabmafaaGreat
namespace Go.Own
theorem Y5{X:Ctx}{L L' :AL}{B:BL}{K:Act→World→Prop}(h:Fin X L' B K)(hs:subL L L'):Fin X L B K:=Fin.keep L' hs h
end Go.Own
namespace Go.Proofs.YtojkdfilabmafaaGreat
open Go.Own Go.Limbs
attribute [local irreducible] St Ops Go.Own.Fin Ok OkM
abbrev tb (T : Tv) (rows : List (List Int)) (bas col : List Int) (den : Int) : BL :=
  (0, .box 215 [.ex T.hR, .ex T.hB, .ex T.hC, boolC (decide (den < 0)), natC den.natAbs]) :: (1, .rowx T.hR 212 1 (T.hl.map CT.ex)) :: (2, .rowx T.hB 3 1 (ints bas)) :: (3, .rowx T.hC 3 1 (ints col)) :: linesB 10 T.hl rows
abbrev unitW : CT := .fr (tupT [])
theorem Zz{α:Type}{l:List α}{i j:Nat}{x d:α}(h:i<l.length):(l.set i x).getD j d=if i=j then x else l.getD j d:=by
  simp only [List.getD_eq_getElem?_getD,List.getElem?_set];by_cases hp:i=j
  · subst hp;simp [h]
  · simp [hp]
theorem bdel_lines:∀(k:Nat) (hl:List Value) (zs:List (List Int)) (j:Nat),j<k→bdel (linesB k hl zs) j=linesB k hl zs
  |_,[],_,_,_=>by simp [linesB,bdel]
  |_,_::_,[],_,_=>by simp [linesB,bdel]
  |k,h::hl,z::zs,j,hj=>by
    have:Nat.beq k j=false:=beq_ne (by omega)
    simp only [linesB,bdel,this]
    rw [bdel_lines (k+1) hl zs j (by omega)]
theorem del5{T:Tv}{rows:List (List Int)}{bas col:List Int}{den:Int}{e e4:Ent}:bdel ((5,e)::(4,e4)::tb T rows bas col den) 5=(4,e4)::tb T rows bas col den:=by
  show (4,e4)::(0,_)::(1,_)::(2,_)::(3,_)::bdel (linesB 10 T.hl rows) 5=_;rw [bdel_lines _ _ _ _ (by decide)]
theorem del4{T:Tv}{rows:List (List Int)}{bas col:List Int}{den:Int}{e4:Ent}:bdel ((4,e4)::tb T rows bas col den) 4=tb T rows bas col den:=by
  show (0,_)::(1,_)::(2,_)::(3,_)::bdel (linesB 10 T.hl rows) 4=_;rw [bdel_lines _ _ _ _ (by decide)]
theorem set_line5{T:Tv}{rows:List (List Int)}{bas col:List Int}{den:Int}{e5 e4:Ent}{i:Nat}(y:List Int)(h1:i<T.hl.length)(h2:i<rows.length):bset ((5,e5)::(4,e4)::tb T rows bas col den) (i+10) (.rowx (T.hl.getD i default) 211 2 (whs y))=(5,e5)::(4,e4)::tb T (rows.set i y) bas col den:=by
  rw [Zi J,Zi J,Zi J,Zi J,Zi J,Zi J,lines_set y h1 h2]
theorem set_line4{T:Tv}{rows:List (List Int)}{bas col:List Int}{den:Int}{e4:Ent}{i:Nat}(y:List Int)(h1:i<T.hl.length)(h2:i<rows.length):bset ((4,e4)::tb T rows bas col den) (i+10) (.rowx (T.hl.getD i default) 211 2 (whs y))=(4,e4)::tb T (rows.set i y) bas col den:=by
  rw [Zi J,Zi J,Zi J,Zi J,Zi J,lines_set y h1 h2]
theorem pvt_pos{T:Tv}{r s:Nat}{p:Int}(hp:T.at r s=p)(h:¬p<0):tabB (pvt T r s)=tb T ((pvRows T r s T.rows.length).set r ((T.rows.getD r []).set s T.den)) (T.bas.set r (T.col.getD s 0)) (T.col.set s (T.bas.getD r 0)) p:=by
  simp only [pvt,tabB,hp,if_neg h]
theorem pvt_neg{T:Tv}{r s:Nat}{p:Int}(hp:T.at r s=p)(h:p<0):tabB (pvt T r s)=tb T (((pvRows T r s T.rows.length).set r ((T.rows.getD r []).set s T.den)).map negL) (T.bas.set r (T.col.getD s 0)) (T.col.set s (T.bas.getD r 0)) (-p):=by
  simp only [pvt,tabB,hp,if_pos h]
theorem gopivot:InGo Tryz.prog 202:=InGo.of Tryz.func202 (by kernel_rfl) (by kernel_rfl)
set_option maxHeartbeats 32000000 in
theorem pivot_ok(T:Tv)(hF:Fit T)(hS:Shrt T)(hD:0<T.den)(hDs:(limbs T.den.natAbs).length≤60)(r s:Nat)(hr:r<T.bas.length)(hs:s<T.col.length):OkM Tryz.prog 202 [.own 0, .ct (intC r), .ct (intC s)] (tabB T) [0] (fun _:Unit=>True) (fun _=> .ct unitW) (fun _=>tabB (pvt T r s)):=by
  have hfew:=hF.few;have hthin:=hF.thin;have hhl:=hF.hl;have hbas:=hF.bas
  have hr2:r<T.rows.length:=by omega
  have hrowr:=hF.row r hr2
  have kr:(r:Int).toNat*1=r:=by omega
  have ks:(s:Int).toNat*2=s*2:=by omega
  have ks1:(s:Int).toNat*1=s:=by omega
  have sp:=hS r s
  refine OkM.enter Tryz.func202 J _ Tryz.ntmps202 J (tab_fx T) ?_
  intro S w ρ0 hbor;show St _ _ (tb T T.rows T.bas T.col T.den) _ _;generalize hp:T.at r s=p at*;refine Qy (Qx fun K hK=> ?_);refine Qq J J J (Q0 J J J J (QJ J J J fT0 J (QQ J J J J J lMat J (Qq J J J (Qp 1 T.rows.length J J J (by simp [hhl]) J sMat (by omega) (by omega) J ?_)))));rw [kr]
  refine QQ J J J J (Ze (by omega)) lWhs J ?_
  refine Qq J J J (Qp (r+10) (T.col.length+1) J J (Xw (by omega) hr2) (by rw [XV,hrowr]) J sWhs (by omega) (by omega) J ?_);rw [ks]
  refine ldWh J J J (Xw (by omega) hr2) J (by omega) lWh J ?_
  rw [show (T.rows.getD r []).getD s 0=p from hp]
  refine Qf 4 J J zvWh J (by exact Z1 10 _ _ 4 (by decide)) J ?_
  refine Qa 2 J J J J J szWh J J (Qj (hK _ _ (Qz (Qy ?_))));clear hK K;refine XX mixed 10 (.p 1 (.p 2 (.p 3 (.f 0 (.f 4 (.m 5 (.m 6 (.m 7 (.p 8 (.p 9 .done)))))))))) (by kernel_rfl) (fun K hK=> ?_);refine Qq J J J (Q0 J J J J (QJ J J J fT3 J (Qc (n:=2) J J J J J lWh J (Yv (n:=2) J J J J (Nat.le_of_ble_eq_true J) lWh J (QV gominus (minus_ok T.den) J J J J (QV goplus (plus_ok p (-T.den) (by omega) (Nat.le_trans (neg_short hDs) (by decide))) J J J J ?_))))));refine QV gosign (Y3 _) J J J J (Qk ieql J J J J (Qv J J J (Qj (hK _ _ (Qz (Qy (Qy ?_)))))));clear hK K;refine Qx (fun K hK=> ?_);refine Qq J J J (Q0 J J J J (QJ J J J fT0 J (QQ J J J J J lMat J (ZK 1 T.rows.length J J J (by decide) (by simp [hhl]) sMat.und J ?_))));refine Qq J J J (Qj (hK _ _ (Qz (Q3 ?_))));clear hK K
  refine Qs (α:=Nat) (fun i=>i≤T.rows.length)
    (fun i=>[(0, .own 0),(1, .ct (intC r)),(2, .ct (intC s)),(6, .own 4),(7, .ct (boolC (decide ((p+ -T.den).sign=0)))),(37, .ct (.ex T.hR)),(38, .ct (intC T.rows.length)),(39, .ct (intC i))])
    (fun i=>(4, .box 211 (whCs p))::tb T (pvRows T r s i) T.bas T.col T.den) (fun i=>T.rows.length - i) 0 (Nat.zero_le _) (by exact Qu (by rw [pvRows_zero];rfl) ⟨rfl,rfl,rfl,rfl,rfl,rfl,rfl,rfl,trivial⟩) ?_
  intro i hi;dsimp only at hi ⊢;have hrl:=Y6 T r s i;refine Qy (Qx fun K hK=> ?_);refine Qk ilss J J J J (Qj (hK _ _ (Qz (Qy ?_))));clear hK K;refine Q2 J (fun h=> ?_) (fun h=> ?_)
  · have hi2:i<T.rows.length:=by omega
    have hrow:=hF.row i hi2
    have ki:(i:Int).toNat*1=i:=by omega
    have eline:=pvRows_at T r s i i hi2 (.inl (Nat.le_refl _));have erow:=pvRows_at T r s i r hr2 (by omega);have sf:=hS i s;generalize hf:T.at i s=f at*;have eskip:=pvRows_skip T r s i;refine QW (Qz (Qy (Q3 (Qy (Qx fun K hK=> ?_)))));refine Qq J J J (Qp 1 T.rows.length J J J (by simp [hhl]) J sMat (by omega) (by omega) J ?_);rw [ki]
    refine QQ J J J J (Ze (by omega)) lWhs J ?_
    refine Qv J J J (Qv J J J (Qj (hK _ _ (Qz (Qy ?_)))));clear hK K;refine Qx (fun K hK=> ?_);refine Qq J J J (Qq J J J (Qp (i+10) (T.col.length+1) J J (Xw (by omega) (by omega)) (by rw [XV,eline,hrow]) J sWhs (by omega) (by omega) J ?_));rw [ks]
    refine ldWh J J J (Xw (by omega) (by omega)) J (by rw [eline];omega) lWh J ?_
    rw [eline,show (T.rows.getD i []).getD s 0=f from hf]
    refine Qf 5 J J zvWh J (by exact Z1 10 _ _ 5 (by decide)) J ?_
    refine Qa 2 J J J J J szWh J J (Qj (hK _ _ (Qz (Qy (Qy ?_)))));clear hK K;refine Qx (fun K hK=> ?_);refine Qq J J J (Qq J J J (Qk ieql J J J J (Qq J J J ((fun (cont:∀b:Bool,(b=true→i=r∨(p=T.den∧f=0))→(b=false→i≠r)→Go.Own.Fin _ [(58, .ct (boolC b)),(0, .own 0),(1, .ct (intC r)),(2, .ct (intC s)),(6, .own 4),(7, .ct (boolC (decide ((p+ -T.den).sign=0)))),(8, .ct (intC i)),(9, .ct (.ex (T.hl.getD i default))),(10, .own 5),(37, .ct (.ex T.hR)),(38, .ct (intC T.rows.length)),(39, .ct (intC i))] ((5, .box 211 (whCs f))::(4, .box 211 (whCs p))::tb T (pvRows T r s i) T.bas T.col T.den) K)=> ?_) (fun b hb1 hb2=>hK _ _ ?_)))))
    · clear hK;refine Qi 51 J (fun h1=> ?_) (fun h1=> ?_)
      · refine Qw J J J (Qw J J J (Qw J J J (Qw J J J (Qw J J J (Qw J J J (Q5 J J J J ?_))))));exact Qj (Y5 (cont true (fun _=> .inl (by omega)) (fun h=>by cases h)) ⟨rfl,rfl,rfl,rfl,rfl,rfl,rfl,rfl,rfl,rfl,rfl,rfl,trivial⟩)
      · have hir:i≠r:=fun e=>h1 (by omega)
        refine Qq J J J (Qq J J J (Qi 53 J (fun h2=> ?_) (fun h2=> ?_)))
        · refine Qc (n:=2) J J J J J lWh J (QV gosign (Y3 f) J J J J (Qk ieql J J J J (Q5 J J J J (Q7 J J J J (Qj (Y5 (cont (decide (f.sign=0)) (fun h=> .inr ⟨?_,sgn_eq.1 (of_decide_eq_true h)⟩) (fun _=>hir)) ⟨rfl,rfl,rfl,rfl,rfl,rfl,rfl,rfl,rfl,rfl,rfl,rfl,trivial⟩))))));have:=sgn_eq.1 h2;omega
        · refine Qw J J J (Qw J J J (Qw J J J (Q7 J J J J (Q7 J J J J ?_))));exact Qj (Y5 (cont false (fun h=>by cases h) (fun _=>hir)) ⟨rfl,rfl,rfl,rfl,rfl,rfl,rfl,rfl,rfl,rfl,rfl,rfl,trivial⟩)
    clear hK K;refine Qz (X6 J (fun hb=> ?_) (fun hb=> ?_))
    · have hskip:pvRows T r s (i+1)=pvRows T r s i:=eskip (by
        rcases hb1 hb with h|⟨h,h'⟩
        · exact .inl h
        · exact .inr (by rw [hp,h];exact pvRow_same (by omega) (by rw [h'] at hf;exact hf)))
      refine Qm (Qz (Qx fun K hK=> ?_))
      refine Qk (iadd (by omega) (by omega)) J J J J ?_
      refine Qq J J J (Qj (hK _ _ (Q6 ?_)));clear hK K;refine Q9 (i+1) (by omega) (by omega) (by exact Qe 5 (Qu (by rw [hskip];exact del5) ⟨rfl,rfl,rfl,rfl,rfl,rfl,rfl,by simp only [Int.natCast_add];rfl,trivial⟩))
    · have hir:=hb2 hb;clear hb1 hb2 hb eskip;have edone:=pvRows_set T r s i hi2 hir;rw [hp] at edone
      have erowR:∀y,((pvRows T r s i).set i y).getD r []=T.rows.getD r []:=fun y=>by rw [Zz (by omega),if_neg hir];exact erow
      have elineI:∀y,((pvRows T r s i).set i y).getD i []=y:=fun y=>by rw [Zz (by omega),if_pos J]
      have hslen:∀y,((pvRows T r s i).set i y).length=T.rows.length:=fun y=>by rw [List.length_set,hrl]
      refine QW (Qz (Qy (Qy (Qx fun K hK=> ?_))));refine Qq J J J (ZK (i+10) (T.col.length+1) J J (Xw (by omega) (by omega)) (by decide) (by rw [XV,eline,hrow]) sWhs.und J ?_);refine Qq J J J (Qj (hK _ _ (Qz (Q3 ?_))));clear hK K;have hs0:pvPre p T.den s (T.rows.getD r []) (T.rows.getD i []) 0=T.rows.getD i []:=pvPre_zero ..
      have hst0:(pvRows T r s i).set i (T.rows.getD i [])=pvRows T r s i:=by
        rw [←eline]
        apply List.ext_getElem (by simp)
        intro j h1 h2;rw [List.getElem_set];split
        · rename_i e;subst e;simp [List.getD_eq_getElem?_getD,h2]
        · rfl
      refine Qs (α:=Nat) (fun q=>q≤T.col.length+1)
        (fun q=>[(0, .own 0),(1, .ct (intC r)),(2, .ct (intC s)),(6, .own 4),(7, .ct (boolC (decide ((p+ -T.den).sign=0)))),(8, .ct (intC i)),(9, .ct (.ex (T.hl.getD i default))),(10, .own 5),(37, .ct (.ex T.hR)),(38, .ct (intC T.rows.length)),(39, .ct (intC i)),(60, .ct (intC ((T.col.length+1:Nat):Int))),(61, .ct (intC q))])
        (fun q=>(5, .box 211 (whCs f))::(4, .box 211 (whCs p))::tb T ((pvRows T r s i).set i (pvPre p T.den s (T.rows.getD r []) (T.rows.getD i []) q)) T.bas T.col T.den)
        (fun q=>T.col.length+1 - q) 0 (Nat.zero_le _) (by exact Qu (by rw [hs0,hst0]) ⟨rfl,rfl,rfl,rfl,rfl,rfl,rfl,rfl,rfl,rfl,rfl,rfl,rfl,trivial⟩) ?_
      intro q hq;dsimp only at hq ⊢;have hpl:=pvPre_len p T.den s (T.rows.getD r []) (T.rows.getD i []) q;have hpat:=pvPre_at p T.den s (T.rows.getD r []) (T.rows.getD i []) q;have hpskip:=pvPre_skip p T.den s (T.rows.getD r []) (T.rows.getD i []) q;have hpset:=pvPre_set p T.den s (T.rows.getD r []) (T.rows.getD i []) q
      have hpz:q≠s→pvZ p T.den s (T.rows.getD r []) (T.rows.getD i []) q=((T.rows.getD i []).getD q 0*p+ -((T.rows.getD r []).getD q 0*f)).tdiv T.den:=fun h=>by
        unfold pvZ;rw [if_neg h,show (T.rows.getD i []).getD s 0=f from hf]
      have hpz0:q≠s→(T.rows.getD i []).getD q 0=0→(f=0∨(T.rows.getD r []).getD q 0=0)→pvZ p T.den s (T.rows.getD r []) (T.rows.getD i []) q=(T.rows.getD i []).getD q 0:=fun h h1 h2=>pvZ_zero h h1 (by rw [show (T.rows.getD i []).getD s 0=f from hf];exact h2)
      have hpdone:=pvPre_done p T.den s (T.rows.getD r []) (T.rows.getD i []);generalize hPP:pvPre p T.den s (T.rows.getD r []) (T.rows.getD i []) q=cur at*;refine Qy (Qx fun K hK=> ?_);refine Qk ilss J J J J (Qj (hK _ _ (Qz (Qy ?_))));clear hK K;refine Q2 J (fun h2=> ?_) (fun h2=> ?_)
      · have hq2:q<T.col.length+1:=by omega
        have kq:(q:Int).toNat*2=q*2:=by omega
        have hget:bget (linesB 10 T.hl ((pvRows T r s i).set i cur)) (i+10)=some (.rowx (T.hl.getD i default) 211 2 (whs cur)):=by
          have:=Xw (k:=10) (hl:=T.hl) (zs:=(pvRows T r s i).set i cur) (i:=i) (by omega) (by rw [hslen];omega)
          rwa [elineI] at this
        have hgetr:bget (linesB 10 T.hl ((pvRows T r s i).set i cur)) (r+10)=some (.rowx (T.hl.getD r default) 211 2 (whs (T.rows.getD r []))):=by
          have:=Xw (k:=10) (hl:=T.hl) (zs:=(pvRows T r s i).set i cur) (i:=r) (by omega) (by rw [hslen];omega)
          rwa [erowR] at this
        have ecur:=hpat q (by omega) (.inl (Nat.le_refl _));have sz:=hS i q;have sr:=hS r q;have hsz:(T.rows.getD i []).getD q 0=T.at i q:=rfl;have hsr:(T.rows.getD r []).getD q 0=T.at r q:=rfl;rw [hsz] at ecur hpz hpz0;rw [hsr] at hpz hpz0;generalize T.at i q=z at*;generalize T.at r q=y at*;refine QW (Qz (Qy (Q3 (Qy (Qx fun K hK=> ?_)))));refine Qq J J J (Qv J J J (Qj (hK _ _ (Qz (Qy ?_)))));clear hK K;refine Qx (fun K hK=> ?_);refine Qq J J J (Qq J J J (Qk ineq J J J J (Qq J J J ((fun (cont:∀b:Bool,(b=true→q≠s)→(b=false→q=s∨pvZ p T.den s (T.rows.getD r []) (T.rows.getD i []) q=z)→Go.Own.Fin _ [(93, .ct (boolC b)),(0, .own 0),(1, .ct (intC r)),(2, .ct (intC s)),(6, .own 4),(7, .ct (boolC (decide ((p+ -T.den).sign=0)))),(8, .ct (intC i)),(9, .ct (.ex (T.hl.getD i default))),(10, .own 5),(11, .ct (intC q)),(37, .ct (.ex T.hR)),(38, .ct (intC T.rows.length)),(39, .ct (intC i)),(60, .ct (intC ((T.col.length+1:Nat):Int))),(61, .ct (intC q))] ((5, .box 211 (whCs f))::(4, .box 211 (whCs p))::tb T ((pvRows T r s i).set i cur) T.bas T.col T.den) K)=> ?_) (fun b hb1 hb2=>hK _ _ ?_)))))
        · clear hK;refine Qi 67 J (fun h1=> ?_) (fun h1=> ?_)
          · have hqs:q≠s:=fun e=>h1 (by omega)
            refine Qq J J J (Qq J J J (Qp (i+10) (T.col.length+1) J J hget (by rw [XV,hpl,hrow]) J sWhs (by omega) (by omega) J ?_));rw [kq]
            refine ldWh J J J hget J (by omega) lWh J ?_
            rw [ecur];refine QV gosign (Y3 z) J J J J (Qk ineq J J J J (Qq J J J (Qi 74 J (fun h3=> ?_) (fun h3=> ?_))))
            · refine Qw J J J (Qw J J J (Qw J J J (Qw J J J (Qw J J J (Qw J J J (Qw J J J (Qw J J J (Qw J J J (Qw J J J (Qw J J J (Qw J J J (Qw J J J (Qw J J J (Qw J J J (Qw J J J (Qw J J J (Q5 J J J J (Q5 J J J J ?_))))))))))))))))));exact Qj (Y5 (cont true (fun _=>hqs) (fun h=>by cases h)) ⟨rfl,rfl,rfl,rfl,rfl,rfl,rfl,rfl,rfl,rfl,rfl,rfl,rfl,rfl,rfl,trivial⟩)
            · have hz0:z=0:=sgn_eq.1 (by omega);refine Qc (n:=2) J J J J J lWh J (QV gosign (Y3 f) J J J J (Qk ineq J J J J (Qq J J J (Qi 78 J (fun h4=> ?_) (fun h4=> ?_)))))
              · refine Qq J J J (Q0 J J J J (QJ J J J fT0 J (QQ J J J J J lMat J (Qq J J J (Qp 1 T.rows.length J J J (by simp [hhl]) J sMat (by omega) (by omega) J ?_)))));rw [kr]
                refine QQ J J J J (Ze (by omega)) lWhs J ?_
                refine Qq J J J (Qp (r+10) (T.col.length+1) J J hgetr (by rw [XV,hrowr]) J sWhs (by omega) (by omega) J ?_);rw [kq]
                refine ldWh J J J hgetr J (by omega) lWh J ?_
                rw [hsr];refine QV gosign (Y3 y) J J J J (Qk ineq J J J J (Q5 J J J J (Q7 J J J J (Q5 J J J J ?_))));exact Qj (Y5 (cont (decide (y.sign≠0)) (fun _=>hqs) (fun h=> .inr (hpz0 hqs hz0 (.inr (sgn_eq.1 (by have:=of_decide_eq_false h;omega)))))) ⟨rfl,rfl,rfl,rfl,rfl,rfl,rfl,rfl,rfl,rfl,rfl,rfl,rfl,rfl,rfl,trivial⟩)
              · refine Qw J J J (Qw J J J (Qw J J J (Qw J J J (Qw J J J (Qw J J J (Qw J J J (Qw J J J (Qw J J J (Qw J J J (Qw J J J (Qw J J J (Q7 J J J J (Q7 J J J J (Q5 J J J J ?_))))))))))))));exact Qj (Y5 (cont false (fun h=>by cases h) (fun _=> .inr (hpz0 hqs hz0 (.inl (sgn_eq.1 (by omega)))))) ⟨rfl,rfl,rfl,rfl,rfl,rfl,rfl,rfl,rfl,rfl,rfl,rfl,rfl,rfl,rfl,trivial⟩)
          · refine Qw J J J (Qw J J J (Qw J J J (Qw J J J (Qw J J J (Qw J J J (Qw J J J (Qw J J J (Qw J J J (Qw J J J (Qw J J J (Qw J J J (Qw J J J (Qw J J J (Qw J J J (Qw J J J (Qw J J J (Qw J J J (Qw J J J (Qw J J J (Qw J J J (Qw J J J (Qw J J J (Qw J J J (Qw J J J (Q7 J J J J ?_)))))))))))))))))))))))));exact Qj (Y5 (cont false (fun h=>by cases h) (fun _=> .inl (by omega))) ⟨rfl,rfl,rfl,rfl,rfl,rfl,rfl,rfl,rfl,rfl,rfl,rfl,rfl,rfl,rfl,trivial⟩)
        clear hK K;refine Qz (X6 J (fun hb=> ?_) (fun hb=> ?_))
        · have hqs:=hb1 hb;clear hb1 hb2 hb;refine Qy (XX mixed 23 (.p 0 (.p 1 (.p 2 (.p 3 (.p 4 (.p 8 (.p 9 (.p 10 (.p 12 (.p 15 (.f 5 (.f 6 (.f 11 (.p 13 (.f 14 (.p 16 (.f 17 (.f 18 (.m 7 (.m 19 (.m 20 (.m 21 (.p 22 (.a 23 .done)))))))))))))))))))))))) (by kernel_rfl) (fun K hK=> ?_));refine Qq J J J (Qq J J J (Qq J J J (Qq J J J (Qp (i+10) (T.col.length+1) J J hget (by rw [XV,hpl,hrow]) J sWhs (by omega) (by omega) J ?_))));rw [kq];refine Qq J J J (Q0 J J J J (QJ J J J fT0 J (Qq J J J (Qq J J J (ldWh J J J hget J (by omega) lWh J ?_)))));rw [ecur];refine Qc (n:=2) J J J J J lWh J (QQ J J J J J lMat J (Qp 1 T.rows.length J J J (by simp [hhl]) J sMat (by omega) (by omega) J ?_));rw [kr]
          refine QQ J J J J (Ze (by omega)) lWhs J ?_
          refine Qp (r+10) (T.col.length+1) J J hgetr (by rw [XV,hrowr]) J sWhs (by omega) (by omega) J ?_
          rw [kq]
          refine ldWh J J J hgetr J (by omega) lWh J ?_
          rw [hsr];refine Qc (n:=2) J J J J J lWh J (QV gotimes (times_ok z p (by omega)) J J J J ?_)
          refine QV gotimes (times_ok y f (by omega)) J J J J ?_
          refine QV gominus (minus_ok _) J J J J ?_
          have m1:=mul_short sz sp;have m2:=neg_short (mul_short sr sf)
          refine QV goplus (plus_ok _ _ (by omega) (by omega)) J J J J ?_
          have m3:(limbs (z*p+ -(y*f)).natAbs).length≤121:=by
            refine Nat.le_trans (Xr (Int.natAbs_add_le _ _)) (Xn ?_);have a1:=Xl m1;have a2:=Xl m2;have:(1073741824:Nat) ^ 121=1073741824 ^ 120*1073741824:=rfl;omega
          generalize z*p+ -(y*f)=v1 at*
          refine Qp (i+10) (T.col.length+1) J J hget (by rw [XV,hpl,hrow]) J sWhs (by omega) (by omega) J ?_
          rw [kq]
          refine stWhX J J hget J (by omega) szWh ?_
          rw [set_line5 (cur.set q v1) (by omega) (by rw [hslen];omega),List.set_set]
          have hget2:bget (linesB 10 T.hl ((pvRows T r s i).set i (cur.set q v1))) (i+10)=some (.rowx (T.hl.getD i default) 211 2 (whs (cur.set q v1))):=by
            have:=Xw (k:=10) (hl:=T.hl) (zs:=(pvRows T r s i).set i (cur.set q v1)) (i:=i) (by omega) (by rw [hslen];omega)
            rwa [elineI] at this
          have ecur2:(cur.set q v1).getD q 0=v1:=by rw [getD_set (by omega),if_pos J]
          refine Qj (hK _ _ (Qz ?_));clear hK K;refine XX mixed 12 (.p 0 (.p 1 (.p 2 (.p 3 (.p 4 (.p 6 (.p 7 (.p 8 (.f 5 (.f 9 (.m 10 (.p 11 (.a 12 .done))))))))))))) (by kernel_rfl) (fun K hK=> ?_);refine Qq J J J (Qq J J J (Qq J J J (Qq J J J (Qp (i+10) (T.col.length+1) J J hget2 (by rw [XV,List.length_set,hpl,hrow]) J sWhs (by omega) (by omega) J ?_))));rw [kq];refine Qq J J J (Q0 J J J J (QJ J J J fT3 J (ldWh J J J hget2 J (by rw [List.length_set];omega) lWh J ?_)));rw [ecur2];refine Yv (n:=2) J J J J (Nat.le_of_ble_eq_true J) lWh J (QV goover (over_ok v1 T.den hD (by omega) (by omega)) J J J J ?_)
          refine Qp (i+10) (T.col.length+1) J J hget2 (by rw [XV,List.length_set,hpl,hrow]) J sWhs (by omega) (by omega) J ?_
          rw [kq]
          refine stWhX J J hget2 J (by rw [List.length_set];omega) szWh ?_
          rw [set_line5 _ (by omega) (by rw [hslen];omega),List.set_set,List.set_set];have hpset2:=hpset (by omega) hqs;rw [hpz hqs] at hpset2;rw [hpset2];refine Qj (hK _ _ (Qz ?_));clear hK K;refine Qx (fun K hK=> ?_)
          refine Qk (iadd (by omega) (by omega)) J J J J ?_
          refine Qq J J J (Qj (hK _ _ (Q6 ?_)));clear hK K;refine Q9 (q+1) (by omega) (by omega) (by exact Qu J ⟨rfl,rfl,rfl,rfl,rfl,rfl,rfl,rfl,rfl,rfl,rfl,rfl,by simp only [Int.natCast_add];rfl,trivial⟩)
        · have hsk:=hpskip ((hb2 hb).imp id (fun h=>by rw [h,hsz]));refine QW (Qz (Qx fun K hK=> ?_))
          refine Qk (iadd (by omega) (by omega)) J J J J ?_
          refine Qq J J J (Qj (hK _ _ (Q6 ?_)));clear hK K;refine Q9 (q+1) (by omega) (by omega) (by exact Qu (by rw [hsk]) ⟨rfl,rfl,rfl,rfl,rfl,rfl,rfl,rfl,rfl,rfl,rfl,rfl,by simp only [Int.natCast_add];rfl,trivial⟩)
      · have hq' :q=(T.rows.getD i []).length:=by omega
        subst hPP;rw [hq'] at hpl ⊢;have hdone:=hpdone (by omega);rw [show (T.rows.getD i []).getD s 0=f from hf] at hdone
        have hget:bget (linesB 10 T.hl ((pvRows T r s i).set i (pvPre p T.den s (T.rows.getD r []) (T.rows.getD i []) (T.rows.getD i []).length))) (i+10)=some (.rowx (T.hl.getD i default) 211 2 (whs (pvPre p T.den s (T.rows.getD r []) (T.rows.getD i []) (T.rows.getD i []).length))):=by
          have:=Xw (k:=10) (hl:=T.hl) (zs:=(pvRows T r s i).set i (pvPre p T.den s (T.rows.getD r []) (T.rows.getD i []) (T.rows.getD i []).length)) (i:=i) (by omega) (by rw [hslen];omega)
          rwa [elineI] at this
        clear hpat hpskip hpset hpz hpz0 hpdone;generalize pvPre p T.den s (T.rows.getD r []) (T.rows.getD i []) (T.rows.getD i []).length=cur at*;refine Qm (Qz (Qx fun K hK=> ?_));refine Qq J J J (Qq J J J (Qc (n:=2) J J J J J lWh J (QV gominus (minus_ok f) J J J J (Qp (i+10) (T.col.length+1) J J hget (by rw [XV,hpl,hrow]) J sWhs (by omega) (by omega) J ?_))));rw [ks]
        refine stWhX J J hget J (by omega) szWh ?_
        rw [set_line5 _ (by omega) (by rw [hslen];omega),List.set_set,hdone,edone];refine Qj (hK _ _ (Qz ?_));clear hK K;refine Qx (fun K hK=> ?_)
        refine Qk (iadd (by omega) (by omega)) J J J J ?_
        refine Qq J J J (Qj (hK _ _ (Q6 ?_)));clear hK K;refine Q9 (i+1) (by omega) (by omega) (by exact Qe 5 (Qu del5 ⟨rfl,rfl,rfl,rfl,rfl,rfl,rfl,by simp only [Int.natCast_add];rfl,trivial⟩))
  · have hi' :i=T.rows.length:=by omega
    subst hi';have erow:=pvRows_at T r s T.rows.length r hr2 (.inr J)
    have hget:bget (linesB 10 T.hl (pvRows T r s T.rows.length)) (r+10)=some (.rowx (T.hl.getD r default) 211 2 (whs (T.rows.getD r []))):=by
      have:=Xw (k:=10) (hl:=T.hl) (zs:=pvRows T r s T.rows.length) (i:=r) (by omega) (by omega)
      rwa [erow] at this
    refine Qm (Qz (Qy ?_));refine XX mixed 13 (.p 0 (.p 1 (.p 2 (.p 4 (.p 7 (.p 8 (.p 9 (.p 10 (.f 3 (.p 5 (.f 6 (.f 11 (.p 12 (.a 13 .done)))))))))))))) (by kernel_rfl) (fun K hK=> ?_);refine Qq J J J (Q0 J J J J (QJ J J J fT0 J (Qq J J J (Qq J J J (Qq J J J (Q0 J J J J (QJ J J J fT3 J (QQ J J J J J lMat J (Qp 1 T.rows.length J J J (by simp [hhl]) J sMat (by omega) (by omega) J ?_)))))))));rw [kr]
    refine QQ J J J J (Ze (by omega)) lWhs J ?_
    refine Yv (n:=2) J J J J (Nat.le_of_ble_eq_true J) lWh J (Qp (r+10) (T.col.length+1) J J hget (by rw [XV,hrowr]) J sWhs (by omega) (by omega) J ?_);rw [ks]
    refine stWhX (c:=T.den) J J hget J (by omega) szWh ?_
    rw [set_line4 _ (by omega) (by omega)];have pos:=pvt_pos (T:=T) (r:=r) (s:=s) hp;have neg:=pvt_neg (T:=T) (r:=r) (s:=s) hp
    have hRl:((pvRows T r s T.rows.length).set r ((T.rows.getD r []).set s T.den)).length=T.rows.length:=by rw [List.length_set,hrl]
    have hRrow:∀i,i<T.rows.length→(((pvRows T r s T.rows.length).set r ((T.rows.getD r []).set s T.den)).getD i []).length=T.col.length+1:=fun i hi=>by
      rw [Zz (by omega)];split
      · rw [List.length_set,hrowr]
      · unfold pvRows;rw [ZW _ _ _ hi];split
        · rw [pvRow_len];exact hF.row i hi
        · exact hF.row i hi
    generalize (pvRows T r s T.rows.length).set r ((T.rows.getD r []).set s T.den)=RR at*;refine Qj (hK _ _ (Qz (Qy ?_)));clear hK K;refine XX mixed 25 (.p 0 (.p 1 (.p 2 (.p 4 (.p 5 (.p 6 (.p 7 (.p 9 (.p 10 (.p 11 (.p 12 (.p 14 (.p 17 (.p 18 (.p 19 (.p 21 (.f 3 (.f 8 (.f 13 (.p 15 (.f 16 (.f 20 (.p 22 (.f 23 (.p 24 (.a 25 (.p 26 (.a 27 .done)))))))))))))))))))))))))))) (by kernel_rfl) (fun K hK=> ?_);refine Qq J J J (Q0 J J J J (QJ J J J fT1 J (Qq J J J (Qq J J J (Q0 J J J J (QJ J J J fT2 J (Qq J J J (Qq J J J (Q0 J J J J (QJ J J J fT2 J (Qq J J J (Qq J J J (Q0 J J J J (QJ J J J fT1 J (Qq J J J (QQ J J J J J lInts J (QQ J J J J J lInts J (QQ J J J J J lInts J (Qp 3 T.col.length J J J (by simp) J sInts (by omega) (by omega) J ?_)))))))))))))))))));rw [ks1]
    refine QQ J J J J (Xo (by omega)) lInt J ?_
    refine QQ J J J J J lInts J (Qp 2 T.bas.length J J J (by simp) J sInts (by omega) (by omega) J ?_);rw [kr]
    refine QQ J J J J (Xo (by omega)) lInt J ?_
    refine Qp 2 T.bas.length J J J (by simp) J sInts (by omega) (by omega) J ?_
    rw [kr]
    refine Xj J J J J J zInt (by simp [Ent.cs];omega) ?_
    simp only [Ent.setc,ZX]
    refine Qp 3 T.col.length J J J (by simp) J sInts (by omega) (by omega) J ?_
    rw [ks1]
    refine Xj J J J J J zInt (by simp [Ent.cs];omega) ?_
    simp only [Ent.setc,ZX];have hcl:(T.col.set s (T.bas.getD r 0)).length=T.col.length:=List.length_set ..;generalize T.bas.set r (T.col.getD s 0)=bas' at*;generalize T.col.set s (T.bas.getD r 0)=col' at*;refine Qj (hK _ _ (Qz (Qy ?_)));clear hK K;refine Qx (fun K hK=> ?_);refine Qq J J J (Qc (n:=2) J J J J J lWh J (Q0 J J J J (QJ J J J fT3 J (Ops.stNA (ds:=whCs p) J J J J J (by exact szWh) (Nat.le_of_ble_eq_true J) ?_))));refine Qj (hK _ _ (Qz (Qy (Qy ?_))));clear hK K;refine Qx (fun K hK=> ?_);refine QJ J J J fW0 J (QQ J J J J J lBool J (Xz J J J (Qj (hK _ _ (Qz ?_)))));clear hK K;refine X6 J (fun hb=> ?_) (fun hb=> ?_)
    · have hp0:¬p<0:=by simpa using hb
      refine Q4 (QY ?_);refine Xq 4 (YK () [] rfl QZ J (fun j=> ?_) trivial);rw [pos hp0];exact congrArg (bget · j) (del4 (T:=T) (rows:=RR) (bas:=bas') (col:=col') (den:=p)).symm
    · have hp0:p<0:=by simpa using hb
      refine QW (Qz (Qy (Qx fun K hK=> ?_)));refine Qq J J J (Qc (n:=2) J J J J J lWh J (QV gominus (minus_ok p) J J J J (Q0 J J J J (QJ J J J fT3 J (Ops.stNA (ds:=whCs (-p)) J J J J J (by exact szWh) (Nat.le_of_ble_eq_true J) ?_)))));refine Qj (hK _ _ (Qz (Qy ?_)));clear hK K;refine Qx (fun K hK=> ?_);refine Qq J J J (Q0 J J J J (QJ J J J fT0 J (QQ J J J J J lMat J (ZK 1 T.rows.length J J J (by decide) (by simp [hhl]) sMat.und J ?_))));refine Qq J J J (Qj (hK _ _ (Qz (Q3 ?_))));clear hK K
      refine Qs (α:=Nat) (fun i=>i≤T.rows.length)
        (fun i=>[(190, .ct (.ex T.hR)),(191, .ct (intC T.rows.length)),(192, .ct (intC i))])
        (fun i=>(4, .box 211 (whCs p))::tb T (negR RR i) bas' col' (-p)) (fun i=>T.rows.length - i) 0 (Nat.zero_le _) (by exact Qu (by rw [negR_zero];rfl) ⟨rfl,rfl,rfl,trivial⟩) ?_
      intro i hi
      (try dsimp only at hi ⊢)
      have hnl:=negR_len RR i;refine Qy (Qx fun K hK=> ?_);refine Qk ilss J J J J (Qj (hK _ _ (Qz (Qy ?_))));clear hK K;refine Q2 J (fun h=> ?_) (fun h=> ?_)
      · have hi2:i<T.rows.length:=by omega
        have hrow:=hRrow i hi2
        have ki:(i:Int).toNat*1=i:=by omega
        have eline:=negR_at RR i (by omega);have eset:=negR_set RR i (by omega)
        have elineI:∀y,((negR RR i).set i y).getD i []=y:=fun y=>by rw [Zz (by omega),if_pos J]
        have hslen:∀y,((negR RR i).set i y).length=T.rows.length:=fun y=>by rw [List.length_set,hnl,hRl]
        have hst0:(negR RR i).set i (RR.getD i [])=negR RR i:=by
          rw [←eline]
          apply List.ext_getElem (by simp)
          intro j h1 h2;rw [List.getElem_set];split
          · rename_i e;subst e;simp [List.getD_eq_getElem?_getD,h2]
          · rfl
        generalize RR.getD i []=line at*;refine QW (Qz (Qy (Q3 (Qy (Qx fun K hK=> ?_)))))
        refine Qp 1 T.rows.length J J J (by simp [hhl]) J sMat (by omega) (by omega) J ?_
        rw [ki]
        refine QQ J J J J (Ze (by omega)) lWhs J ?_
        refine Qv J J J (Qj (hK _ _ (Qz (Qy ?_))));clear hK K;refine Qx (fun K hK=> ?_);refine Qq J J J (ZK (i+10) (T.col.length+1) J J (Xw (by omega) (by omega)) (by decide) (by rw [XV,eline,hrow]) sWhs.und J ?_);refine Qq J J J (Qj (hK _ _ (Qz (Q3 ?_))));clear hK K
        refine Qs (α:=Nat) (fun q=>q≤T.col.length+1)
          (fun q=>[(190, .ct (.ex T.hR)),(191, .ct (intC T.rows.length)),(192, .ct (intC i)),(13, .ct (.ex (T.hl.getD i default))),(197, .ct (intC ((T.col.length+1:Nat):Int))),(198, .ct (intC q))])
          (fun q=>(4, .box 211 (whCs p))::tb T ((negR RR i).set i (negP line q)) bas' col' (-p)) (fun q=>T.col.length+1 - q) 0 (Nat.zero_le _) (by exact Qu (by rw [negP_zero,hst0]) ⟨rfl,rfl,rfl,rfl,rfl,rfl,trivial⟩) ?_
        intro q hq
        (try dsimp only at hq ⊢)
        have hpl:=negP_len line q;refine Qy (Qx fun K hK=> ?_);refine Qk ilss J J J J (Qj (hK _ _ (Qz (Qy ?_))));clear hK K;refine Q2 J (fun h2=> ?_) (fun h2=> ?_)
        · have kq:(q:Int).toNat*2=q*2:=by omega
          have ecur:=negP_at line q (by omega);have pset:=negP_set line q (by omega)
          have hget:bget (linesB 10 T.hl ((negR RR i).set i (negP line q))) (i+10)=some (.rowx (T.hl.getD i default) 211 2 (whs (negP line q))):=by
            have:=Xw (k:=10) (hl:=T.hl) (zs:=(negR RR i).set i (negP line q)) (i:=i) (by omega) (by rw [hslen];omega)
            rwa [elineI] at this
          generalize negP line q=cur at*;refine QW (Qz (Qy (Q3 (Qy (Qx fun K hK=> ?_)))));refine Qq J J J (Qv J J J (Qj (hK _ _ (Qz ?_))));clear hK K;refine Qx (fun K hK=> ?_);refine Qq J J J (Qq J J J (Qq J J J (Qq J J J (Qp (i+10) (T.col.length+1) J J hget (by rw [XV,hpl,hrow]) J sWhs (by omega) (by omega) J ?_))));rw [kq]
          refine ldWh J J J hget J (by omega) lWh J ?_
          rw [ecur];refine QV gominus (minus_ok _) J J J J (Qp (i+10) (T.col.length+1) J J hget (by rw [XV,hpl,hrow]) J sWhs (by omega) (by omega) J ?_);rw [kq]
          refine stWhX J J hget J (by omega) szWh ?_
          rw [set_line4 _ (by omega) (by rw [hslen];omega),List.set_set,pset];refine Qj (hK _ _ (Qz ?_));clear hK K;refine Qx (fun K hK=> ?_)
          refine Qk (iadd (by omega) (by omega)) J J J J ?_
          refine Qq J J J (Qj (hK _ _ (Q6 ?_)));clear hK K;refine Q9 (q+1) (by omega) (by omega) (by exact Qu J ⟨rfl,rfl,rfl,rfl,rfl,by simp only [Int.natCast_add];rfl,trivial⟩)
        · have hq' :q=line.length:=by omega
          rw [hq',negP_done,eset];refine Qm (Qz (Qx fun K hK=> ?_))
          refine Qk (iadd (by omega) (by omega)) J J J J ?_
          refine Qq J J J (Qj (hK _ _ (Q6 ?_)));clear hK K;refine Q9 (i+1) (by omega) (by omega) (by exact Qu J ⟨rfl,rfl,by simp only [Int.natCast_add];rfl,trivial⟩)
      · have hi' :i=RR.length:=by omega
        rw [hi',negR_done];refine Qm (Zl (Zl (Fin.blockE ?_)));refine Xq 4 (Fin.endM () [] rfl QZ J (fun j=> ?_) trivial);rw [neg hp0];exact congrArg (bget · j) (del4 (T:=T) (rows:=RR.map negL) (bas:=bas') (col:=col') (den:= -p)).symm
end Go.Proofs.YtojkdfilabmafaaGreat
namespace Go.Proofs.YtojkdfilabmafaaGreat
open Go.Own Go.Limbs
def beside (E : BL) : Bool := E.all fun p => Nat.ble 4 p.1 && Nat.blt p.1 10
theorem beside_get{E:BL}(h:beside E=true){j:Nat}(hj:(bget E j).isSome=true):4≤j∧j<10:=by
  induction E with
  |nil=>cases hj
  |cons p E ih=>
    obtain ⟨i,e⟩:=p;simp only [beside,List.all_cons,Bool.and_eq_true] at h;by_cases hij:i=j
    · subst hij;exact ⟨Nat.le_of_ble_eq_true h.1.1,Nat.le_of_ble_eq_true h.1.2⟩
    · rw [QU _ _ hij] at hj;exact ih h.2 hj
theorem tab_none{T:Tv}{j:Nat}(h1:4≤j)(h2:j<10):bget (tabB T) j=none:=by
  unfold tabB;rw [QU _ _ (by omega),QU _ _ (by omega),QU _ _ (by omega),QU _ _ (by omega)];exact Z1 10 _ _ j h2
theorem tab_swap{E:BL}(h:beside E=true)(T:Tv)(j:Nat):bget (E++tabB T) j=bget (tabB T++E) j:=by
  rw [X8,X8]
  cases h1:bget E j with
  |none=>cases bget (tabB T) j <;>rfl
  |some e=>
    have:=beside_get h (j:=j) (by rw [h1];rfl);rw [tab_none this.1 this.2];rfl
def kpT (j : Nat) : Bool := Nat.beq j 0 || (Nat.ble 4 j && Nat.blt j 10)
section
variable {X : Ctx} {L : AL} {B : BL} {ops : Array Oper} {K : Act → World → Prop} {r : Pl} {k : Kd}
  {x y z : Operand} {d : Nat} {t t2 t' : TypeId} {pos : String} {af : Array Edge} {g : Option (Nat × Bool)}
theorem Ops.reB{l:Pl}{B' :BL}(hB:∀j,bget B' j=bget B j)(h:Ops X ops l L B' K):Ops X ops l L B K:=fun a ρ w hI=>h a ρ w (hI.bext hB)
theorem X3{f:FuncId}{args:List Operand}{tys:Array TypeId}{As:List Sl}{T:Tv}{α:Type}{J:α→Prop}{R:α→CT}{T' :α→Tv}(E:BL)(hgo:InGo X.P f)(hok:OkM X.P f As (tabB T) [0] J (fun q=> .ct (R q)) (fun q=>tabB (T' q)))(hg:gd ops L g=some true)(hargs:evS L args=some As)(hn:Nat.blt d X.n=true)
    (hbor:∀gb,X.bor gb→X.S0 gb) (hB:B=E++tabB T) (hE:beside E=true) (hfix:∀p∈X.fix,(bget E p.1).isSome=true∨p.1∈ [0])
    (h:∀q,J q→Ops X ops r ((d, .ct (R q))::keepL kpT L) (E++tabB (T' q)) K):Ops X ops (.cons ⟨some d, .call {callee:= .value (.func f),args:=args.toArray,argTypes:=tys},t,pos,af,g⟩ .any r) L B K:=by
  subst hB;refine Ops.callM E kpT hgo hok hg hargs hn hbor (tab_swap hE T) (fun j hj=> ?_) (fun j hj=> ?_) hfix (fun q j h=> ?_) (fun q hq=> ?_)
  · have:=beside_get hE hj;exact ⟨tab_none this.1 this.2,fun q=>tab_none this.1 this.2⟩
  · unfold kpT at hj;rw [Bool.or_eq_true,Bool.and_eq_true] at hj;rcases hj with hj|⟨h1,h2⟩
    · exact .inl (by rw [Nat.eq_of_beq_eq_true hj];simp)
    · exact .inr fun q=>tab_none (Nat.le_of_ble_eq_true h1) (Nat.le_of_ble_eq_true h2)
  · rcases h with h|⟨_,h⟩ <;>cases h
  · exact Ops.reB (fun j=>tab_swap hE (T' q) j) (h q hq)
end
structure Gd (T : Tv) : Prop where
  fit : Fit T
  short : Shrt T
  den : 0 < T.den
  dens : (limbs T.den.natAbs).length ≤ 60
def RunOk (gi : Nat) (T' : Tv) (s : Int) : Nat → Tv → Prop
  | 0, T => Gd T ∧ T = T' ∧ ((entS (T.rows.getD gi []) T.col T.col.length < 0 ∧ s = -1) ∨ (0 ≤ entS (T.rows.getD gi []) T.col T.col.length ∧ levS T (entS (T.rows.getD gi []) T.col T.col.length).toNat T.bas.length < 0 ∧ s = entS (T.rows.getD gi []) T.col T.col.length))
  | k + 1, T => Gd T ∧ 0 ≤ entS (T.rows.getD gi []) T.col T.col.length ∧ 0 ≤ levS T (entS (T.rows.getD gi []) T.col T.col.length).toNat T.bas.length ∧
      RunOk gi T' s k (pvt T (levS T (entS (T.rows.getD gi []) T.col T.col.length).toNat T.bas.length).toNat (entS (T.rows.getD gi []) T.col T.col.length).toNat)
theorem RunOk.gd{gi:Nat}{T' :Tv}{s:Int}{k:Nat}{T:Tv}(h:RunOk gi T' s k T):Gd T:=by
  cases k with
  |zero=>exact h.1
  |succ k=>exact h.1
theorem Xe(T:Tv)(r s:Nat):(pvt T r s).rows.length=T.rows.length:=by
  unfold pvt;dsimp only;split
  · rw [List.length_map,List.length_set,Y6]
  · rw [List.length_set,Y6]
attribute [local irreducible] St Ops Go.Own.Fin Ok OkM
theorem gomaximize:InGo Tryz.prog 141:=InGo.of Tryz.func141 (by kernel_rfl) (by kernel_rfl)
set_option maxHeartbeats 4000000 in
theorem maximize_ok(T T' :Tv)(gi:Nat)(s:Int)(n:Nat)(hrun:RunOk gi T' s n T)(hgi:gi<T.rows.length):OkM Tryz.prog 141 [.own 0, .ct (intC gi)] (tabB T) [0] (fun _:Unit=>True) (fun _=> .ct (intC s)) (fun _=>tabB T'):=by
  refine OkM.enter Tryz.func141 J _ Tryz.ntmps141 J (tab_fx T) ?_
  intro S w ρ0 hbor
  have hfix:∀p∈(lentM Tryz.prog 22 S w (tabB T) [0] ρ0).fix,(bget [] p.1).isSome=true∨p.1∈ [0]:=fun p hp=>by
    obtain ⟨i,hi,rfl⟩:=List.mem_map.1 hp;exact .inr hi
  refine Qy (Qx fun K hK=> ?_);refine Qv J J J (Qj (hK _ _ (Qz (Q3 ?_))));clear hK K
  refine Qs (α:=Nat × Tv) (fun x=>RunOk gi T' s x.1 x.2∧gi<x.2.rows.length)
    (fun _=>[(0, .own 0),(1, .ct (intC gi))]) (fun x=>tabB x.2) (fun x=>x.1) (n,T) ⟨hrun,hgi⟩ (by exact Qu J ⟨rfl,rfl,trivial⟩) ?_
  rintro ⟨k,T1⟩ ⟨hr,hg1⟩
  dsimp only at hr hg1 ⊢;have G:=hr.gd;have b1:=entS_bd (T1.rows.getD gi []) T1.col T1.col.length;refine Q3 (Qy (Qx fun K hK=> ?_));refine Qq J J J (Qq J J J (X3 [] goentering (entering_ok T1 G.fit gi hg1) J J J hbor J J hfix (fun _ _=> ?_)));have hr' :=hr;generalize he:entS (T1.rows.getD gi []) T1.col T1.col.length=e at*;refine Qv J J J (Qj (hK _ _ (Qz (Qy (Qy ?_)))));clear hK K;refine Qx (fun K hK=> ?_);refine Qq J J J (Qk ilss J J J J (Qj (hK _ _ (Qz ?_))));clear hK K;refine Q2 J (fun h=> ?_) (fun h=> ?_)
  · cases k with
    |zero=>
      obtain ⟨-,rfl,h3⟩:=hr;rw [he] at h3
      have hs:s= -1:=by omega
      subst hs;refine Qy (Qx fun K hK=> ?_);refine Qv J J J (Qj (hK _ _ (Qz (Q4 (QY (Qb (QY (Qb ?_))))))));clear hK K;refine YK () [_] rfl (QX J QZ) J (fun _=>rfl) trivial
    |succ k=>exfalso;have:=hr.2.1;omega
  · obtain ⟨m,rfl⟩:∃m:Nat,e=m:=⟨e.toNat,by omega⟩;have b2:=levS_bd T1 m T1.bas.length;refine QW (Qz (Qy (Qx fun K hK=> ?_)));refine Qq J J J (Qq J J J (X3 [] goleaving (leaving_ok T1 G.fit G.short m (by omega)) J J J hbor J J hfix (fun _ _=> ?_)));generalize hl:levS T1 m T1.bas.length=l at*;refine Qv J J J (Qj (hK _ _ (Qz (Qy (Qy ?_)))));clear hK K;refine Qx (fun K hK=> ?_);refine Qq J J J (Qk ilss J J J J (Qj (hK _ _ (Qz ?_))));clear hK K;refine Q2 J (fun h2=> ?_) (fun h2=> ?_)
    · cases k with
      |zero=>
        obtain ⟨-,rfl,h3⟩:=hr;rw [he,Int.toNat_natCast,hl] at h3
        have hs:s=m:=by omega
        subst hs;refine Qy (Qx fun K hK=> ?_);refine Qq J J J (Qv J J J (Qj (hK _ _ (Qz (Q4 (QY (Qb (QY (Qb ?_)))))))));clear hK K;refine YK () [_] rfl (QX J QZ) J (fun _=>rfl) trivial
      |succ k=>exfalso;have:=hr.2.2.1;rw [he,Int.toNat_natCast,hl] at this;omega
    · obtain ⟨q,rfl⟩:∃q:Nat,l=q:=⟨l.toNat,by omega⟩
      cases k with
      |zero=>exfalso;have h3:=hr.2.2;rw [he,Int.toNat_natCast,hl] at h3;omega
      |succ k=>
        have h3:=hr.2.2.2;rw [he,Int.toNat_natCast,hl,Int.toNat_natCast] at h3;refine QW (Qz (Qx fun K hK=> ?_));refine Qq J J J (Qq J J J (Qq J J J (X3 [] gopivot (pivot_ok T1 G.fit G.short G.den G.dens q m (by omega) (by omega)) J J J hbor J J hfix (fun _ _=> ?_))));refine Qj (hK _ _ (Ql (Q6 ?_)));clear hK K;refine Q9 (k,pvt T1 q m) (by dsimp only;omega) ⟨h3,by rw [Xe];exact hg1⟩ (by exact Qu J ⟨rfl,rfl,trivial⟩)
end Go.Proofs.YtojkdfilabmafaaGreat
namespace Go.Proofs.YtojkdfilabmafaaGreat
open Go.Own Go.Limbs
theorem fR0:fldInfo Tryz.prog 79 0=some (0,some 1):=by kernel_rfl
theorem fR1:fldInfo Tryz.prog 79 1=some (1,some 1):=by kernel_rfl
theorem lRow:LdN Tryz.prog 79 2:=LdN.of _ Tryz.underlying79 rfl (by kernel_rfl)
theorem szRow:(Tryz.prog.info? 79).map (·.size)=some 2:=by kernel_rfl
theorem sRows:SlcT Tryz.prog 56 79 2 32 (.agg #[.slice none 0 0, .int .i64 0]):=SlcT.of Tryz.underlying56 (by kernel_rfl) rfl (by decide)
theorem sFracs:SlcT Tryz.prog 60 88 3 56 (.agg #[.bool false, .slice none 0 0, .slice none 0 0]):=SlcT.of Tryz.underlying60 (by kernel_rfl) rfl (by decide)
end Go.Proofs.YtojkdfilabmafaaGreat
namespace Go.Own
section
variable {P : Program} {n : Nat} {S : BSet} {w0 : World} {B0 : BL} {fx : List Nat} {ρ0 : Nat → Value} {α : Type} {J : α → Prop} {R : α → Sl} {B1 : α → BL} {L : AL} {B : BL}
theorem Is.postMS{a:Act}{ρ:Nat→Value}{w:World}{v:Value}(hI:Is (lentM P n S w0 B0 fx ρ0) L B a ρ w)(q:α)(hB:∀i e,bget (B1 q) i=some e→bget B i=some e)(hfx1:∀i∈fx,isBx (bget (B1 q) i)=true)(hJ:J q)(hv:(R q).p (Sof (lentM P n S w0 B0 fx ρ0) B ρ) ρ w v):Own.postM S w0 ρ0 B0 fx J R B1 (.returned v) w:=by
  have hk:Kp (Sof (lentM P n S w0 B0 fx ρ0) B ρ) (Sn S (B1 q) ρ) w w:=⟨Nat.le_refl _,fun k _ h=>⟨⟨h.1,fun i e hi=>h.2 i e (hB i e hi)⟩,rfl⟩⟩;refine ⟨v,q,ρ,rfl,hJ,Sl.mono hk hv,⟨fun i e hi=>Ent.keep hk (fun _ _ _=>rfl) (hI.ent i e (hB i e hi)).1,fun i j e e' hi hj=>hI.apart i j e e' (hB i e hi) (hB j e' hj)⟩,fun i hi=>⟨hfx1 i hi,?_⟩,fun i e hi gb hgb=>(hI.ent i e (hB i e hi)).2 gb hgb,hI.frame⟩;exact (hI.fixd (i,ρ0 i) (List.mem_map.2 ⟨i,hi,rfl⟩)).2
theorem Fin.retMSG{fn:Func}{cs:List CT}{rv:List ResultVar}(q:α)(hfn:fn.results=rv.toArray)(hr:AllRes (lentM P n S w0 B0 fx ρ0) L B rv cs)(hR:R q= .ct (retC cs))(hB:∀i e,bget (B1 q) i=some e→bget B i=some e)(hfx1:∀i∈fx,isBx (bget (B1 q) i)=true)(hJ:J q):
    ∀a ρ w,Is (lentM P n S w0 B0 fx ρ0) L B a ρ w→a.defers=[]∧∃v,(results fn a.tmps).run P w= .ok v w∧Own.postM S w0 ρ0 B0 fx J R B1 (.returned v) w:=fun a ρ w hI=>by
  obtain ⟨v,h1,h2⟩:=results_run hfn hr hI
  exact ⟨hI.defers,v,h1,hI.postMS q hB hfx1 hJ (by rw [hR];exact h2)⟩
theorem Fin.retMS{fn:Func}{cs:List CT}(q:α)(rv:List ResultVar)(hfn:fn.results=rv.toArray)(hr:AllRes (lentM P n S w0 B0 fx ρ0) L B rv cs)(hR:R q= .ct (retC cs))(hB:∀i e,bget (B1 q) i=some e→bget B i=some e)(hfx1:∀i∈fx,isBx (bget (B1 q) i)=true)(hJ:J q):
    Fin (lentM P n S w0 B0 fx ρ0) L B (fun a w=>bodyPost P fn (Own.postM S w0 ρ0 B0 fx J R B1) .ret a w):=Fin.retMSG q hfn hr hR hB hfx1 hJ
end
end Go.Own
namespace Go.Proofs.YtojkdfilabmafaaGreat
open Go.Own Go.Limbs
theorem tab_sub{E:BL}(hE:beside E=true){T:Tv}:∀i e,bget (tabB T) i=some e→bget (E++tabB T) i=some e:=fun i e h=>by
  rw [tab_swap hE,X8,h];rfl
theorem tab_del{T:Tv}{k:Nat}{e5:Ent}(h1:4≤k)(h2:k<10):∀i e,bget (tabB T) i=some e→bget (bdel ((k,e5)::tabB T) k) i=some e:=fun i e h=>by
  have hik:i≠k:=fun he=>by subst he;rw [tab_none h1 h2] at h;cases h
  rw [XK _ hik,QU _ _ (Ne.symm hik)];exact h
attribute [local irreducible] St Ops Go.Own.Fin Ok OkM
def shq (a D : Int) : Rat := mkRat a D.natAbs
theorem goshare:InGo Tryz.prog 144:=InGo.of Tryz.func144 (by kernel_rfl) (by kernel_rfl)
set_option maxHeartbeats 4000000 in
theorem share_ok(T:Tv)(a:Int)(ha:(limbs a.natAbs).length≤200)(hD:0<T.den)(hDs:(limbs T.den.natAbs).length≤200):OkM Tryz.prog 144 [.own 0, .ct (whC a)] (tabB T) [0] (fun _:Unit=>True) (fun _=> .ct (ratC (shq a T.den))) (fun _=>tabB T):=by
  have hq:ratC (shq a T.den)=fracC (redF (decide (a<0)) a.natAbs T.den.natAbs):=by
    rw [redF_q _ _ _ (by omega),sg_natAbs];rfl
  rw [hq]
  refine OkM.enter Tryz.func144 J _ Tryz.ntmps144 J (tab_fx T) ?_
  intro S w ρ0 hbor;simp only [tabB];have hr:=Reduce_ok ⟨decide (a<0),a.natAbs,T.den.natAbs⟩ (by show 0<T.den.natAbs;omega) (by show (limbs a.natAbs).length≤256;omega) (by show (limbs T.den.natAbs).length≤256;omega);refine Qy (Qx fun K hK=> ?_)
  refine Xu 4 J J J J J (by exact Z1 10 _ _ 4 (by decide)) J ?_
  refine Qf 5 J J zvFrac J (by exact Z1 10 _ _ 5 (by decide)) J ?_
  refine Qj (hK _ _ (Qz (Qy ?_)));clear hK K;refine XX mixed 13 (.p 0 (.p 2 (.p 5 (.p 6 (.p 7 (.p 8 (.f 1 (.f 3 (.f 9 (.m 4 (.m 10 (.p 11 (.m 12 (.a 13 .done)))))))))))))) (by kernel_rfl) (fun K hK=> ?_);refine QJ J J J fW0 J (QJ J J J fW1 J (Qq J J J (Q0 J J J J (QJ J J J fT3 J (Z6 J J fW1 J (QQ J J J J J lBool J (QQ J J J J J lNat J (QQ J J J J J lNat J (QV goClone (Clone_ok _ (by omega)) J J J J ?_)))))))))
  refine QV goClone (Clone_ok _ (by omega)) J J J J ?_
  refine Qo J bFrac J (.one J J J J (.one J J J J (.one J J J J .nil))) J (QV goReduce hr J J J J ?_);generalize redF (decide (a<0)) a.natAbs T.den.natAbs=rr at*;refine Qa 3 J J J J J szFrac J J (Qj (hK _ _ (Qz (Q4 ?_))));clear hK K;refine Fin.retMS () [_] rfl (Qg (n:=3) J J lFrac J QZ) J (tab_sub (E:=[(5,_),(4,_)]) J) (tab_fx T) trivial
def frO : Option Rat → List CT
  | none => [boolC false, .ex (.slice none 0 0), .ex (.slice none 0 0)]
  | some q => frCs (ofQ q)
theorem frO_len(o:Option Rat):(frO o).length=3:=by cases o <;>rfl
def frR (l : List (Option Rat)) : List CT := (l.map frO).flatten
theorem Yg(l:List (Option Rat)):(frR l).length=l.length*3:=by
  unfold frR;rw [Xm (k:=3) (by intro e he;obtain ⟨o,_,rfl⟩:=List.mem_map.1 he;exact frO_len o)];simp
theorem frR_put{l:List (Option Rat)}{j:Nat}(q:Rat)(h:j<l.length):(frR l).take (j*3)++frCs (ofQ q)++(frR l).drop (j*3+3)=frR (l.set j (some q)):=by
  induction l generalizing j with
  |nil=>simp at h
  |cons o l ih=>
    have e:∀(o:Option Rat) (l:List (Option Rat)),frR (o::l)=frO o++frR l:=fun _ _=>rfl
    have h3:=frO_len o
    have t1:∀m,(frO o++frR l).take (3+m)=frO o++(frR l).take m:=fun m=>by rw [List.take_append,h3,List.take_of_length_le (by omega),show 3+m - 3=m by omega]
    have t2:∀m,(frO o++frR l).drop (3+m)=(frR l).drop m:=fun m=>by rw [List.drop_append,h3,List.drop_of_length_le (by omega),show 3+m - 3=m by omega];rfl
    cases j with
    |zero=>
      have:=t2 0;rw [List.set_cons_zero,e,e,show 0*3+3=3+0 by omega,this];rfl
    |succ j=>
      have:=ih (j:=j) (by simpa using h);rw [List.set_cons_succ,e,e,←this,show (j+1)*3=3+j*3 by omega,show 3+j*3+3=3+(j*3+3) by omega,t1,t2];simp
theorem frR_made(n:Nat):zinit (.agg #[.bool false, .slice none 0 0, .slice none 0 0]) n=frR (List.replicate n none):=by
  unfold zinit frR;rw [List.map_replicate];rfl
theorem frR_frozen(e:Nat)(qs:List Rat):(Ent.row e 3 (frR (qs.map some))).frozen (sliceT 3 ((qs.map ofQ).map frCs)):=
  ⟨(qs.map ofQ).map frCs,by unfold frR;simp only [List.map_map];rfl,by intro x hx;obtain ⟨f,_,rfl⟩:=List.mem_map.1 hx;rfl,by decide,rfl⟩
section
variable {X : Ctx} {L : AL} {B : BL} {ops : Array Oper} {K : Act → World → Prop} {r : Pl} {k : Kd}
  {x y z : Operand} {d : Nat} {t t2 t' : TypeId} {pos : String} {af : Array Edge} {g : Option (Nat × Bool)}
theorem stFr{i j el:Nat}{l:List (Option Rat)}{q:Rat}(hg:gd ops L g=some true)(hx:ev L x=some (.loc i (j*3)))(hi:bget B i=some (.row el 3 (frR l)))(hy:ev L y=some (.ct (ratC q)))(hj:j<l.length)(hsz:(X.P.info? t).map (·.size)=some 3)
    (h:Ops X ops r L (bset B i (.row el 3 (frR (l.set j (some q))))) K):Ops X ops (.cons ⟨none, .store t x y,t',pos,af,g⟩ .any r) L B K:=
  Ops.stNA hg hx hi hy rfl hsz (by show j*3+3≤(frR l).length;rw [Yg];omega) (by
    have:(Ent.row el 3 (frR l)).putc (j*3) (frCs (ofQ q))= .row el 3 (frR (l.set j (some q))):=by rw [←frR_put q hj];rfl
    rw [this];exact h)
end
theorem shq_zero(D:Int):shq 0 D=0:=by unfold shq;exact Rat.zero_mkRat _
def ptS (T : Tv) (n : Nat) : Nat → List Rat
  | 0 => List.replicate n 0
  | i + 1 => if T.bas.getD i 0 < n then (ptS T n i).set (T.bas.getD i 0).toNat (shq (T.at i T.col.length) T.den) else ptS T n i
theorem ptS_len(T:Tv)(n:Nat):∀i,(ptS T n i).length=n
  |0=>by simp [ptS]
  |i+1=>by simp only [ptS];split <;>simp [ptS_len T n i]
theorem rep_set(n j:Nat)(h:j<n):(List.replicate j (some (0:Rat))++List.replicate (n - j) none).set j (some 0)=List.replicate (j+1) (some 0)++List.replicate (n - (j+1)) none:=by
  rw [List.set_append_right _ _ (by simp),List.length_replicate,Nat.sub_self,show n - j=(n - (j+1))+1 by omega,List.replicate_succ,List.set_cons_zero,List.replicate_succ'];simp
theorem gopoint:InGo Tryz.prog 142:=InGo.of Tryz.func142 (by kernel_rfl) (by kernel_rfl)
set_option maxHeartbeats 8000000 in
theorem point_ok(T:Tv)(G:Gd T)(n:Nat)(hn:n≤100)(hb:∀i,0≤T.bas.getD i 0):OkM Tryz.prog 142 [.own 0, .ct (intC n)] (tabB T) [0] (fun _:Unit=>True) (fun _=> .ct (fracsC ((ptS T n T.bas.length).map ofQ))) (fun _=>tabB T):=by
  have hfew:=G.fit.few;have hthin:=G.fit.thin;have hhl:=G.fit.hl;have hbas:=G.fit.bas;have hDs:=G.dens;have hof:=of_ok 0 (by decide) (by decide);have hsh0:=share_ok T 0 (by rw [show (0:Int).natAbs=0 from rfl,limbs_zero];decide) G.den (by omega);rw [shq_zero] at hsh0
  refine OkM.enter Tryz.func142 J _ Tryz.ntmps142 J (tab_fx T) ?_
  intro S w ρ0 hbor
  have hfix:∀e:Ent,∀p∈(lentM Tryz.prog 57 S w (tabB T) [0] ρ0).fix,(bget [(5,e)] p.1).isSome=true∨p.1∈ [0]:=fun e p hp=>by
    obtain ⟨i,hi,rfl⟩:=List.mem_map.1 hp;exact .inr hi
  refine Qy (Qx fun K hK=> ?_);refine Qv J J J (Qj (hK _ _ (Qz (Qy ?_))));clear hK K;refine Qx (fun K hK=> ?_);refine Qq J J J (Zp 5 n J J J J sFracs (by omega) (by omega) J (by exact Z1 10 _ _ 5 (by decide)) J ?_);rw [frR_made];refine Qv J J J (Qj (hK _ _ (Qz (Qy (Qy ?_)))));clear hK K;refine Qx (fun K hK=> ?_);refine Qq J J J (YW n J J J (by decide) (by rw [Yg];simp) sFracs.und J ?_);refine Qq J J J (Qj (hK _ _ (Qz (Q3 ?_))));clear hK K
  refine Qs (α:=Nat) (fun j=>j≤n)
    (fun j=>[(0, .own 0),(1, .ct (intC n)),(5, .own 5),(12, .ct (intC n)),(13, .ct (intC j))])
    (fun j=>(5, .row 88 3 (frR (List.replicate j (some 0)++List.replicate (n - j) none)))::tabB T) (fun j=>n - j) 0 (Nat.zero_le _) (by exact Qu J ⟨rfl,rfl,rfl,rfl,rfl,trivial⟩) ?_
  intro j hj
  (try dsimp only at hj ⊢)
  refine Qy (Qx fun K hK=> ?_);refine Qk ilss J J J J (Qj (hK _ _ (Qz (Qy ?_))));clear hK K;refine Q2 J (fun h=> ?_) (fun h=> ?_)
  · have kj:(j:Int).toNat*3=j*3:=by omega
    refine QW (Qz (Qy (Q3 (Qy (Qx fun K hK=> ?_)))));refine Qq J J J (Qv J J J (Qj (hK _ _ (Qz ?_))));clear hK K;refine Qx (fun K hK=> ?_);refine Qq J J J (Qq J J J (Qq J J J (QV goof hof J J J J (X3 [(5,_)] goshare hsh0 J J J hbor J J (hfix _) (fun _ _=> ?_)))));skip
    refine XJ n J J J (by rw [Yg];simp;omega) J sFracs (by omega) (by omega) J ?_
    rw [kj]
    refine stFr J J J J (by simp;omega) szFrac ?_
    rw [rep_set n j (by omega)];refine Qj (hK _ _ (Qz ?_));clear hK K;refine Qx (fun K hK=> ?_)
    refine Qk (iadd (by omega) (by omega)) J J J J ?_
    refine Qq J J J (Qj (hK _ _ (Q6 ?_)));clear hK K;refine Q9 (j+1) (by omega) (by omega) (by exact Qu J ⟨rfl,rfl,rfl,rfl,by simp only [Int.natCast_add];rfl,trivial⟩)
  have hjn:j=n:=by omega
  subst hjn;rw [Nat.sub_self,List.replicate_zero,List.append_nil,show List.replicate j (some (0:Rat))=(ptS T j 0).map some by simp [ptS]];refine Qm (Qz (Qy (Qy (Qx fun K hK=> ?_))));refine Qq J J J (Q0 J J J J (QJ J J J fT1 J (QQ J J J J J lInts J (ZK 2 T.bas.length J J J (by decide) (by simp) sInts.und J ?_))));refine Qq J J J (Qj (hK _ _ (Qz (Q3 ?_))));clear hK K
  refine Qs (α:=Nat) (fun i=>i≤T.bas.length)
    (fun i=>[(0, .own 0),(1, .ct (intC j)),(5, .own 5),(26, .ct (.ex T.hB)),(27, .ct (intC T.bas.length)),(28, .ct (intC i))])
    (fun i=>(5, .row 88 3 (frR ((ptS T j i).map some)))::tabB T) (fun i=>T.bas.length - i) 0 (Nat.zero_le _) (by exact Qu J ⟨rfl,rfl,rfl,rfl,rfl,rfl,trivial⟩) ?_
  intro i hi
  (try dsimp only at hi ⊢)
  have hpl:=ptS_len T j i
  have es:ptS T j (i+1)=if T.bas.getD i 0<j then (ptS T j i).set (T.bas.getD i 0).toNat (shq (T.at i T.col.length) T.den) else ptS T j i:=rfl
  have hbi:=hb i;generalize hcur:ptS T j i=cur at*;simp only [tabB];refine Qy (Qx fun K hK=> ?_);refine Qk ilss J J J J (Qj (hK _ _ (Qz (Qy ?_))));clear hK K;refine Q2 J (fun h=> ?_) (fun h=> ?_)
  · have hi2:i<T.rows.length:=by omega
    have hrow:=G.fit.row i hi2
    have ki:(i:Int).toNat*1=i:=by omega
    have kl:((T.col.length:Int)).toNat*2=T.col.length*2:=by omega
    have sa:=G.short i T.col.length;have hsh:=share_ok T (T.at i T.col.length) (by omega) G.den (by omega);refine QW (Qz (Qy (Q3 (Qy (Qx fun K hK=> ?_)))));refine Qq J J J (Qp 2 T.bas.length J J J (by simp) J sInts (by omega) (by omega) J ?_);rw [ki]
    refine QQ J J J J (Xo (by omega)) lInt J ?_
    generalize T.bas.getD i 0=v at*;refine Qv J J J (Qv J J J (Qj (hK _ _ (Qz (Qy ?_)))));clear hK K;refine Qx (fun K hK=> ?_);refine Qq J J J (Qq J J J (Qk ilss J J J J (Qj (hK _ _ (Qz ?_)))));clear hK K;refine Q2 J (fun h2=> ?_) (fun h2=> ?_)
    · rw [if_pos h2] at es;have kv:v.toNat*3=v.toNat*3:=rfl;skip;refine St.drawL mixed [17,19] (.p 0 (.p 1 (.p 2 (.p 3 (.p 4 (.p 5 (.p 7 (.p 10 (.p 11 (.p 12 (.f 6 (.p 8 (.f 9 (.f 13 (.p 14 (.p 15 (.f 16 (.a 17 (.p 18 (.a 19 .done)))))))))))))))))))) (by kernel_rfl) (fun K hK=> ?_);refine Qq J J J (Qq J J J (Qq J J J (Qq J J J (Q0 J J J J (QJ J J J fT0 J (Qq J J J (Qq J J J (Q0 J J J J (QJ J J J fT2 J (QQ J J J J J lMat J (Qp 1 T.rows.length J J J (by simp [hhl]) J sMat (by omega) (by omega) J ?_)))))))))));rw [ki]
      refine QQ J J J J (Ze (by omega)) lWhs J ?_
      refine QQ J J J J J lInts J (ZK 3 T.col.length J J J (by decide) (by simp) sInts.und J ?_)
      refine Qp (i+10) (T.col.length+1) J J (Xw (by omega) hi2) (by rw [XV,hrow]) J sWhs (by omega) (by omega) J ?_
      rw [kl]
      refine ldWh J J J (Xw (by omega) hi2) J (by omega) lWh J ?_
      refine X3 [(5,_)] goshare hsh J J J hbor J J (hfix _) (fun _ _=> ?_)
      refine XJ j J J J (by rw [Yg];simp;omega) J sFracs (by omega) (by omega) J ?_
      refine stFr J J J J (by simp;omega) szFrac ?_
      rw [show (cur.map some).set v.toNat (some (shq (T.at i T.col.length) T.den))=(ptS T j (i+1)).map some by rw [es,List.map_set]];refine Qj (hK _ _ (Qz ?_));clear hK K;refine Qx (fun K hK=> ?_)
      refine Qk (iadd (by omega) (by omega)) J J J J ?_
      refine Qq J J J (Qj (hK _ _ (Q6 ?_)));clear hK K;refine Q9 (i+1) (by omega) (by omega) (by exact Qu J ⟨rfl,rfl,rfl,rfl,rfl,by simp only [Int.natCast_add];rfl,trivial⟩)
    · rw [if_neg h2] at es;refine QW (Qz (Qx fun K hK=> ?_))
      refine Qk (iadd (by omega) (by omega)) J J J J ?_
      refine Qq J J J (Qj (hK _ _ (Q6 ?_)));clear hK K;refine Q9 (i+1) (by omega) (by omega) (by exact Qu (by rw [es]) ⟨rfl,rfl,rfl,rfl,rfl,by simp only [Int.natCast_add];rfl,trivial⟩)
  · have hi' :i=T.bas.length:=by omega
    subst hi';refine Y8 5 _ J (frR_frozen _ _) hbor (Qm (Qz (Qy (Qx fun K hK=> ?_))));refine Qq J J J (Qv J J J (Qj (hK _ _ (Qz (Q4 ?_)))));clear hK K;refine Fin.retMS () [_] rfl (QX J QZ) (by rw [hcur];rfl) (tab_del (by decide) (by decide)) (tab_fx T) trivial
end Go.Proofs.YtojkdfilabmafaaGreat
namespace Go.Proofs.YtojkdfilabmafaaGreat
open Go.Own Go.Limbs
attribute [local irreducible] St Ops Go.Own.Fin Ok OkM
def duS (T : Tv) (n m gi : Nat) : Nat → List Rat
  | 0 => List.replicate m 0
  | j + 1 => if (n : Int) ≤ T.col.getD j 0 ∧ T.col.getD j 0 < n + m then (duS T n m gi j).set (T.col.getD j 0 - n).toNat (shq (T.at gi j) T.den) else duS T n m gi j
theorem duS_len(T:Tv)(n m gi:Nat):∀i,(duS T n m gi i).length=m
  |0=>by simp [duS]
  |i+1=>by simp only [duS];split <;>simp [duS_len T n m gi i]
theorem godual:InGo Tryz.prog 140:=InGo.of Tryz.func140 (by kernel_rfl) (by kernel_rfl)
set_option maxHeartbeats 8000000 in
theorem dual_ok(T:Tv)(G:Gd T)(n m gi:Nat)(hn:n≤100)(hm:m≤100)(hgi:gi<T.rows.length)(hb:∀i,0≤T.col.getD i 0):OkM Tryz.prog 140 [.own 0, .ct (intC n), .ct (intC m), .ct (intC gi)] (tabB T) [0] (fun _:Unit=>True) (fun _=> .ct (fracsC ((duS T n m gi T.col.length).map ofQ))) (fun _=>tabB T):=by
  have hfew:=G.fit.few;have hthin:=G.fit.thin;have hhl:=G.fit.hl;have hbas:=G.fit.bas;have hDs:=G.dens;have hrow:=G.fit.row gi hgi
  have kg:(gi:Int).toNat*1=gi:=by omega
  have hof:=of_ok 0 (by decide) (by decide);have hsh0:=share_ok T 0 (by rw [show (0:Int).natAbs=0 from rfl,limbs_zero];decide) G.den (by omega);rw [shq_zero] at hsh0
  refine OkM.enter Tryz.func140 J _ Tryz.ntmps140 J (tab_fx T) ?_
  intro S w ρ0 hbor
  have hfix:∀e:Ent,∀p∈(lentM Tryz.prog 66 S w (tabB T) [0] ρ0).fix,(bget [(5,e)] p.1).isSome=true∨p.1∈ [0]:=fun e p hp=>by
    obtain ⟨i,hi,rfl⟩:=List.mem_map.1 hp;exact .inr hi
  refine Qy (Qx fun K hK=> ?_);refine Qv J J J (Qj (hK _ _ (Qz (Qy ?_))));clear hK K;refine Qx (fun K hK=> ?_);refine Qq J J J (Zp 5 m J J J J sFracs (by omega) (by omega) J (by exact Z1 10 _ _ 5 (by decide)) J ?_);rw [frR_made];refine Qv J J J (Qj (hK _ _ (Qz (Qy (Qy ?_)))));clear hK K;refine Qx (fun K hK=> ?_);refine Qq J J J (YW m J J J (by decide) (by rw [Yg];simp) sFracs.und J ?_);refine Qq J J J (Qj (hK _ _ (Qz (Q3 ?_))));clear hK K
  refine Qs (α:=Nat) (fun j=>j≤m)
    (fun j=>[(0, .own 0),(1, .ct (intC n)),(2, .ct (intC m)),(3, .ct (intC gi)),(9, .own 5),(16, .ct (intC m)),(17, .ct (intC j))])
    (fun j=>(5, .row 88 3 (frR (List.replicate j (some 0)++List.replicate (m - j) none)))::tabB T) (fun j=>m - j) 0 (Nat.zero_le _) (by exact Qu J ⟨rfl,rfl,rfl,rfl,rfl,rfl,rfl,trivial⟩) ?_
  intro j hj
  (try dsimp only at hj ⊢)
  refine Qy (Qx fun K hK=> ?_);refine Qk ilss J J J J (Qj (hK _ _ (Qz (Qy ?_))));clear hK K;refine Q2 J (fun h=> ?_) (fun h=> ?_)
  · have kj:(j:Int).toNat*3=j*3:=by omega
    refine QW (Qz (Qy (Q3 (Qy (Qx fun K hK=> ?_)))));refine Qq J J J (Qv J J J (Qj (hK _ _ (Qz ?_))));clear hK K;refine Qx (fun K hK=> ?_);refine Qq J J J (Qq J J J (Qq J J J (QV goof hof J J J J (X3 [(5,_)] goshare hsh0 J J J hbor J J (hfix _) (fun _ _=> ?_)))));skip
    refine XJ m J J J (by rw [Yg];simp;omega) J sFracs (by omega) (by omega) J ?_
    rw [kj]
    refine stFr J J J J (by simp;omega) szFrac ?_
    rw [rep_set m j (by omega)];refine Qj (hK _ _ (Qz ?_));clear hK K;refine Qx (fun K hK=> ?_)
    refine Qk (iadd (by omega) (by omega)) J J J J ?_
    refine Qq J J J (Qj (hK _ _ (Q6 ?_)));clear hK K;refine Q9 (j+1) (by omega) (by omega) (by exact Qu J ⟨rfl,rfl,rfl,rfl,rfl,rfl,by simp only [Int.natCast_add];rfl,trivial⟩)
  have hjn:j=m:=by omega
  subst hjn;rw [Nat.sub_self,List.replicate_zero,List.append_nil,show List.replicate j (some (0:Rat))=(duS T n j gi 0).map some by simp [duS]];refine Qm (Qz (Qy (Qy (Qx fun K hK=> ?_))));refine Qq J J J (Q0 J J J J (QJ J J J fT2 J (QQ J J J J J lInts J (ZK 3 T.col.length J J J (by decide) (by simp) sInts.und J ?_))));refine Qq J J J (Qj (hK _ _ (Qz (Q3 ?_))));clear hK K
  refine Qs (α:=Nat) (fun i=>i≤T.col.length)
    (fun i=>[(0, .own 0),(1, .ct (intC n)),(2, .ct (intC j)),(3, .ct (intC gi)),(9, .own 5),(30, .ct (.ex T.hC)),(31, .ct (intC T.col.length)),(32, .ct (intC i))])
    (fun i=>(5, .row 88 3 (frR ((duS T n j gi i).map some)))::tabB T) (fun i=>T.col.length - i) 0 (Nat.zero_le _) (by exact Qu J ⟨rfl,rfl,rfl,rfl,rfl,rfl,rfl,rfl,trivial⟩) ?_
  intro i hi
  (try dsimp only at hi ⊢)
  have hpl:=duS_len T n j gi i
  have es:duS T n j gi (i+1)=if (n:Int)≤T.col.getD i 0∧T.col.getD i 0<n+j then (duS T n j gi i).set (T.col.getD i 0 - n).toNat (shq (T.at gi i) T.den) else duS T n j gi i:=rfl
  have hbi:=hb i;generalize hcur:duS T n j gi i=cur at*;simp only [tabB];refine Qy (Qx fun K hK=> ?_);refine Qk ilss J J J J (Qj (hK _ _ (Qz (Qy ?_))));clear hK K;refine Q2 J (fun h=> ?_) (fun h=> ?_)
  · have ki:(i:Int).toNat*1=i:=by omega
    have ki2:(i:Int).toNat*2=i*2:=by omega
    have sa:=G.short gi i;have hsh:=share_ok T (T.at gi i) (by omega) G.den (by omega);refine QW (Qz (Qy (Q3 (Qy (Qx fun K hK=> ?_)))));refine Qq J J J (Qp 3 T.col.length J J J (by simp) J sInts (by omega) (by omega) J ?_);rw [ki]
    refine QQ J J J J (Xo (by omega)) lInt J ?_
    generalize T.col.getD i 0=v at*;refine Qv J J J (Qv J J J (Qj (hK _ _ (Qz (Qy ?_)))));clear hK K;refine Qx (fun K hK=> ?_);refine Qq J J J (Qq J J J (Qk igeq J J J J (Qq J J J ?_)))
    have stay:¬((n:Int)≤v∧v<n+j)→duS T n j gi (i+1)=cur:=fun h=>by rw [es,if_neg h]
    refine Qi 40 J (fun h2=> ?_) (fun h2=> ?_)
    · refine Qq J J J (Qq J J J (Qq J J J (Qk (iadd (by omega) (by omega)) J J J J ?_)));refine Qk ilss J J J J (Q5 J J J J (Qj (hK _ _ (Qz ?_))));clear hK K;refine Q2 J (fun h3=> ?_) (fun h3=> ?_)
      · rw [if_pos ⟨h2,h3⟩] at es;refine Qx (fun K hK=> ?_);refine Qq J J J (Qq J J J (Qq J J J (Qk (isub (by omega) (by omega)) J J J J ?_)));refine Qq J J J (Qq J J J (Q0 J J J J (QJ J J J fT0 J (QQ J J J J J lMat J (Qq J J J (Qp 1 T.rows.length J J J (by simp [hhl]) J sMat (by omega) (by omega) J ?_))))));rw [kg]
        refine QQ J J J J (Ze (by omega)) lWhs J ?_
        refine Qq J J J (Qp (gi+10) (T.col.length+1) J J (Xw (by omega) hgi) (by rw [XV,hrow]) J sWhs (by omega) (by omega) J ?_);rw [ki2]
        refine ldWh J J J (Xw (by omega) hgi) J (by omega) lWh J ?_
        refine X3 [(5,_)] goshare hsh J J J hbor J J (hfix _) (fun _ _=> ?_);skip
        refine XJ j J J J (by rw [Yg];simp;omega) J sFracs (by omega) (by omega) J ?_
        refine stFr J J J J (by simp;omega) szFrac ?_
        rw [show (cur.map some).set (v - n).toNat (some (shq (T.at gi i) T.den))=(duS T n j gi (i+1)).map some by rw [es,List.map_set]];refine Qj (hK _ _ (Qz ?_));clear hK K;refine Qx (fun K hK=> ?_)
        refine Qk (iadd (by omega) (by omega)) J J J J ?_
        refine Qq J J J (Qj (hK _ _ (Q6 ?_)));clear hK K;refine Q9 (i+1) (by omega) (by omega) (by exact Qu J ⟨rfl,rfl,rfl,rfl,rfl,rfl,rfl,by simp only [Int.natCast_add];rfl,trivial⟩)
      · refine QW (Qz (Qx fun K hK=> ?_))
        refine Qk (iadd (by omega) (by omega)) J J J J ?_
        refine Qq J J J (Qj (hK _ _ (Q6 ?_)));clear hK K;refine Q9 (i+1) (by omega) (by omega) (by exact Qu (by rw [stay (fun h=>h3 h.2)]) ⟨rfl,rfl,rfl,rfl,rfl,rfl,rfl,by simp only [Int.natCast_add];rfl,trivial⟩)
    · refine Qw J J J (Qw J J J (Qw J J J (Qw J J J (Qw J J J (Q7 J J J J (Qj (hK _ _ (Qz (Xy J (QW (Qz ?_)))))))))));clear hK K;refine Qx (fun K hK=> ?_)
      refine Qk (iadd (by omega) (by omega)) J J J J ?_
      refine Qq J J J (Qj (hK _ _ (Q6 ?_)));clear hK K;refine Q9 (i+1) (by omega) (by omega) (by exact Qu (by rw [stay (fun h=>h2 h.1)]) ⟨rfl,rfl,rfl,rfl,rfl,rfl,rfl,by simp only [Int.natCast_add];rfl,trivial⟩)
  · have hi' :i=T.col.length:=by omega
    subst hi';refine Y8 5 _ J (frR_frozen _ _) hbor (Qm (Qz (Qy (Qx fun K hK=> ?_))));refine Qq J J J (Qv J J J (Qj (hK _ _ (Qz (Q4 ?_)))));clear hK K;refine Fin.retMS () [_] rfl (QX J QZ) (by rw [hcur];rfl) (tab_del (by decide) (by decide)) (tab_fx T) trivial
def raS (T : Tv) (n s : Nat) : Nat → List Rat
  | 0 => if T.col.getD s 0 < n then (List.replicate n 0).set (T.col.getD s 0).toNat (shq T.den T.den) else List.replicate n 0
  | i + 1 => if T.bas.getD i 0 < n then (raS T n s i).set (T.bas.getD i 0).toNat (shq (-(T.at i s)) T.den) else raS T n s i
theorem raS_len(T:Tv)(n s:Nat):∀i,(raS T n s i).length=n
  |0=>by simp only [raS];split <;>simp
  |i+1=>by simp only [raS];split <;>simp [raS_len T n s i]
theorem goray:InGo Tryz.prog 143:=InGo.of Tryz.func143 (by kernel_rfl) (by kernel_rfl)
set_option maxHeartbeats 8000000 in
theorem ray_ok(T:Tv)(G:Gd T)(n s:Nat)(hn:n≤100)(hs:s<T.col.length)(hb:∀i,0≤T.bas.getD i 0)(hc:∀i,0≤T.col.getD i 0):OkM Tryz.prog 143 [.own 0, .ct (intC n), .ct (intC s)] (tabB T) [0] (fun _:Unit=>True) (fun _=> .ct (fracsC ((raS T n s T.bas.length).map ofQ))) (fun _=>tabB T):=by
  have hfew:=G.fit.few;have hthin:=G.fit.thin;have hhl:=G.fit.hl;have hbas:=G.fit.bas;have hDs:=G.dens
  have ks:(s:Int).toNat*1=s:=by omega
  have ks2:(s:Int).toNat*2=s*2:=by omega
  have hof:=of_ok 0 (by decide) (by decide);have hsh0:=share_ok T 0 (by rw [show (0:Int).natAbs=0 from rfl,limbs_zero];decide) G.den (by omega);rw [shq_zero] at hsh0;have hsh1:=share_ok T T.den (by omega) G.den (by omega);have hcs:=hc s
  refine OkM.enter Tryz.func143 J _ Tryz.ntmps143 J (tab_fx T) ?_
  intro S w ρ0 hbor
  have hfix:∀e:Ent,∀p∈(lentM Tryz.prog 76 S w (tabB T) [0] ρ0).fix,(bget [(5,e)] p.1).isSome=true∨p.1∈ [0]:=fun e p hp=>by
    obtain ⟨i,hi,rfl⟩:=List.mem_map.1 hp;exact .inr hi
  refine Qy (Qx fun K hK=> ?_);refine Qv J J J (Qj (hK _ _ (Qz (Qy ?_))));clear hK K;refine Qx (fun K hK=> ?_);refine Qq J J J (Zp 5 n J J J J sFracs (by omega) (by omega) J (by exact Z1 10 _ _ 5 (by decide)) J ?_);rw [frR_made];refine Qv J J J (Qj (hK _ _ (Qz (Qy (Qy ?_)))));clear hK K;refine Qx (fun K hK=> ?_);refine Qq J J J (YW n J J J (by decide) (by rw [Yg];simp) sFracs.und J ?_);refine Qq J J J (Qj (hK _ _ (Qz (Q3 ?_))));clear hK K
  refine Qs (α:=Nat) (fun j=>j≤n)
    (fun j=>[(0, .own 0),(1, .ct (intC n)),(2, .ct (intC s)),(7, .own 5),(15, .ct (intC n)),(16, .ct (intC j))])
    (fun j=>(5, .row 88 3 (frR (List.replicate j (some 0)++List.replicate (n - j) none)))::tabB T) (fun j=>n - j) 0 (Nat.zero_le _) (by exact Qu J ⟨rfl,rfl,rfl,rfl,rfl,rfl,trivial⟩) ?_
  intro j hj
  (try dsimp only at hj ⊢)
  refine Qy (Qx fun K hK=> ?_);refine Qk ilss J J J J (Qj (hK _ _ (Qz (Qy ?_))));clear hK K;refine Q2 J (fun h=> ?_) (fun h=> ?_)
  · have kj:(j:Int).toNat*3=j*3:=by omega
    refine QW (Qz (Qy (Q3 (Qy (Qx fun K hK=> ?_)))));refine Qq J J J (Qv J J J (Qj (hK _ _ (Qz ?_))));clear hK K;refine Qx (fun K hK=> ?_);refine Qq J J J (Qq J J J (Qq J J J (QV goof hof J J J J (X3 [(5,_)] goshare hsh0 J J J hbor J J (hfix _) (fun _ _=> ?_)))));skip
    refine XJ n J J J (by rw [Yg];simp;omega) J sFracs (by omega) (by omega) J ?_
    rw [kj]
    refine stFr J J J J (by simp;omega) szFrac ?_
    rw [rep_set n j (by omega)];refine Qj (hK _ _ (Qz ?_));clear hK K;refine Qx (fun K hK=> ?_)
    refine Qk (iadd (by omega) (by omega)) J J J J ?_
    refine Qq J J J (Qj (hK _ _ (Q6 ?_)));clear hK K;refine Q9 (j+1) (by omega) (by omega) (by exact Qu J ⟨rfl,rfl,rfl,rfl,rfl,by simp only [Int.natCast_add];rfl,trivial⟩)
  have hjn:j=n:=by omega
  subst hjn;rw [Nat.sub_self,List.replicate_zero,List.append_nil];refine Qm (Qz (Qy (Qy (Qx fun K hK=> ?_))));refine Qq J J J (Q0 J J J J (QJ J J J fT2 J (QQ J J J J J lInts J (Qq J J J (Qp 3 T.col.length J J J (by simp) J sInts (by omega) (by omega) J ?_)))));rw [ks]
  refine QQ J J J J (Xo (by omega)) lInt J ?_
  have r0:raS T j s 0=if T.col.getD s 0<j then (List.replicate j 0).set (T.col.getD s 0).toNat (shq T.den T.den) else List.replicate j 0:=rfl
  generalize T.col.getD s 0=cs at*;refine Qv J J J (Qj (hK _ _ (Qz (Qy ?_))));clear hK K;refine Qx (fun K hK=> ?_);refine Qq J J J (Qq J J J (Qk ilss J J J J (Qj (hK _ _ (Qz ?_)))));clear hK K;refine YJ (α:=Unit) (fun _=>True) (fun _=>[(0, .own 0),(1, .ct (intC j)),(2, .ct (intC s)),(7, .own 5)]) (fun _=>(5, .row 88 3 (frR ((raS T j s 0).map some)))::tabB T) (fun _ _=> ?_) (fun KK hN=> ?_)
  · clear r0;refine Qy (Qy (Qx fun K hK=> ?_));refine Qq J J J (Q0 J J J J (QJ J J J fT1 J (QQ J J J J J lInts J (ZK 2 T.bas.length J J J (by decide) (by simp) sInts.und J ?_))));refine Qq J J J (Qj (hK _ _ (Qz (Q3 ?_))));clear hK K
    refine Qs (α:=Nat) (fun i=>i≤T.bas.length)
      (fun i=>[(0, .own 0),(1, .ct (intC j)),(2, .ct (intC s)),(7, .own 5),(48, .ct (.ex T.hB)),(49, .ct (intC T.bas.length)),(50, .ct (intC i))])
      (fun i=>(5, .row 88 3 (frR ((raS T j s i).map some)))::tabB T) (fun i=>T.bas.length - i) 0 (Nat.zero_le _) (by exact Qu J ⟨rfl,rfl,rfl,rfl,rfl,rfl,rfl,trivial⟩) ?_
    intro i hi
    (try dsimp only at hi ⊢)
    have hpl:=raS_len T j s i
    have es:raS T j s (i+1)=if T.bas.getD i 0<j then (raS T j s i).set (T.bas.getD i 0).toNat (shq (-(T.at i s)) T.den) else raS T j s i:=rfl
    have hbi:=hb i;generalize hcur:raS T j s i=cur at*;simp only [tabB];refine Qy (Qx fun K hK=> ?_);refine Qk ilss J J J J (Qj (hK _ _ (Qz (Qy ?_))));clear hK K;refine Q2 J (fun h=> ?_) (fun h=> ?_)
    · have hi2:i<T.rows.length:=by omega
      have hrow:=G.fit.row i hi2
      have ki:(i:Int).toNat*1=i:=by omega
      have sa:=G.short i s;have hsh:=share_ok T (-(T.at i s)) (Nat.le_trans (neg_short sa) (by decide)) G.den (by omega);refine QW (Qz (Qy (Q3 (Qy (Qx fun K hK=> ?_)))));refine Qq J J J (Qp 2 T.bas.length J J J (by simp) J sInts (by omega) (by omega) J ?_);rw [ki]
      refine QQ J J J J (Xo (by omega)) lInt J ?_
      generalize T.bas.getD i 0=v at*;refine Qv J J J (Qv J J J (Qj (hK _ _ (Qz (Qy ?_)))));clear hK K;refine Qx (fun K hK=> ?_);refine Qq J J J (Qq J J J (Qk ilss J J J J (Qj (hK _ _ (Qz ?_)))));clear hK K;refine Q2 J (fun h2=> ?_) (fun h2=> ?_)
      · rw [if_pos h2] at es;refine Qx (fun K hK=> ?_);refine Qq J J J (Qq J J J (Qq J J J (Qq J J J (Q0 J J J J (QJ J J J fT0 J (QQ J J J J J lMat J (Qq J J J (Qp 1 T.rows.length J J J (by simp [hhl]) J sMat (by omega) (by omega) J ?_))))))));rw [ki]
        refine QQ J J J J (Ze (by omega)) lWhs J ?_
        refine Qq J J J (Qp (i+10) (T.col.length+1) J J (Xw (by omega) hi2) (by rw [XV,hrow]) J sWhs (by omega) (by omega) J ?_);rw [ks2]
        refine ldWh J J J (Xw (by omega) hi2) J (by omega) lWh J ?_
        refine QV gominus (minus_ok (T.at i s)) J J J J (X3 [(5,_)] goshare hsh J J J hbor J J (hfix _) (fun _ _=> ?_));skip
        refine XJ j J J J (by rw [Yg];simp;omega) J sFracs (by omega) (by omega) J ?_
        refine stFr J J J J (by simp;omega) szFrac ?_
        rw [show (cur.map some).set v.toNat (some (shq (-(T.at i s)) T.den))=(raS T j s (i+1)).map some by rw [es,List.map_set]];refine Qj (hK _ _ (Qz ?_));clear hK K;refine Qx (fun K hK=> ?_)
        refine Qk (iadd (by omega) (by omega)) J J J J ?_
        refine Qq J J J (Qj (hK _ _ (Q6 ?_)));clear hK K;refine Q9 (i+1) (by omega) (by omega) (by exact Qu J ⟨rfl,rfl,rfl,rfl,rfl,rfl,by simp only [Int.natCast_add];rfl,trivial⟩)
      · rw [if_neg h2] at es;refine QW (Qz (Qx fun K hK=> ?_))
        refine Qk (iadd (by omega) (by omega)) J J J J ?_
        refine Qq J J J (Qj (hK _ _ (Q6 ?_)));clear hK K;refine Q9 (i+1) (by omega) (by omega) (by exact Qu (by rw [es]) ⟨rfl,rfl,rfl,rfl,rfl,rfl,by simp only [Int.natCast_add];rfl,trivial⟩)
    · have hi' :i=T.bas.length:=by omega
      subst hi';refine Y8 5 _ J (frR_frozen _ _) hbor (Qm (Qz (Qy (Qx fun K hK=> ?_))));refine Qq J J J (Qv J J J (Qj (hK _ _ (Qz (Q4 ?_)))));clear hK K;refine Fin.retMS () [_] rfl (QX J QZ) (by rw [hcur];rfl) (tab_del (by decide) (by decide)) (tab_fx T) trivial
  · refine Q2 J (fun h2=> ?_) (fun h2=> ?_)
    · rw [if_pos h2] at r0;refine Qx (fun K hK=> ?_);refine Qq J J J (Qq J J J (Qq J J J (Qq J J J (Q0 J J J J (QJ J J J fT3 J (Yv (n:=2) J J J J (Nat.le_of_ble_eq_true J) lWh J (X3 [(5,_)] goshare hsh1 J J J hbor J J (hfix _) (fun _ _=> ?_))))))));skip
      refine XJ j J J J (by rw [Yg];simp) J sFracs (by omega) (by omega) J ?_
      refine stFr J J J J (by simp;omega) szFrac ?_
      rw [show (List.replicate j (some (0:Rat))).set cs.toNat (some (shq T.den T.den))=(raS T j s 0).map some by rw [r0,List.map_set,List.map_replicate]];refine Qj (hK _ _ ?_);clear hK K;exact Xk hN () trivial (by exact Qu J ⟨rfl,rfl,rfl,rfl,trivial⟩)
    · rw [if_neg h2] at r0
      refine QW ?_
      exact Xk hN () trivial (by exact Qu (by rw [r0,List.map_replicate]) ⟨rfl,rfl,rfl,rfl,trivial⟩)
end Go.Proofs.YtojkdfilabmafaaGreat
namespace Go.Proofs.YtojkdfilabmafaaGreat
open Go.Own Go.Limbs
attribute [local irreducible] St Ops Go.Own.Fin Ok
set_option maxHeartbeats 2000000 in
theorem Int_ok(n:Nat)(hn:n≤4611686018427387904):Ok Tryz.prog 213 [natC n] (.fr (tupT [intC n,intC 0])):=by
  have hl:(limbs n).length≤3:=Xn (k:=3) (by omega)
  refine Ok.enter Tryz.func213 J _ Tryz.ntmps213 J ?_
  intro S w;refine Qy (Qx fun K hK=> ?_);refine Qv J J J (Qv J J J (Qj (hK _ _ (Qz (Qy ?_)))));clear hK K;refine Qx (fun K hK=> ?_);refine Qv J J J (Qj (hK _ _ (Qz (Qy (Qy ?_)))));clear hK K;refine Qx (fun K hK=> ?_);refine Qq J J J (Qh J J sNat.und (List.length_map ..) J (Qk (isub (by omega) (by omega)) J J J J ?_));refine Qv J J J (Qj (hK _ _ (Qz (Q3 ?_))));clear hK K
  refine Qs (α:=Nat × Int) (fun s=>s.1≤(limbs n).length∧0≤s.2∧s.2*BB ^ s.1+pre (limbs n) s.1=n)
    (fun s=>[(0, .ct (natC n)),(4, .ct (intC s.2)),(5, .ct (intC ((s.1:Int) - 1)))]) (fun _=>[]) (fun s=>s.1) ((limbs n).length,0) ⟨Nat.le_refl _,Int.le_refl _,by dsimp only;rw [val_eq_pre];simp⟩ (by exact Qu J ⟨rfl,rfl,rfl,trivial⟩) ?_
  rintro ⟨q,v⟩ ⟨hq,hv,hvq⟩
  dsimp only at hq hv hvq ⊢;refine Qy (Qy (Qx fun K hK=> ?_));refine Qq J J J (Qk igeq J J J J (Qj (hK _ _ (Qz ?_))));clear hK K;refine Q2 J (fun h=> ?_) (fun h=> ?_)
  · obtain ⟨i,rfl⟩:∃i,q=i+1:=⟨q - 1,by omega⟩
    have e1:(((i+1:Nat):Int) - 1)=(i:Int):=by omega
    have e2:(i:Int).toNat=i:=Int.toNat_natCast i;have bx:=(X2 n).get i;simp only [BB] at bx;rw [X5,Int.pow_succ] at hvq;have hp:=(YX (X2 n) i).1;have hpw:(1:Int)≤BB ^ i:=Int.pow_pos (by decide)
    have key:v*1073741824+(limbs n).getD i 0≤4611686018427387904:=by
      have e:(v*1073741824+(limbs n).getD i 0)*BB ^ i+pre (limbs n) i=n:=by
        rw [←hvq];simp only [BB];grind
      have:(v*1073741824+(limbs n).getD i 0)*1≤(v*1073741824+(limbs n).getD i 0)*BB ^ i:=Int.mul_le_mul_of_nonneg_left hpw (by omega);omega
    rw [e1];refine QW (Qz (Qy (Q3 (Qy (Qy (Qx fun K hK=> ?_))))));refine Qq J J J (Qq J J J (Qq J J J (Xx J J J sNat (by omega) (Xs (by omega) (by omega)) J ?_)))
    refine X1 J J J lInt J ?_
    rw [e2]
    refine Qk (isub (by omega) (by omega)) J J J J ?_
    refine Qk ishr30 J J J J (Qk igtr J J J J (Qj (hK _ _ (Qz ?_))));clear hK K;refine Q2 J (fun h2=> ?_) (fun h2=> ?_)
    · omega
    clear h2;refine QW (Qz (Qx fun K hK=> ?_));refine Qq J J J (Qk (ishl30 (by omega) (by omega)) J J J J ?_);refine Qq J J J (Qq J J J (Xx J J J sNat (by omega) (Xs (by omega) (by omega)) J ?_))
    refine X1 J J J lInt J ?_
    rw [e2]
    refine Qk (ior30 (by omega) (by omega) (by omega) (by omega)) J J J J ?_
    refine Qv J J J (Qj (hK _ _ (Qz ?_)));clear hK K;refine Qx (fun K hK=> ?_);refine Qq J J J (Qk (isub (by omega) (by omega)) J J J J ?_);refine Qv J J J (Qj (hK _ _ (Q6 ?_)));clear hK K;refine Q9 (i,v*1073741824+(limbs n).getD i 0) (by dsimp only;omega) ⟨by dsimp only;omega,by dsimp only;omega,?_⟩ (by exact Qu J ⟨rfl,rfl,rfl,trivial⟩);dsimp only;rw [←hvq];simp only [BB];grind
  · have hq0:q=0:=by omega
    subst hq0
    have e:v=n:=by rw [Zg] at hvq;simpa using hvq
    refine Qm (Qz (Qy (Qx fun K hK=> ?_)));refine Qq J J J (Qv J J J (Qv J J J (Qj (hK _ _ (Qz (Q4 ?_))))));clear hK K;refine Q1 [_,_] rfl (QX J (QX J QZ)) (by rw [e];rfl) J
theorem goInt:InGo Tryz.prog 213:=InGo.of Tryz.func213 (by kernel_rfl) (by kernel_rfl)
def rnd (a b : Nat) (up : Bool) : Nat := if up = true ∧ a % b ≠ 0 then a / b + 1 else a / b
theorem goround:InGo Tryz.prog 212:=InGo.of Tryz.func212 (by kernel_rfl) (by kernel_rfl)
theorem goFwhole:InGo Tryz.prog 145:=InGo.of Tryz.func145 (by kernel_rfl) (by kernel_rfl)
theorem floor_sg(n:Bool)(a b:Nat)(hb:0<b):sg n (rnd a b n)=sg n a/(b:Int):=by
  unfold sg rnd;cases n
  · simp
  · simp only [if_true,true_and];have e:=Nat.div_add_mod a b;have hm:=Nat.mod_lt a hb;split
    · rename_i h
      symm
      rw [Int.ediv_eq_iff_of_pos (by omega)];constructor
      · have:((b*(a/b)+a%b:Nat):Int)=a:=by rw [e]
        rw [Int.natCast_add,Int.natCast_mul] at this;rw [Int.natCast_add];generalize ((a/b:Nat):Int)=z at*;have:(b:Int)*z+((a%b:Nat):Int)=a:=this
        grind
      · have:((b*(a/b)+a%b:Nat):Int)=a:=by rw [e]
        rw [Int.natCast_add,Int.natCast_mul] at this;rw [Int.natCast_add];generalize ((a/b:Nat):Int)=z at*
        grind
    · rename_i h
      have h0:a%b=0:=by omega
      rw [Int.neg_ediv_of_dvd (Int.natCast_dvd_natCast.mpr (Nat.dvd_of_mod_eq_zero h0)),Int.natCast_ediv]
theorem goFFloor:InGo Tryz.prog 82:=InGo.of Tryz.func82 (by kernel_rfl) (by kernel_rfl)
def fr0 : Fr := ⟨false, 0, 1⟩
structure Rw where
  cs : List Int
  b : Int
def rw0 : Rw := ⟨[], 0⟩
abbrev rwCs (r : Rw) : List CT := [intsC r.cs, intC r.b]
abbrev rowC (r : Rw) : CT := .fr (aggT (rwCs r))
abbrev rowsC (rs : List Rw) : CT := .fr (sliceT 2 (rs.map rwCs))
theorem map_at{α:Type}(f:α→List CT)(z:α){xs:List α}{j:Int}(h0:0≤j)(h:j<(xs.length:Int)):(xs.map f)[j.toNat]? =some (f (xs.getD j.toNat z)):=by
  have:j.toNat<xs.length:=by omega
  simp [List.getElem?_map,List.getElem?_eq_getElem this,List.getD_eq_getElem?_getD]
theorem rows_at{rs:List Rw}{j:Int}(h0:0≤j)(h:j<(rs.length:Int)):(rs.map rwCs)[j.toNat]? =some (rwCs (rs.getD j.toNat rw0)):=map_at rwCs rw0 h0 h
def tw (m : Int) : Rat := mkRat m 12
def tf (m : Int) : Fr := ofQ (tw m)
abbrev twC (m : Int) : CT := fracC (tf m)
abbrev twsC (ms : List Int) : CT := .fr (sliceT 3 (ms.map fun m => frCs (tf m)))
def Tb (m : Int) : Prop := m.natAbs < 1180591620717411303424
end Go.Proofs.YtojkdfilabmafaaGreat
namespace Go.Proofs.YtojkdfilabmafaaGreat
open Go.Own Go.Limbs
def idxI {α : Type} (p : α → Bool) (xs : List α) : Int := if xs.any p then (xs.findIdx p : Nat) else -1
theorem idxI_hit{α:Type}{p:α→Bool}{xs:List α}{z:α}{i:Nat}(h:i<xs.length)(hp:p (xs.getD i z)=true)(hn:∀j,j<i→p (xs.getD j z)=false):idxI p xs=i:=by
  have e:∀j (hj:j<xs.length),xs.getD j z=xs[j]:=fun j hj=>by simp [List.getD_eq_getElem?_getD,List.getElem?_eq_getElem hj]
  unfold idxI;rw [if_pos (List.any_eq_true.mpr ⟨xs[i],List.getElem_mem h,by rw [←e i h];exact hp⟩)]
  congr 1
  rw [List.findIdx_eq h];exact ⟨by rw [←e i h];exact hp,fun j hj=>by rw [←e j (by omega)];exact hn j hj⟩
theorem idxI_miss{α:Type}{p:α→Bool}{xs:List α}{z:α}(hn:∀j,j<xs.length→p (xs.getD j z)=false):idxI p xs= -1:=by
  have e:∀j (hj:j<xs.length),xs.getD j z=xs[j]:=fun j hj=>by simp [List.getD_eq_getElem?_getD,List.getElem?_eq_getElem hj]
  unfold idxI;rw [if_neg];rw [Bool.not_eq_true,List.any_eq_false];intro x hx;obtain ⟨j,hj,rfl⟩:=List.getElem_of_mem hx;rw [←e j hj,hn j hj];decide
theorem idxI_any{α:Type}(p:α→Bool)(xs:List α):decide (0≤idxI p xs)=xs.any p:=by
  unfold idxI;split
  · rename_i h;rw [h];simp
  · rename_i h;simp at h;rw [show decide ((0:Int)≤-1)=false by decide];symm;rw [List.any_eq_false];simpa using h
theorem getD_mem{α:Type}{xs:List α}{z:α}{i:Nat}(h:i<xs.length):xs.getD i z∈xs:=by
  simp [List.getD_eq_getElem?_getD,List.getElem?_eq_getElem h]
attribute [local irreducible] Go.Own.Fin Ok Ops St
set_option maxHeartbeats 2000000 in
theorem IndexFunc_ints(xs:List Int)(f:FuncId)(p:Int→Bool)(hgo:InGo Tryz.prog f)(hf:∀x∈xs,Ok Tryz.prog f [intC x] (boolC (p x)))(hl:xs.length<4611686018427387904):Ok Tryz.prog 244 [intsC xs,(.ex (.func (.func f) #[] #[]))] (intC (idxI p xs)):=by
  refine Ok.enter Tryz.func244 J _ Tryz.ntmps244 J ?_
  intro S w;refine Qy (Qx fun K hK=> ?_);refine Qv J J J (Qj (hK _ _ (Qz (Qy (Qy ?_)))));clear hK K;refine Qx (fun K hK=> ?_);refine Qq J J J (Qh J J sInts.und (List.length_map ..) J (Qq J J J (Qj (hK _ _ (Qz (Q3 ?_))))));clear hK K
  refine Qs (α:=Nat) (fun i=>i≤xs.length∧∀j,j<i→p (xs.getD j 0)=false)
    (fun i=>[(0, .ct (intsC xs)),(1, .ct (.ex (.func (.func f) #[] #[]))),(7, .ct (intC xs.length)),(8, .ct (intC i))]) (fun _=>[]) (fun i=>xs.length - i) 0 ⟨Nat.zero_le _,fun j h=>absurd h (Nat.not_lt_zero j)⟩ (by exact Qu J ⟨rfl,rfl,rfl,rfl,trivial⟩) ?_
  intro i ⟨hi,hv⟩;dsimp only;refine Qy (Qx fun K hK=> ?_);refine Qk ilss J J J J (Qj (hK _ _ (Qz (Qy ?_))));clear hK K;refine Q2 J (fun h=> ?_) (fun h=> ?_)
  · have e2:(i:Int).toNat=i:=Int.toNat_natCast i;refine QW (Qz (Qy (Q3 (Qy (Qx fun K hK=> ?_)))));refine Qq J J J (Qv J J J (Qj (hK _ _ (Qz (Qy ?_)))));clear hK K;refine Qx (fun K hK=> ?_);refine Qq J J J (Qq J J J (Qq J J J (Xx J J J sInts (by omega) (Xs (by omega) (by omega)) J ?_)))
    refine X1 J J J lInt J ?_
    rw [e2];skip
    refine Ops.callF hgo J (hf _ (getD_mem (by omega))) J J J J ?_
    refine Qj (hK _ _ (Qz ?_));clear hK K;refine X6 J (fun h2=> ?_) (fun h2=> ?_)
    · refine Qy (Qx fun K hK=> ?_);refine Qq J J J (Qv J J J (Qj (hK _ _ (Qz (Q4 (Qb (QY (QY (Qb (QY ?_))))))))));clear hK K;refine Q1 [_] rfl (QX J QZ) (by rw [idxI_hit (by omega) h2 hv];rfl) J
    · refine QW (Qz (Qx fun K hK=> ?_))
      refine Qk (iadd (by omega) (by omega)) J J J J ?_
      refine Qq J J J (Qj (hK _ _ (Q6 ?_)));clear hK K;refine Q9 (i+1) (by omega) ⟨by omega,?_⟩ (by exact Qu J ⟨rfl,rfl,rfl,by simp only [Int.natCast_add];rfl,trivial⟩);intro j hj;rcases Nat.lt_or_ge j i with h3|h3
      · exact hv j h3
      · have:j=i:=by omega
        rw [this];exact h2
  · have hi' :i=xs.length:=by omega
    refine Qm (Qz (Qy (Qx fun K hK=> ?_)));refine Qv J J J (Qj (hK _ _ (Qz (Q4 ?_))));clear hK K;refine Q1 [_] rfl (QX J QZ) (by rw [idxI_miss (fun j hj=>hv j (by omega))];rfl) J
theorem goIndexFunc_ints:InGo Tryz.prog 244:=InGo.of Tryz.func244 (by kernel_rfl) (by kernel_rfl)
theorem ContainsFunc_ints(xs:List Int)(f:FuncId)(p:Int→Bool)(hgo:InGo Tryz.prog f)(hf:∀x∈xs,Ok Tryz.prog f [intC x] (boolC (p x)))(hl:xs.length<4611686018427387904):Ok Tryz.prog 195 [intsC xs,(.ex (.func (.func f) #[] #[]))] (boolC (xs.any p)):=by
  refine Ok.enter Tryz.func195 J _ Tryz.ntmps195 J ?_
  intro S w;refine Qy (Qx fun K hK=> ?_);refine Qv J J J (Qj (hK _ _ (Qz (Qy ?_))));clear hK K;refine Qx (fun K hK=> ?_);refine Qq J J J (Qq J J J (QV goIndexFunc_ints (IndexFunc_ints xs f p hgo hf hl) J J J J (Qk igeq J J J J (Qv J J J (Qj (hK _ _ (Qz (Q4 ?_))))))));clear hK K;refine Q1 [_] rfl (QX J QZ) (by rw [←idxI_any];rfl) J
theorem goContainsFunc_ints:InGo Tryz.prog 195:=InGo.of Tryz.func195 (by kernel_rfl) (by kernel_rfl)
set_option maxHeartbeats 2000000 in
theorem IndexFunc_rows(xs:List Rw)(f:FuncId)(caps:List CT)(p:Rw→Bool)(hgo:InGo Tryz.prog f)(hf:∀x∈xs,Ok Tryz.prog f ([rowC x]++caps) (boolC (p x)))(hl:xs.length<4611686018427387904):Ok Tryz.prog 243 [rowsC xs,(.fr (closT f caps))] (intC (idxI p xs)):=by
  refine Ok.enter Tryz.func243 J _ Tryz.ntmps243 J ?_
  intro S w;refine Qy (Qx fun K hK=> ?_);refine Qv J J J (Qj (hK _ _ (Qz (Qy (Qy ?_)))));clear hK K;refine Qx (fun K hK=> ?_);refine Qq J J J (Qh J J sRows.und (List.length_map ..) J (Qq J J J (Qj (hK _ _ (Qz (Q3 ?_))))));clear hK K
  refine Qs (α:=Nat) (fun i=>i≤xs.length∧∀j,j<i→p (xs.getD j rw0)=false)
    (fun i=>[(0, .ct (rowsC xs)),(1, .ct (.fr (closT f caps))),(7, .ct (intC xs.length)),(8, .ct (intC i))]) (fun _=>[]) (fun i=>xs.length - i) 0 ⟨Nat.zero_le _,fun j h=>absurd h (Nat.not_lt_zero j)⟩ (by exact Qu J ⟨rfl,rfl,rfl,rfl,trivial⟩) ?_
  intro i ⟨hi,hv⟩;dsimp only;refine Qy (Qx fun K hK=> ?_);refine Qk ilss J J J J (Qj (hK _ _ (Qz (Qy ?_))));clear hK K;refine Q2 J (fun h=> ?_) (fun h=> ?_)
  · have e2:(i:Int).toNat=i:=Int.toNat_natCast i;refine QW (Qz (Qy (Q3 (Qy (Qx fun K hK=> ?_)))));refine Qq J J J (Qv J J J (Qj (hK _ _ (Qz (Qy ?_)))));clear hK K;refine Qx (fun K hK=> ?_);refine Qq J J J (Qq J J J (Qq J J J (Xx J J J sRows (by omega) (rows_at (by omega) (by omega)) J ?_)))
    refine Xc (n:=2) J J J lRow J J ?_
    rw [e2];skip
    refine Ops.callC hgo J (hf _ (getD_mem (by omega))) J J J J ?_
    refine Qj (hK _ _ (Qz ?_));clear hK K;refine X6 J (fun h2=> ?_) (fun h2=> ?_)
    · refine Qy (Qx fun K hK=> ?_);refine Qq J J J (Qv J J J (Qj (hK _ _ (Qz (Q4 (Qb (QY (QY (Qb (QY ?_))))))))));clear hK K;refine Q1 [_] rfl (QX J QZ) (by rw [idxI_hit (by omega) h2 hv];rfl) J
    · refine QW (Qz (Qx fun K hK=> ?_))
      refine Qk (iadd (by omega) (by omega)) J J J J ?_
      refine Qq J J J (Qj (hK _ _ (Q6 ?_)));clear hK K;refine Q9 (i+1) (by omega) ⟨by omega,?_⟩ (by exact Qu J ⟨rfl,rfl,rfl,by simp only [Int.natCast_add];rfl,trivial⟩);intro j hj;rcases Nat.lt_or_ge j i with h3|h3
      · exact hv j h3
      · have:j=i:=by omega
        rw [this];exact h2
  · have hi' :i=xs.length:=by omega
    refine Qm (Qz (Qy (Qx fun K hK=> ?_)));refine Qv J J J (Qj (hK _ _ (Qz (Q4 ?_))));clear hK K;refine Q1 [_] rfl (QX J QZ) (by rw [idxI_miss (fun j hj=>hv j (by omega))];rfl) J
theorem goIndexFunc_rows:InGo Tryz.prog 243:=InGo.of Tryz.func243 (by kernel_rfl) (by kernel_rfl)
theorem ContainsFunc_rows(xs:List Rw)(f:FuncId)(caps:List CT)(p:Rw→Bool)(hgo:InGo Tryz.prog f)(hf:∀x∈xs,Ok Tryz.prog f ([rowC x]++caps) (boolC (p x)))(hl:xs.length<4611686018427387904):Ok Tryz.prog 193 [rowsC xs,(.fr (closT f caps))] (boolC (xs.any p)):=by
  refine Ok.enter Tryz.func193 J _ Tryz.ntmps193 J ?_
  intro S w;refine Qy (Qx fun K hK=> ?_);refine Qv J J J (Qj (hK _ _ (Qz (Qy ?_))));clear hK K;refine Qx (fun K hK=> ?_);refine Qq J J J (Qq J J J (QV goIndexFunc_rows (IndexFunc_rows xs f caps p hgo hf hl) J J J J (Qk igeq J J J J (Qv J J J (Qj (hK _ _ (Qz (Q4 ?_))))))));clear hK K;refine Q1 [_] rfl (QX J QZ) (by rw [←idxI_any];rfl) J
theorem goContainsFunc_rows:InGo Tryz.prog 193:=InGo.of Tryz.func193 (by kernel_rfl) (by kernel_rfl)
def badC (x : Int) : Bool := decide (x < -1048576) || decide (1048576 < x)
theorem validCoeffs1_ok(x:Int):Ok Tryz.prog 196 [intC x] (boolC (badC x)):=by
  refine Ok.enter Tryz.func196 J _ Tryz.ntmps196 J ?_
  intro S w;refine Qy (Qx fun K hK=> ?_);refine Qv J J J (Qj (hK _ _ (Qz (Qy ?_))));clear hK K;refine Qx (fun K hK=> ?_);refine Qq J J J (Qk ilss J J J J (Qq J J J (Qi 5 J (fun h=> ?_) (fun h=> ?_))))
  · refine Qw J J J (Qw J J J (Q5 J J J J (Qv J J J (Qj (hK _ _ (Qz (Q4 ?_)))))));clear hK K;refine Q1 [_] rfl (QX J QZ) (by unfold badC;rw [decide_eq_true h];rfl) J
  · refine Qq J J J (Qk igtr J J J J (Q7 J J J J (Qv J J J (Qj (hK _ _ (Qz (Q4 ?_)))))));clear hK K;refine Q1 [_] rfl (QX J QZ) (by unfold badC;rw [decide_eq_false h];rfl) J
theorem govalidCoeffs1:InGo Tryz.prog 196:=InGo.of Tryz.func196 (by kernel_rfl) (by kernel_rfl)
def okCoeffs (n : Int) (xs : List Int) : Bool := decide ((xs.length : Int) ≤ n) && !xs.any badC
theorem validCoeffs_ok(n:Int)(xs:List Int)(hl:xs.length<4611686018427387904):Ok Tryz.prog 137 [intC n,intsC xs] (boolC (okCoeffs n xs)):=by
  refine Ok.enter Tryz.func137 J _ Tryz.ntmps137 J ?_
  intro S w;refine Qy (Qx fun K hK=> ?_);refine Qv J J J (Qj (hK _ _ (Qz (Qy ?_))));clear hK K;refine Qx (fun K hK=> ?_);refine Qq J J J (Qh J J sInts.und (List.length_map ..) J (Qq J J J (Qk ileq J J J J (Qq J J J (Qi 9 J (fun h=> ?_) (fun h=> ?_))))))
  · refine Qq J J J (QV goContainsFunc_ints (ContainsFunc_ints xs _ badC govalidCoeffs1 (fun x _=>validCoeffs1_ok x) hl) J J J J ?_);refine Xz J J J (Q5 J J J J (Qv J J J (Qj (hK _ _ (Qz (Q4 ?_))))));clear hK K;refine Q1 [_] rfl (QX J QZ) (by unfold okCoeffs;rw [decide_eq_true h];rfl) J
  · refine Qw J J J (Qw J J J (Qw J J J (Q7 J J J J (Qv J J J (Qj (hK _ _ (Qz (Q4 ?_))))))));clear hK K;refine Q1 [_] rfl (QX J QZ) (by unfold okCoeffs;rw [decide_eq_false h];rfl) J
theorem govalidCoeffs:InGo Tryz.prog 137:=InGo.of Tryz.func137 (by kernel_rfl) (by kernel_rfl)
end Go.Proofs.YtojkdfilabmafaaGreat
namespace Go.Own
variable {X : Ctx} {L : AL} {B : BL} {ops : Array Oper} {K : Act → World → Prop} {r : Pl} {k : Kd}
  {x y z : Operand} {d : Nat} {t t2 t' : TypeId} {pos : String} {af : Array Edge} {g : Option (Nat × Bool)}
theorem XY{l:Pl}(dd i m:Nat){el n:Nat}{cs:List CT}(hd:look L dd=some (.own i))(hi:bget B i=some (.row el n cs))(hl:cs.length=m*n)(hm:0<m)(hp:0<n)
    (h:∀gb c,m≤c→c≤maxLen→Ops X ops l ((dd, .ct (.ex (.slice (some ⟨gb,0,none⟩) m c)))::L) (bset B i (.rowx (.slice (some ⟨gb,0,none⟩) m c) el n cs)) K):Ops X ops l L B K:=Fin.nameS dd i m hd hi hl hm hp h
theorem Ops.weakX{l:Pl}(i:Nat){v:Value}{el n:Nat}{cs:List CT}(ds:List CT)(hi:bget B i=some (.rowx v el n cs))(hw:argW cs ds)(h:Ops X ops l L (bset B i (.rowx v el n ds)) K):Ops X ops l L B K:=fun a ρ w hI=>by
  refine h a ρ w (hI.retype hi ?_ rfl)
  obtain ⟨h1,n',vs,h2,h3⟩:=(hI.ent i _ hi).1
  exact ⟨h1,n',vs,h2,hw.cells h3⟩
theorem Y9{L' :AL}{B' :BL}(hB:∀j,bget B' j=bget B j)(h:subL L L'):Entails X L B L' B' :=fun _ ρ _ hI=>⟨ρ,(hI.subL h).bext hB⟩
theorem Z0(B:BL)(i:Nat)(e e' :Ent):bset ((i,e)::B) i e' =(i,e')::B:=by simp [bset]
end Go.Own
namespace Go.Proofs.YtojkdfilabmafaaGreat
open Go.Own Go.Limbs
def rng (a n : Nat) : List Int := (List.range n).map (fun i => ((a + i : Nat) : Int))
theorem X0(a n:Nat):(rng a n).length=n:=by simp [rng]
theorem Zh(a n:Nat):rng a (n+1)=rng a n++ [((a+n:Nat):Int)]:=by simp [rng,List.range_succ]
theorem ZU(xs ys:List Int):ints (xs++ys)=ints xs++ints ys:=by simp [ints]
def lnOf (n : Nat) (cs : List Int) (b : Int) : List Int := (List.range n).map (fun j => cs.getD j 0) ++ [b]
def lnP (n : Nat) (cs : List Int) (q : Nat) : List Int := (List.range (n + 1)).map (fun j => if j < q then cs.getD j 0 else 0)
theorem lnP_len(n:Nat)(cs:List Int)(q:Nat):(lnP n cs q).length=n+1:=by simp [lnP]
theorem lnP_zero(n:Nat)(cs:List Int):lnP n cs 0=List.replicate (n+1) 0:=by
  unfold lnP;rw [show (fun j=>if j<0 then cs.getD j 0 else 0)=fun _=>(0:Int) by funext j;rw [if_neg (by omega)],List.map_const',List.length_range]
theorem lnP_set(n:Nat)(cs:List Int)(q:Nat)(h:q<n+1):(lnP n cs q).set q (cs.getD q 0)=lnP n cs (q+1):=by
  unfold lnP;refine YY _ _ _ q _ h (fun j hj=> ?_);by_cases e:j=q
  · subst e;rw [if_pos rfl,if_pos (by omega)]
  · rw [if_neg e];by_cases h2:j<q
    · rw [if_pos h2,if_pos (by omega)]
    · rw [if_neg h2,if_neg (by omega)]
theorem lnP_done(n:Nat)(cs:List Int)(b:Int)(h:cs.length≤n):(lnP n cs cs.length).set n b=lnOf n cs b:=by
  unfold lnP lnOf
  have e:(List.range (n+1)).map (fun j=>if j<cs.length then cs.getD j 0 else 0)=(List.range n).map (fun j=>cs.getD j 0)++ [cs.getD n 0]:=by
    rw [List.range_succ,List.map_append]
    congr 1
    · apply List.map_congr_left
      intro j _;split
      · rfl
      · rw [getD_ge (by omega)]
    · rw [List.map_singleton,if_neg (by omega),getD_ge h]
  rw [e,List.set_append_right _ _ (by simp)];simp
theorem whs_zero(m:Nat):argW (zinit (.agg #[.bool false, .slice none 0 0]) m) (whs (List.replicate m 0)):=by
  induction m with
  |zero=>exact trivial
  |succ m ih=>
    have e1:zinit (.agg #[.bool false, .slice none 0 0]) (m+1)=CT.ex (.bool false)::CT.ex (.slice none 0 0)::zinit (.agg #[.bool false, .slice none 0 0]) m:=by unfold zinit;rw [List.replicate_succ];rfl
    have e2:whs (List.replicate (m+1) 0)=boolC false::intsC []::whs (List.replicate m 0):=by
      rw [List.replicate_succ];show boolC (decide ((0:Int)<0))::natC 0::whs (List.replicate m 0)=_;rw [natC_zero];rfl
    rw [e1,e2];exact ⟨Yk,YQ,ih⟩
theorem lines_snoc:∀(k:Nat) (hl:List Value) (zs:List (List Int)) (h:Value) (y:List Int),hl.length=zs.length→∀j,bget (linesB k (hl++ [h]) (zs++ [y])) j=bget ((hl.length+k, .rowx h 211 2 (whs y))::linesB k hl zs) j
  |k,[],[],h,y,_,j=>by simp [linesB]
  |k,a::hl,z::zs,h,y,he,j=>by
    have ih:=lines_snoc (k+1) hl zs h y (by simpa using he) j
    have e:linesB k ((a::hl)++ [h]) ((z::zs)++ [y])=(k, .rowx a 211 2 (whs z))::linesB (k+1) (hl++ [h]) (zs++ [y]):=rfl
    rw [e]
    by_cases h1:k=j
    · subst h1
      rw [Qd,QU _ _ (by simp),linesB,Qd]
    · rw [QU _ _ h1,ih]
      by_cases h2:hl.length+(k+1)=j
      · subst h2
        rw [Qd,show (a::hl).length+k=hl.length+(k+1) by simp;omega,Qd]
      · rw [QU _ _ h2,QU _ _ (by simp;omega),linesB,QU _ _ h1]
  |_,[],_::_,_,_,he,_=>by simp at he
  |_,_::_,[],_,_,he,_=>by simp at he
end Go.Proofs.YtojkdfilabmafaaGreat
