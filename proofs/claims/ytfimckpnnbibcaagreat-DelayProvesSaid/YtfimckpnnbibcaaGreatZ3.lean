/- The proof that DelayProves holds for every input, without conditions: part 3 of 7. -/
import Derived.Test.YtfimckpnnbibcaaGreatZ2
set_option maxHeartbeats 32000000
set_option maxRecDepth 100000
namespace Go.Proofs.YtfimckpnnbibcaaGreat
open Go.Limbs Go.Own Go.Proofs.Tryz
attribute [local irreducible] Go.Own.Fin Ok Ops St
theorem top_step{A:List Int}{i:Nat}{vo rest b:Int}(hv:vo*b+rest*BB ^ (i+1)=val A - pre A (i+1)):
  (vo+(rest*1073741824+A.getD i 0)/b*BB ^ i)*b+(rest*1073741824+A.getD i 0)%b*BB ^ i=val A - pre A i:=by
 rw [XQ,Int.pow_succ] at hv;have e:=Int.mul_ediv_add_emod (rest*1073741824+A.getD i 0) b;simp only [BB] at*;generalize (rest*1073741824+A.getD i 0)/b=q at*;generalize (rest*1073741824+A.getD i 0)%b=m at*
 grind
theorem small_ok(a:Nat)(b:Int)(hb:0<b)(hb2:b<BB)(hl:(limbs a).length<=256):Ok prog 235 [natC a,intC b] (.tup [natC ((a:Int)/b).toNat,intC ((a:Int)%b)]):=by
 simp only [BB] at hb2
 refine Ok.enter func235 J _ ntmps235 J ?_
 intro S w;refine Qj 9 J (QV sNat.und J (ZV 0 (limbs a).length J J J J sNat (by omega) (by omega) J J J ?_));rw [ints_made];refine Qq 12 J (QV sNat.und J (QZ 5 J (by omega) ?_))
 refine QY (α:=Nat × List Int × Int) (fun s=>s.1<=(limbs a).length/\ s.2.1.length=(limbs a).length/\ OKL s.2.1/\ (∀j,j<s.1 ->s.2.1.getD j 0=0)/\ 0<=s.2.2/\ s.2.2<b/\ val s.2.1*b+s.2.2*BB ^ s.1=val (limbs a) - pre (limbs a) s.1)
  (fun s=>[(0, .ct (natC a)),(1, .ct (intC b)),(6, .own 0),(7, .ct (intC s.2.2)),(8, .ct (intC ((s.1:Int) - 1)))])
  (fun s=>[(0, .row 3 1 (ints s.2.1))]) (fun s=>s.1) ((limbs a).length,List.replicate (limbs a).length 0,0) ⟨Nat.le_refl _,by simp,OKL.zeros _,?_,Int.le_refl _,hb,?_⟩ (by exact Qx J) ?_
 · intro j _;simp [List.getD_eq_getElem?_getD,List.getElem?_replicate];split <;>rfl
 · dsimp only;rw [Yg,ZZ (Nat.le_refl _)];simp
 rintro ⟨q,zs,rest⟩ ⟨hq,hzl,hok,hz,hr0,hr1,hv⟩
 dsimp only at hq hzl hok hz hr0 hr1 hv ⊢;refine Qj 7 J (Qy J (fun h=> ?_) (fun h=> ?_))
 · obtain ⟨i,rfl⟩:∃i,q=i+1:=⟨q - 1,by omega⟩
   have e1:(((i+1:Nat):Int) - 1)=(i:Int):=by omega
   have e2:(i:Int).toNat=i:=Int.toNat_natCast i
   have e3:(i:Int).toNat*1=i:=by omega
   have bx:=(Qr a).get i;simp only [BB] at bx;rw [e1];refine Qj 7 J (Qh (ishl30 (by omega) (by omega)) J J J J ?_);refine Qq 2 J (Q8 0 sNat J (by omega) ?_);refine Qq 1 J ?_
   rw [e2]
   refine Qh (ior30 (by omega) (by omega) (by omega) (by omega)) J J J J ?_;refine Qq 3 J (XY 9 0x800a69080706050403020100 J ?_);refine QZ 8 J (by omega) ?_;refine Qf (limbs a).length J J J (by simp;omega) J sNat (by omega) (by omega) J ?_
   rw [e3]
   refine Qa J J J J J zInt (by simp [Ent.cs];omega) ?_
   simp only [Ent.setc,Zz];refine QZ 9 J (by omega) ?_;have d1:0<=(rest*1073741824+(limbs a).getD i 0)/b:=Int.ediv_nonneg (by omega) (by omega)
   have d2:(rest*1073741824+(limbs a).getD i 0)/b<1073741824:=by
    apply Int.ediv_lt_of_lt_mul hb
    have:(rest+1)*1073741824<=b*1073741824:=Int.mul_le_mul_of_nonneg_right (by omega) (by decide);rw [Int.mul_comm 1073741824 b];omega
   have d3:=Int.emod_nonneg (rest*1073741824+(limbs a).getD i 0) (b:=b) (by omega);have d4:=Int.emod_lt_of_pos (rest*1073741824+(limbs a).getD i 0) hb;refine Qk (i,zs.set i ((rest*1073741824+(limbs a).getD i 0)/b),(rest*1073741824+(limbs a).getD i 0)%b) (by dsimp only;omega) ⟨by dsimp only;omega,by simp [hzl],?_,?_,d3,d4,?_⟩ (by exact Qx J)
   all_goals dsimp only
   · exact hok.set _ (by simp only [BB];omega)
   · intro j hj;rw [getD_set (by omega),if_neg (by omega)];exact hz j (by omega)
   · rw [JQ (by omega),hz i (by omega),Int.sub_zero];exact top_step hv
 · have hq0:q=0:=by omega
   subst hq0
   have e4:val zs*b+rest=a:=by rw [ZQ,X1] at hv;simpa using hv
   have e5:(a:Int)/b=val zs/\ (a:Int)%b=rest:=by
    rw [<- e4];constructor
    · rw [Int.add_comm,Int.add_mul_ediv_right _ _ (by omega),Int.ediv_eq_zero_of_lt hr0 hr1];omega
    · rw [Int.add_comm,Int.add_mul_emod_self_right,Int.emod_eq_of_lt hr0 hr1]
   rw [e5.1,e5.2];refine Qj 5 J (Zw 0 _ J (X2 _ _) noBor_sub (Qv (gT J) (trim_ok _ (by omega)) J ?_));rw [Zk hok];refine Qq 6 J ?_;refine Qw J J
theorem ints_ones(xs:List Int):ones (xs.map intC)=true:=by
 induction xs with
 |nil=>rfl
 |cons x xs ih=>simp [ones,CT.one,Value.oneCell',ih]
theorem Clone_ok(xs:List Int)(hl:xs.length<=1000000):Ok prog 156 [intsC xs] (intsC xs):=by
 refine Ok.enter func156 J _ ntmps156 J ?_
 intro S w;refine Qj 9 J (Ops.eqNil J J sNat.und J (fun b hb=> ?_));refine Qq 2 J (Xx J (fun h=> ?_) (fun h=> ?_))
 · have h0:=hb h
   have:xs=[]:=by simpa using h0
   subst this;refine Qj 6 J ?_;refine X5 [_] rfl (AllRes.nilS 1 J Q3) J J
 · clear hb h;refine Qj 4 J (Ops.lit0E 0 J J J sNat J J J (Qq 1 J (Ops.append 0 (ints xs) J J J J sNat J ?_ (by simp;omega) (by simp;omega) ?_ J ?_)))
   · rw [flat_one];exact ints_ones xs
   · rw [flat_one];rfl
   refine Qq 4 J (Jq 0 _ J (X2 _ _) noBor_sub (Qw J J))
theorem natC_zero:natC 0=intsC []:=by show intsC (limbs 0)=intsC [];rw [limbs_zero]
theorem limbs_one{b:Nat}(h0:0<b)(h:b<1073741824):limbs b=[(b:Int)]:=by
 rw [limbs_pos (by omega),Nat.mod_eq_of_lt h,Nat.div_eq_of_lt h,limbs_zero]
theorem DivMod_small(a b:Nat)(h0:0<b)(hb:b<1073741824)(hl:(limbs a).length<=256):Ok prog 202 [natC a,natC b] (.tup [natC (a/b),natC (a%b),intC 0]):=by
 have hlb:(limbs b).length=1:=by rw [limbs_one h0 hb];rfl
 refine Ok.enter func202 J _ ntmps202 J ?_
 intro S w;refine Qj 10 J (Qv (gT J) (trim_ok _ (by omega)) J ?_);rw [trim_of_limbs];refine Qq 6 J (QV sNat.und J (Qq 12 J (Qy J (fun h=> ?_) (fun h=> ?_))))
 · omega
 clear h;refine Qj 4 J (Qv (gT J) (Compare_ok a b (by omega) (by omega)) J ?_);refine Qq 4 J (Qy J (fun h=> ?_) (fun h=> ?_))
 · have hlt:a<b:=by
    rw [cmpI_eq] at h;split at h
    · omega
    · split at h <;>omega
   refine Qj 3 J (Qv (gT J) (Clone_ok _ (by omega)) J ?_);refine Qq 6 J ?_;rw [Nat.div_eq_of_lt hlt,Nat.mod_eq_of_lt hlt,natC_zero];refine X5 [_,_,_] rfl (AllRes.nilS 1 J (Q4 J (Q4 J Q3))) J J
 clear h;refine Qj 7 J (Qy J (fun h=> ?_) (fun h=> ?_))
 · have e0:(limbs b).getD (0:Int).toNat 0=b:=by rw [limbs_one h0 hb];rfl
   refine Qj 4 J (Q8 0 sNat J (by omega) ?_);refine Qq 1 J ?_
   rw [e0]
   refine Qv (gT J) (small_ok a b (by omega) (by simp only [BB];omega) hl) J ?_
   have e1:((a:Int)/(b:Int)).toNat=a/b:=by rw [<- Int.natCast_ediv,Int.toNat_natCast]
   rw [e1];refine Qq 11 J (Qo J J sNat J J J (Qv (gT J) (trim_ok [(a:Int)%b] (by simp)) J ?_))
   have e2:trimL [(a:Int)%b]=limbs (a%b):=by
    have hm:=Nat.mod_lt a h0;rw [Zk (OKL.cons (by simp only [BB];omega) OKL.nil)];simp only [val];congr 1
   rw [e2];refine Qq 6 J ?_;refine Qw J J
 · omega
theorem Gcd_small(a b:Nat)(hb:b<1073741824)(hl:(limbs a).length<=256):Ok prog 233 [natC a,natC b] (natC (Nat.gcd a b)):=by
 have hlb:(limbs b).length<=1:=Q6 (k:=1) (by omega)
 refine Ok.enter func233 J _ ntmps233 J ?_
 intro S w;refine Qj 9 J (Qv (gT J) (Clone_ok _ (by omega)) J ?_);refine Qq 1 J (Qv (gT J) (Clone_ok _ (by omega)) J ?_);refine Qq 5 J ?_
 refine QY (α:=Nat × Nat) (fun s=>s.2<1073741824/\ (limbs s.1).length<=256/\ Nat.gcd s.1 s.2=Nat.gcd a b)
  (fun s=>[(0, .ct (natC s.1)),(1, .ct (natC s.2))]) (fun _=>[]) (fun s=>s.2) (a,b) ⟨hb,hl,rfl⟩ (by exact Qx J) ?_
 rintro ⟨p,q⟩ ⟨hq,hp,hg⟩
 dsimp only at hq hp hg ⊢;refine Qj 4 J (QV sNat.und J (Qq 3 J (Qy J (fun h=> ?_) (fun h=> ?_))))
 · have hq0:0<q:=by
    rcases Nat.eq_zero_or_pos q with h0|h0
    · subst h0;rw [limbs_zero] at h;simp at h
    · exact h0
   refine Qj 7 J (Qv (gT J) (DivMod_small p q hq0 hq hp) J (Qq 26 J ?_));have hm:=Nat.mod_lt p hq0;refine Qk (q,p%q) hm ⟨by dsimp only;omega,?_,?_⟩ (by exact Qx J)
   · have:=Q6 (n:=q) (k:=1) (by omega);dsimp only;omega
   · dsimp only;rw [<- hg,Nat.gcd_comm,<- Nat.gcd_rec,Nat.gcd_comm]
 · have hq0:q=0:=limbs_nil (List.eq_nil_of_length_eq_zero (by omega))
   have e:p=Nat.gcd a b:=by rw [<- hg,hq0,Nat.gcd_zero_right]
   rw [<- e];refine Qj 9 J ?_;refine Qw J J
abbrev u64C (x : Int) : CT := .ex (.int .u64 x)
theorem uStr:prog.underlying 9=some .string:=underlying9
theorem uIntB:prog.underlying 3=some (.int .i64):=underlying3
theorem uU8B:prog.underlying 5=some (.int .u8):=underlying5
theorem uUintB:prog.underlying 137=some (.int .u64):=underlying137
theorem uU64B:prog.underlying 220=some (.int .u64):=underlying220
theorem wrap_u8{n:Int}(h1:0<=n)(h2:n<256):IntKind.u8.wrap n=n:=by
 rw [show IntKind.u8.wrap n=n%256 by simp [IntKind.wrap,IntKind.bits,IntKind.signed]];omega
def bln (n : Nat) : Nat := if 65536 ≤ n then (if 256 ≤ n / 65536 then 24 + bl (n / 65536 / 256) else 16 + bl (n / 65536)) else if 256 ≤ n then 8 + bl (n / 256) else bl n
theorem bln_spec{n:Nat}(h0:0<n)(h:n<1073741824):1<=bln n/\ bln n<=30/\ n<2 ^ bln n:=by
 have pos:∀m,0<m ->1<=bl m:=fun m hm=>by unfold bl;rw [if_neg (by omega)];omega
 unfold bln;split
 · split
   · have h1:=bl_spec (n/65536/256);have h2:=pos (n/65536/256) (by omega)
     have h3:bl (n/65536/256)<=6:=by
      unfold bl;rw [if_neg (by omega)];have:Nat.log2 (n/65536/256)<6:=(Nat.log2_lt (by omega)).2 (by omega);omega
     refine ⟨by omega,by omega,?_⟩;rw [Nat.pow_add]
     have:n<(n/65536/256+1)*16777216:=by omega
     exact Nat.lt_of_lt_of_le this (by rw [Nat.mul_comm];exact Nat.mul_le_mul (by decide) h1)
   · have h1:=bl_spec (n/65536);have h2:=pos (n/65536) (by omega);have h3:=bl_lt (n:=n/65536) (by omega);refine ⟨by omega,by omega,?_⟩;rw [Nat.pow_add]
     have:n<(n/65536+1)*65536:=by omega
     exact Nat.lt_of_lt_of_le this (by rw [Nat.mul_comm];exact Nat.mul_le_mul (by decide) h1)
 · split
   · have h1:=bl_spec (n/256);have h2:=pos (n/256) (by omega);have h3:=bl_lt (n:=n/256) (by omega);refine ⟨by omega,by omega,?_⟩;rw [Nat.pow_add]
     have:n<(n/256+1)*256:=by omega
     exact Nat.lt_of_lt_of_le this (by rw [Nat.mul_comm];exact Nat.mul_le_mul (by decide) h1)
   · have h1:=bl_spec n;have h3:=bl_lt (n:=n) (by omega);exact ⟨pos n h0,by omega,h1⟩
theorem Len64_ok(n:Nat)(h1:n<1073741824):Ok prog 135 [u64C n] (intC (bln n)):=by
 refine Ok.enter func135 J _ ntmps135 J ?_
 intro S w;refine Qj 12 J ?_;refine Qy J (fun h=>by exfalso;omega) (fun _=> ?_);refine Qj 9 J ?_;refine Qy J (fun ha=> ?_) (fun ha=> ?_)
 · refine Qj 3 J (Qh (ushr 16 J (by decide)) J J J J ?_);rw [show (n:Int)/2 ^ 16=((n/65536:Nat):Int) by omega];refine QZ 16 J (by omega) ?_;refine Qy J (fun hb=> ?_) (fun hb=> ?_)
   · refine Qj 3 J (Qh (ushr 8 J (by decide)) J J J J ?_);rw [show ((n/65536:Nat):Int)/2 ^ 8=((n/65536/256:Nat):Int) by omega];refine QZ 13 J (by omega) ?_;have hb3:=bl_lt (n:=n/65536/256) (by omega)
     refine Z0 (q:=((n/65536/256:Nat):Int)) J J uU64B uU8B (wrap_u8 (by omega) (by omega)) J ?_;refine Ops.idxTab (n/65536/256) J J J uStr J (by omega) (by kernel_rfl) J ?_;refine Z0 (q:=(bl (n/65536/256):Int)) J J uU8B uIntB (Zi (by omega) (by omega)) J ?_;refine QZ 5 J (by omega) ?_;refine Qw J (by unfold bln;rw [if_pos (by omega),if_pos (by omega)];congr 2)
   · refine Qj 6 J ?_;have hb3:=bl_lt (n:=n/65536) (by omega)
     refine Z0 (q:=((n/65536:Nat):Int)) J J uU64B uU8B (wrap_u8 (by omega) (by omega)) J ?_;refine Ops.idxTab (n/65536) J J J uStr J (by omega) (by kernel_rfl) J ?_;refine Z0 (q:=(bl (n/65536):Int)) J J uU8B uIntB (Zi (by omega) (by omega)) J ?_;refine QZ 5 J (by omega) ?_;refine Qw J (by unfold bln;rw [if_pos (by omega),if_neg (by omega)];congr 2)
 · refine Qj 9 J ?_;refine Qy J (fun hb=> ?_) (fun hb=> ?_)
   · refine Qj 3 J (Qh (ushr 8 J (by decide)) J J J J ?_);rw [show (n:Int)/2 ^ 8=((n/256:Nat):Int) by omega];refine QZ 13 J (by omega) ?_;have hb3:=bl_lt (n:=n/256) (by omega)
     refine Z0 (q:=((n/256:Nat):Int)) J J uU64B uU8B (wrap_u8 (by omega) (by omega)) J ?_;refine Ops.idxTab (n/256) J J J uStr J (by omega) (by kernel_rfl) J ?_;refine Z0 (q:=(bl (n/256):Int)) J J uU8B uIntB (Zi (by omega) (by omega)) J ?_;refine QZ 5 J (by omega) ?_;refine Qw J (by unfold bln;rw [if_neg (by omega),if_pos (by omega)];congr 2)
   · refine Qj 6 J ?_;have hb3:=bl_lt (n:=n) (by omega)
     refine Z0 (q:=(n:Int)) J J uU64B uU8B (wrap_u8 (by omega) (by omega)) J ?_;refine Ops.idxTab n J J J uStr J (by omega) (by kernel_rfl) J ?_;refine Z0 (q:=(bl n:Int)) J J uU8B uIntB (Zi (by omega) (by omega)) J ?_;refine QZ 5 J (by omega) ?_;refine Qw J (by unfold bln;rw [if_neg (by omega),if_neg (by omega)];exact congrArg intC (by omega))
theorem Len_ok(n:Nat)(h1:n<1073741824):Ok prog 83 [u64C n] (intC (bln n)):=by
 refine Ok.enter func83 J _ ntmps83 J ?_
 intro S w;refine Qj 12 J (Qv (gT J) (Len64_ok n h1) J (Qq 4 J ?_));refine Qw J J
theorem guess_ok(h n t l s:Int)(hh0:0<=h)(hh:h<=l)(hl0:0<l)(hl:l<1073741824)(hn0:0<=n)(hn:n<1073741824)(ht0:0<=t)(ht:t<1073741824)(hs0:0<=s)(hs:s<1073741824):
  Ok prog 237 [intC h,intC n,intC t,intC l,intC s] (intC (gs h n t l s)):=by
 refine Ok.enter func237 J _ ntmps237 J ?_
 intro S w;refine Qj 8 J (Qh (ishl30 (by omega) (by omega)) J J J J ?_);refine Qq 1 J (Qh (ior30 (by omega) (by omega) (by omega) (by omega)) J J J J ?_);refine Qq 4 J (XY 8 0x800706050403020100 J ?_);refine QZ 12 J (by omega) ?_;have e0:=Int.mul_ediv_add_emod (h*1073741824+n) l;have e1:=Int.emod_nonneg (h*1073741824+n) (b:=l) (by omega);have e2:=Int.emod_lt_of_pos (h*1073741824+n) hl0;have e3:0<=(h*1073741824+n)/l:=Int.ediv_nonneg (by omega) (by omega)
 have e4:(h*1073741824+n)/l<=2147483648:=by
  have:(h*1073741824+n)/l<2147483649:=by
   apply Int.ediv_lt_of_lt_mul hl0
   have:h*1073741824<=l*1073741824:=Int.mul_le_mul_of_nonneg_right hh (by decide);omega
  omega
 have e5:gs h n t l s<=(h*1073741824+n)/l:=by
  unfold gs
  have:(h*1073741824*1073741824+n*1073741824+t)/(l*1073741824+s)<(h*1073741824+n)/l+1:=by
   apply Int.ediv_lt_of_lt_mul (by omega)
   generalize (h*1073741824+n)/l=q at*
   have f1:(q+1)*(l*1073741824+s)=(l*q)*1073741824+l*1073741824+(q+1)*s:=by grind
   have f2:0<=(q+1)*s:=Int.mul_nonneg (by omega) hs0;rw [f1];omega
  omega
 generalize (h*1073741824+n)/l=q0 at*;generalize (h*1073741824+n)%l=r0 at*
 refine QY (α:=Int × Int) (fun p=>0<=p.1/\ p.1<=2147483648/\ 0<=p.2/\ p.2<2147483648/\ p.1*l+p.2=h*1073741824+n/\ gs h n t l s<=p.1)
  (fun p=>[(2, .ct (intC t)),(3, .ct (intC l)),(4, .ct (intC s)),(12, .ct (intC p.1)),(13, .ct (intC p.2))]) (fun _=>[]) (fun p=>(1073741824 - p.2).toNat) (q0,r0)
  ⟨e3,e4,e1,by dsimp only;omega,by rw [Int.mul_comm];exact e0,e5⟩ (by exact Qx J) ?_
 rintro ⟨q,r⟩ ⟨hq0,hq1,hr0,hr1,hv,hg⟩
 dsimp only at hq0 hq1 hr0 hr1 hv hg ⊢
 have hqs:0<=q*s/\ q*s<=2305843009213693952:=⟨Int.mul_nonneg hq0 hs0,by
  have:q*s<=2147483648*1073741824:=Int.mul_le_mul hq1 (by omega) hs0 (by decide)
  omega⟩
 have stop:¬(r<1073741824/\ (1073741824<=q \/r*1073741824+t<q*s)) ->q=gs h n t l s:=fun hc=>gs_exit hl0 hh hn ht0 hs0 hs hq0 hv hg hc
 have go:r<1073741824 ->(1073741824<=q \/r*1073741824+t<q*s) ->gs h n t l s<=q - 1:=fun _ hc=>gs_step hl0 hs0 hv hg hc
 have hv' :(q - 1)*l+(r+l)=h*1073741824+n:=by rw [Int.sub_mul];omega
 have gs0:0<=gs h n t l s:=by
  unfold gs;have:0<=(h*1073741824*1073741824+n*1073741824+t)/(l*1073741824+s):=Int.ediv_nonneg (by omega) (by omega);omega
 refine Qj 6 J (QQ 26 J (fun h1=> ?_) (fun h1=> ?_))
 · refine Qq 3 J (QQ 29 J (fun h2=> ?_) (fun h2=> ?_))
   · refine QZ 26 J (by omega) ?_;have hg' :=go h1 (.inl h2);refine Qk (q - 1,r+l) (by dsimp only;omega) ⟨by dsimp only;omega,by dsimp only;omega,by dsimp only;omega,by dsimp only;omega,hv',hg'⟩ (by exact Qx J)
   · refine QZ 4 J (by omega) ?_;refine Qh (ishl30 (by omega) (by omega)) J J J J ?_;refine Qq 1 J (Qh (ior30 (by omega) (by omega) (by omega) (by omega)) J J J J ?_);refine Qq 5 J ?_;refine Qy J (fun h3=> ?_) (fun h3=> ?_)
     · refine Xz 13 J (by omega) ?_;have hg' :=go h1 (.inr h3);refine Qk (q - 1,r+l) (by dsimp only;omega) ⟨by dsimp only;omega,by dsimp only;omega,by dsimp only;omega,by dsimp only;omega,hv',hg'⟩ (by exact Qx J)
     · have e:=stop (fun hc=>by rcases hc.2 with hc|hc <;>omega);refine Qj 9 J ?_;refine Qw J (by rw [e];rfl)
 · have e:=stop (fun hc=>h1 hc.1);refine Qq 25 J ?_;refine Qw J (by rw [e];rfl)
theorem uBool:prog.underlying 4=some .bool:=underlying4
theorem zvFrac:(prog.info? 54).map (·.zero)=some (some (.agg #[.bool false, .slice none 0 0, .slice none 0 0])):=by kernel_rfl
theorem lFrac:LdN prog 54 3:=LdN.of _ underlying54 rfl (by kernel_rfl)
theorem Zs:(prog.info? 54).map (·.size)=some 3:=by kernel_rfl
structure Fr where
  neg : Bool
  num : Nat
  den : Nat
abbrev frCs (f : Fr) : List CT := [boolC f.neg, natC f.num, natC f.den]
abbrev fracC (f : Fr) : CT := .agg (frCs f)
abbrev fracsC (fs : List Fr) : CT := .fr (sliceT 3 (fs.map frCs))
theorem limbs_len_pos{n:Nat}:0<(limbs n).length↔n≠0:=by
 constructor
 · intro h h0;subst h0;rw [limbs_zero] at h;simp at h
 · intro h;rw [limbs_pos h];simp
theorem limbs_len_posI{n:Nat}:decide ((limbs n).length>(0:Int))=decide (n≠0):=by
 rw [decide_eq_decide,<- limbs_len_pos];omega
theorem magnitude_ok(n:Int)(h1: -9223372036854775808<=n)(h2:n<=9223372036854775807):Ok prog 215 [intC n] (natC n.natAbs):=by
 refine Ok.enter func215 rfl _ ntmps215 rfl ?_
 intro S w
 refine Qj 12 rfl ?_;refine Qy rfl (fun h=> ?_) (fun h=> ?_)
 · refine Xz 5 rfl (by omega) ?_
   refine Ops.max2 rfl rfl rfl rfl (Qq 6 rfl ?_)
   rw [show max n (-n)=(n.natAbs:Int) by omega]
   refine Qv (gT J) (From_ok n.natAbs (by omega)) rfl ?_
   refine Qq 14 rfl ?_;refine Qw J rfl
 · refine Qj 4 J (Qv (gT J) (From_ok 4611686018427387904 (by omega)) rfl ?_)
   refine Qq 11 rfl (Qv (gT J) (Add_list _ _ ?_ ?_ (Qr _) (Qr _)) rfl ?_)
   · exact Nat.le_trans (Q6 (k:=3) (by decide)) (by decide)
   · exact Nat.le_trans (Q6 (k:=3) (by decide)) (by decide)
   rw [X1]
   refine Qq 14 rfl ?_
   refine X5 [_] rfl (Q4 rfl Q3) (by congr 1;have:n.natAbs=9223372036854775808:=by omega
                                     rw [this];rfl) rfl
def sumN (n1 : Bool) (a : Nat) (n2 : Bool) (b : Nat) : Nat := if n1 = n2 then a + b else if a < b then b - a else a - b
def sumS (n1 : Bool) (a : Nat) (n2 : Bool) (b : Nat) : Bool := if n1 = n2 then n1 else if a < b then n2 else n1
def redF (neg : Bool) (a b : Nat) : Fr := ⟨neg && decide (a / Nat.gcd a b ≠ 0), a / Nat.gcd a b, b / Nat.gcd a b⟩
theorem reduced_small(neg:Bool)(a b:Nat)(h0:0<b)(hb:b<1073741824)(hl:(limbs a).length<=256):Ok prog 201 [boolC neg,natC a,natC b] (fracC (redF neg a b)):=by
 have hg0:0<Nat.gcd a b:=Nat.gcd_pos_of_pos_right _ h0;have hg1:Nat.gcd a b<=b:=Nat.gcd_le_right _ h0;have hlb:(limbs b).length<=1:=Q6 (k:=1) (by omega)
 refine Ok.enter func201 J _ ntmps201 J ?_
 intro S w;have e0:redF neg a b=⟨neg&&decide (a/Nat.gcd a b≠0),a/Nat.gcd a b,b/Nat.gcd a b⟩:=rfl;rw [e0];clear e0;have h1:=Gcd_small a b hb hl;generalize Nat.gcd a b=g at*;refine Qj 9 J (Qv (gT J) h1 J (Qq 7 J (Qv (gT J) (DivMod_small a g hg0 (by omega) hl) J ?_)));refine Qq 13 J (Qv (gT J) (DivMod_small b g hg0 (by omega) (by omega)) J ?_);refine Qq 13 J (Xk 32 J (fun h=> ?_) (fun h=> ?_))
 · refine Qq 1 J (QV sNat.und J (Qq 9 J ?_));refine Qw J (by rw [<- limbs_len_posI,h];rfl)
 · refine Qq 11 J ?_;refine Qw J (by rw [h];rfl)
def sg (n : Bool) (a : Nat) : Int := if n then -(a : Int) else a
def ofQ (q : Rat) : Fr := ⟨decide (q.num < 0), q.num.natAbs, q.den⟩
abbrev ratC (q : Rat) : CT := fracC (ofQ q)
theorem sg_natAbs(x:Int):sg (decide (x<0)) x.natAbs=x:=by
 unfold sg;split
 · rename_i h;simp at h;omega
 · rename_i h;simp at h;omega
theorem natAbs_sg(n:Bool)(a:Nat):(sg n a).natAbs=a:=by unfold sg;split <;>omega
theorem sg_mul(n:Bool)(a b:Nat):sg n (a*b)=sg n a*b:=by
 unfold sg;split
 · rw [Int.natCast_mul,Int.neg_mul]
 · rw [Int.natCast_mul]
theorem ofQ_sg(q:Rat):sg (ofQ q).neg (ofQ q).num=q.num:=sg_natAbs _
theorem redF_q(n:Bool)(a b:Nat)(hb:0<b):redF n a b=ofQ (mkRat (sg n a) b):=by
 have hb' :b≠0:=by omega
 have hg:0<Nat.gcd a b:=Nat.gcd_pos_of_pos_right _ hb;rw [Rat.mkRat_def,dif_neg hb',Rat.normalize_eq];unfold redF ofQ;simp only [natAbs_sg];have hd:(Nat.gcd a b:Int) ∣ (a:Int):=Int.natCast_dvd_natCast.mpr (Nat.gcd_dvd_left a b)
 have e1:(sg n a/(Nat.gcd a b:Int))=sg n (a/Nat.gcd a b):=by
  unfold sg;split
  · rw [Int.neg_ediv_of_dvd hd,Int.natCast_ediv]
  · rw [Int.natCast_ediv]
 rw [e1,natAbs_sg]
 congr 1
 generalize a/Nat.gcd a b=c;unfold sg;cases n
 · simp
 · show (true&&decide (c≠0))=decide (-(c:Int)<0);rw [Bool.true_and,decide_eq_decide];omega
theorem sum_sg(n1:Bool)(a:Nat)(n2:Bool)(b:Nat):sg (sumS n1 a n2 b) (sumN n1 a n2 b)=sg n1 a+sg n2 b:=by
 unfold sumS sumN sg
 by_cases h:a<b <;>cases n1 <;>cases n2 <;>simp [h] <;>omega
theorem from_redF(n d:Int)(hd:d≠0):redF (decide (n<0) !=decide (d<0)) n.natAbs d.natAbs=ofQ (Rat.divInt n d):=by
 rw [redF_q _ _ _ (by omega)]
 congr 1
 have e:sg (decide (n<0) !=decide (d<0)) n.natAbs=if d<0 then -n else n:=by
  unfold sg
  by_cases h1:n<0 <;>by_cases h2:d<0 <;>simp [h1,h2] <;>omega
 rw [e];rcases d with d|d
 · rw [if_neg (by simp)];rfl
 · rw [if_pos (by omega)];show mkRat (-n) (d+1)=Rat.normalize (-n) (d+1) (by omega);rw [Rat.normalize_eq_mkRat]
theorem mul_len{a b:Nat}{i j:Nat}(ha:(limbs a).length<=i)(hb:(limbs b).length<=j):(limbs (a*b)).length<=i+j:=by
 have:=XZ (a:=a) (b:=b);omega
theorem sumN_len{n1 n2:Bool}{a b i:Nat}(ha:(limbs a).length<=i)(hb:(limbs b).length<=i):(limbs (sumN n1 a n2 b)).length<=i+1:=by
 have h1:=Xu ha;have h2:=Xu hb
 refine Q6 ?_
 rw [Nat.pow_succ];unfold sumN;generalize 1073741824 ^ i=z at*;split
 · omega
 · split <;>omega
theorem div_len{a b i:Nat}(ha:(limbs a).length<=i):(limbs (a/b)).length<=i:=Nat.le_trans (Qm (Nat.div_le_self a b)) ha
theorem redF_den(n:Bool)(a b:Nat)(h0:0<b):0<(redF n a b).den/\ (redF n a b).den<=b:=by
 have hg:0<Nat.gcd a b:=Nat.gcd_pos_of_pos_right _ h0;exact ⟨Nat.div_pos (Nat.gcd_le_right _ h0) hg,Nat.div_le_self _ _⟩
theorem redF_neg(n:Bool)(a b:Nat):(redF n a b).neg=true ->(redF n a b).num≠0:=by
 unfold redF;generalize a/Nat.gcd a b=c;simp
theorem dne(p q:Bool):decide (p≠q)=(p !=q):=by cases p <;>cases q <;>rfl
theorem FFrom_ok(n d:Int)(h1: -9223372036854775808<=n)(h2:n<=9223372036854775807)(h3: -1073741824<d)(h4:d<1073741824)(h0:d≠0):Ok prog 167 [intC n,intC d] (.tup [ratC (Rat.divInt n d),intC 0]):=by
 have hl:(limbs n.natAbs).length<=3:=Q6 (k:=3) (by omega);rw [show ratC (Rat.divInt n d)=fracC (redF (decide (n<0) !=decide (d<0)) n.natAbs d.natAbs) from by rw [from_redF n d h0]]
 refine Ok.enter func167 J _ ntmps167 J ?_
 intro S w;refine Qj 13 J ?_;refine Qy J (fun h=>absurd h h0) (fun h=> ?_);refine Qj 8 J (Ops.bne J J J uBool J ?_);rw [dne];refine Qq 1 J (Qv (gT J) (magnitude_ok n h1 h2) J (Qq 1 J (Qv (gT J) (magnitude_ok d (by omega) (by omega)) J ?_)));refine Qv (gT J) (reduced_small _ n.natAbs d.natAbs (by omega) (by omega) (by omega)) J ?_;refine Qq 5 J ?_;refine Qw J J
theorem all_take_succ{xs:List Int}{p:Int ->Bool}{i:Nat}(h:i<xs.length):(xs.take (i+1)).all p=((xs.take i).all p&&p (xs.getD i 0)):=by
 rw [List.take_succ_eq_append_getElem h,List.all_append];simp [List.getD_eq_getElem?_getD,List.getElem?_eq_getElem h]
theorem all_false{xs:List Int}{p:Int ->Bool}{i:Nat}(h:i<xs.length)(hp:p (xs.getD i 0)=false):xs.all p=false:=by
 rw [List.all_eq_false];refine ⟨xs[i],List.getElem_mem h,?_⟩
 have:xs.getD i 0=xs[i]:=by simp [List.getD_eq_getElem?_getD,List.getElem?_eq_getElem h]
 rw [<- this,hp];simp
theorem bad2{x:Int}(h:x<0 \/BB<=x):(decide (0<=x)&&decide (x<BB))=false:=by
 rw [Bool.and_eq_false_iff,decide_eq_false_iff_not,decide_eq_false_iff_not];omega
theorem good2{x:Int}(h1:0<=x)(h2:x<BB):(true&&(decide (0<=x)&&decide (x<BB)))=true:=by
 rw [Bool.true_and,Bool.and_eq_true,decide_eq_true_eq,decide_eq_true_eq];omega
theorem Valid_ok(xs:List Int)(hl:xs.length<4611686018427387904):Ok prog 166 [intsC xs] (boolC (validL xs)):=by
 refine Ok.enter func166 J _ ntmps166 J ?_
 intro S w;refine Qj 9 J (QV sNat.und J (Qq 4 J ?_))
 refine QY (α:=Nat) (fun i=>i<=xs.length/\ (xs.take i).all (fun x=>decide (0<=x)&&decide (x<BB))=true)
  (fun i=>[(0, .ct (intsC xs)),(5, .ct (intsC xs)),(6, .ct (intC xs.length)),(7, .ct (intC i))]) (fun _=>[]) (fun i=>xs.length - i) 0 ⟨Nat.zero_le _,rfl⟩ (by exact Qx J) ?_
 intro i ⟨hi,hv⟩;dsimp only;refine Qj 6 J ?_;refine Qy J (fun h=> ?_) (fun h=> ?_)
 · have e2:(i:Int).toNat=i:=Int.toNat_natCast i
   have hlt:i<xs.length:=by omega
   have hbad:(decide (0<=xs.getD i 0)&&decide (xs.getD i 0<BB))=false ->validL xs=false:=fun hp=>by
    unfold validL;rw [all_false (p:=fun x=>decide (0<=x)&&decide (x<BB)) hlt hp];rfl
   refine Qj 6 J (Q8 0 sNat J (by omega) ?_);refine Qq 9 J ?_;rw [e2];refine QQ 13 J (fun h2=> ?_) (fun h2=> ?_)
   · refine Qq 12 J ?_;refine Qw J (by rw [hbad (bad2 (by unfold BB;omega))];rfl)
   · refine Qq 5 J (Qy J (fun h3=> ?_) (fun h3=> ?_))
     · refine Qj 6 J ?_;refine Qw J (by rw [hbad (bad2 (by unfold BB;omega))];rfl)
     · refine Xz 7 J (by omega) ?_;refine Qk (i+1) (by omega) ⟨by omega,?_⟩ (by exact Qx J);rw [all_take_succ hlt,hv];exact good2 (by omega) (by unfold BB;omega)
 · have hi' :i=xs.length:=by omega
   rw [hi',List.take_length] at hv
   have e:validL xs=(decide (xs.length<=256)&&(decide (xs.length=0)||decide (xs.getD (xs.length - 1) 0≠0))):=by unfold validL;rw [hv];simp
   clear h;refine Qj 5 J (QV sNat.und J (Qq 2 J (QQ 21 J (fun h2=> ?_) (fun h2=> ?_))))
   · refine Qq 1 J (QV sNat.und J (Qq 2 J (QQ 25 J (fun h3=> ?_) (fun h3=> ?_))))
     · refine Qq 13 J ?_;refine Qw J (by rw [e,show decide (xs.length<=256)=true by simp;omega,show decide (xs.length=0)=true by rw [decide_eq_true_eq];omega];rfl)
     · have e1:((xs.length:Int) - 1).toNat=xs.length - 1:=by omega
       refine Qq 2 J (QV sNat.und J (QZ 1 J (by omega) ?_));refine Q8 0 sNat J (by omega) ?_;refine Qq 8 J ?_;rw [e1];refine Qw J (by rw [e,show decide (xs.length<=256)=true by simp;omega,show decide (xs.length=0)=false by simp;intro h4;subst h4;simp at h3];rfl)
   · refine Qq 17 J ?_;refine Qw J (by rw [e,show decide (xs.length<=256)=false by simp;omega];rfl)
theorem Valid1_ok(xs:List Int)(hl:xs.length<4611686018427387904):Ok prog 165 [intsC xs] (boolC (validL xs&&decide (xs.length<=64))):=by
 refine Ok.enter func165 J _ ntmps165 J ?_
 intro S w;refine Qj 8 J (Qv (gT J) (Valid_ok xs hl) J (Qq 1 J (Xk 5 J (fun h=> ?_) (fun h=> ?_))))
 · refine Qq 1 J (QV sNat.und J (Qq 6 J ?_));refine Qw J (by rw [h,Bool.true_and,show decide (xs.length<=64)=decide ((xs.length:Int)<=64) by rw [decide_eq_decide];omega];rfl)
 · refine Qq 8 J ?_;refine Qw J (by rw [h,Bool.false_and];rfl)
def fvalidL (neg : Bool) (xs ys : List Int) : Bool := (validL xs && decide (xs.length ≤ 64)) && (validL ys && decide (ys.length ≤ 64)) && decide (0 < ys.length) && !(neg && decide (xs.length = 0))
theorem FValid_list(neg:Bool)(xs ys:List Int)(hx:xs.length<4611686018427387904)(hy:ys.length<4611686018427387904):Ok prog 109 [.agg [boolC neg,intsC xs,intsC ys]] (boolC (fvalidL neg xs ys)):=by
 refine Ok.enter func109 J _ ntmps109 J ?_
 intro S w;have e0:fvalidL neg xs ys=((validL xs&&decide (xs.length<=64))&&(validL ys&&decide (ys.length<=64))&&decide (0<ys.length)&& !(neg&&decide (xs.length=0))):=rfl;have h1:=Valid1_ok xs hx;have h2:=Valid1_ok ys hy;generalize (validL xs&&decide (xs.length<=64))=b1 at e0 h1;generalize (validL ys&&decide (ys.length<=64))=b2 at e0 h2;generalize fvalidL neg xs ys=r at*;refine Qj 16 J (Ye (gT J) J h1 J J J J (Qq 1 J (Xk 8 J (fun h=> ?_) (fun h=> ?_))))
 · refine Qq 3 J (Ye (gT J) J h2 J J J J (Qq 2 J (Xk 14 J (fun h3=> ?_) (fun h3=> ?_))))
   · refine Qq 2 J (QV sNat.und J (Qq 3 J (QQ 20 J (fun h4=> ?_) (fun h4=> ?_))))
     · refine Qq 3 J (Xk 23 J (fun h5=> ?_) (fun h5=> ?_))
       · refine Qq 2 J (QV sNat.und J (Qq 8 J ?_));refine Qw J (by rw [e0,h,h3,h5,show decide (0<ys.length)=true by rw [decide_eq_true_eq];omega,show decide (xs.length=0)=decide ((xs.length:Int)=0) by rw [decide_eq_decide];omega];rfl)
       · refine Qq 11 J ?_;refine Qw J (by rw [e0,h,h3,h5,show decide (0<ys.length)=true by rw [decide_eq_true_eq];omega];rfl)
     · refine Qq 14 J ?_;refine Qw J (by rw [e0,h,h3,show decide (0<ys.length)=false by rw [decide_eq_false_iff_not];omega];rfl)
   · refine Qq 20 J ?_;refine Qw J (by rw [e0,h3,Bool.and_false];rfl)
 · refine Qq 26 J ?_;refine Qw J (by rw [e0,h];rfl)
theorem Sub_ok(a b:Nat)(hb:b<=a)(hx:(limbs a).length<=256):Ok prog 196 [natC a,natC b] (.tup [natC (a - b),intC 0]):=by
 have hlb:=Qm hb
 refine Ok.enter func196 J _ ntmps196 J ?_
 intro S w;refine Qj 11 J (Qv (gT J) (Compare_ok a b (by omega) (by omega)) J ?_);refine Qq 3 J (Qy J (fun h=> ?_) (fun h=> ?_))
 · rw [cmpI_eq,if_neg (by omega)] at h;split at h <;>omega
 clear h;refine Qj 5 J (QV sNat.und J (ZV 0 (limbs a).length J J J J sNat (by omega) (by omega) J J J ?_));rw [ints_made];refine Qq 12 J (QV sNat.und J (Qq 4 J ?_))
 refine QY (α:=Nat × List Int × Int) (fun s=>s.1<=(limbs a).length/\ s.2.1.length=s.1/\ OKL s.2.1/\ -1<=s.2.2/\ s.2.2<=0/\ val s.2.1+s.2.2*BB ^ s.1=pre (limbs a) s.1 - pre (limbs b) s.1)
  (fun s=>[(0, .ct (natC a)),(1, .ct (natC b)),(6, .own 0),(7, .ct (intC s.2.2)),(18, .ct (intC (limbs a).length)),(19, .ct (intC s.1))])
  (fun s=>[(0, .row 3 1 (ints (s.2.1++List.replicate ((limbs a).length - s.1) 0)))])
  (fun s=>(limbs a).length - s.1) (0,[],0) ⟨Nat.zero_le _,rfl,OKL.nil,by decide,by decide,by simp [val,ZQ]⟩ (by exact Qx J) ?_
 rintro ⟨i,zs,c⟩ ⟨hi,hz,hok,hc0,hc1,hv⟩
 dsimp only at hi hz hok hc0 hc1 hv ⊢;refine Qj 6 J ?_;refine Qy J (fun h=> ?_) (fun h=> ?_)
 · have b1:=(Qr a).get i;have b2:=(Qr b).get i;simp only [BB] at b1 b2;refine Qj 11 J (XY 11 0x800a09074623080504020100 J ?_);refine Qq 2 J (Q8 0 sNat J (by omega) ?_);refine Qq 4 J ?_;rw [Int.toNat_natCast];refine Qv (gT J) (at_ok (limbs b) i (by omega)) J ?_
   rw [Int.toNat_natCast]
   refine QZ 9 J (by omega) ?_;refine Qh iand30 J J J J (Qq 1 J (Qh ishr30 J J J J (Qf (limbs a).length J J J (by simp;omega) J sNat (by omega) (by omega) J ?_)));refine Qa J J J J J zInt (by simp [Ent.cs];omega) ?_
   simp only [Ent.setc,Zz];refine QZ 8 J (by omega) ?_;refine Qk (i+1,zs++ [((limbs a).getD i 0 - (limbs b).getD i 0+c)%1073741824],((limbs a).getD i 0 - (limbs b).getD i 0+c)/1073741824) (by dsimp only;omega) ⟨by dsimp only;omega,by simp [hz],?_,?_,?_,?_⟩ ?_
   all_goals dsimp only
   · exact hok.append (OKL.cons (by simp only [BB];omega) OKL.nil)
   · omega
   · omega
   · rw [YY,hz,XQ,XQ];have e:=Int.mul_ediv_add_emod ((limbs a).getD i 0 - (limbs b).getD i 0+c) 1073741824;simp only [val,BB] at*;generalize ((limbs a).getD i 0 - (limbs b).getD i 0+c)/1073741824=q at*;generalize ((limbs a).getD i 0 - (limbs b).getD i 0+c)%1073741824=m at*
     grind
   · refine QW ?_ ⟨rfl,rfl,rfl,rfl,rfl,by simp only [Int.natCast_add];rfl,trivial⟩
     have e1:(limbs a).length - i=((limbs a).length - (i+1))+1:=by omega
     have e3:(i:Int).toNat*1=zs.length:=by omega
     rw [e1,e3,set_snoc];rfl
 · have hi' :i=(limbs a).length:=by omega
   subst hi';rw [Nat.sub_self,List.replicate_zero,List.append_nil];refine Qj 5 J (Zw 0 _ J (X2 _ _) noBor_sub (Qv (gT J) (result_ok _ (by omega)) J ?_))
   have e4:trimL zs=limbs (a - b):=by
    rw [Zk hok];rw [ZZ (Nat.le_refl _),ZZ hlb,X1,X1] at hv;have hp:0<BB ^ (limbs a).length:=Int.pow_pos (by decide);have h1:=Y4 hok (limbs a).length;rw [ZZ (by omega)] at h1
    have hc:c=0:=by
     rcases Int.lt_or_le c 0 with hc|hc
     · have:c= -1:=by omega
       subst this;rw [Int.neg_mul,Int.one_mul] at hv;omega
     · omega
    subst hc;rw [Int.zero_mul] at hv
    congr 1;omega
   rw [e4];refine Qq 7 J ?_;refine Qw J J
theorem Mul_ok(a b:Nat)(hx:(limbs a).length+(limbs b).length<=256):Ok prog 232 [natC a,natC b] (.tup [natC (a*b),intC 0]):=by
 refine Ok.enter func232 Y _ ntmps232 Y ?_
 intro S w;refine Qj 9 Y (QV sNat.und Y (Qq 1 Y (QV sNat.und Y (QZ 1 Y (by omega) ?_))));refine ZV 0 ((limbs a).length+(limbs b).length) Y Y Y (by omega) sNat (by omega) (by omega) Y Y Y ?_
 rw [ints_made];refine Qq 7 Y (QV sNat.und Y (Qq 4 Y ?_))
 refine QY (α:=Nat × List Int) (fun s=>s.1<=(limbs a).length/\ s.2.length=(limbs a).length+(limbs b).length/\ OKL s.2/\ (∀j,s.1+(limbs b).length<=j ->s.2.getD j 0=0)/\ val s.2=pre (limbs a) s.1*b)
  (fun s=>[(0, .ct (natC a)),(1, .ct (natC b)),(6, .own 0),(19, .ct (natC a)),(20, .ct (intC (limbs a).length)),(21, .ct (intC s.1))])
  (fun s=>[(0, .row 3 1 (ints s.2))])
  (fun s=>(limbs a).length - s.1) (0,List.replicate ((limbs a).length+(limbs b).length) 0) ⟨Nat.zero_le _,by simp,OKL.zeros _,?_,?_⟩ (by exact Qx Y) ?_
 · intro j _;simp [List.getD_eq_getElem?_getD,List.getElem?_replicate];split <;>rfl
 · rw [ZQ,Yg];simp
 rintro ⟨i,out⟩ ⟨hi,hlen,hok,hz,hv⟩
 dsimp only at hi hlen hok hz hv ⊢;refine Qj 6 Y ?_;refine Qy Y (fun h=> ?_) (fun h=> ?_)
 · have bx:=(Qr a).get i;have eix:(i:Int).toNat=i:=Int.toNat_natCast i;refine Qj 7 Y (Q8 0 sNat Y (by omega) ?_);refine Qq 14 Y (QV sNat.und Y (Qq 4 Y ?_));rw [eix]
   refine QY (α:=Nat × List Int × Int) (fun s=>s.1<=(limbs b).length/\ s.2.1.length=(limbs a).length+(limbs b).length/\ OKL s.2.1/\ (∀j,i+(limbs b).length<=j ->s.2.1.getD j 0=0)/\ 0<=s.2.2/\ s.2.2<BB/\
     val s.2.1+s.2.2*BB ^ (i+s.1)=val out+(limbs a).getD i 0*pre (limbs b) s.1*BB ^ i)
    (fun s=>[(0, .ct (natC a)),(1, .ct (natC b)),(6, .own 0),(7, .ct (intC i)),(8, .ct (intC ((limbs a).getD i 0))),(9, .ct (intC s.2.2)),(19, .ct (natC a)),(20, .ct (intC (limbs a).length)),(21, .ct (intC i)),(26, .ct (natC b)),(27, .ct (intC (limbs b).length)),(28, .ct (intC s.1))])
    (fun s=>[(0, .row 3 1 (ints s.2.1))])
    (fun s=>(limbs b).length - s.1) (0,out,0) ⟨Nat.zero_le _,hlen,hok,hz,Int.le_refl _,by show (0:Int)<BB;decide,by rw [ZQ];simp⟩ (by exact Qx Y) ?_
   rintro ⟨q,zs,c⟩ ⟨hq,hzl,hzok,hzz,hc0,hc1,hzv⟩
   dsimp only at hq hzl hzok hzz hc0 hc1 hzv ⊢;refine Qj 6 Y ?_;refine Qy Y (fun h2=> ?_) (fun h2=> ?_)
   · have by' :=(Qr b).get q
     have bz:=hzok.get (i+q)
     have bm:=mul_bd bx by'
     simp only [BB] at bz hc1 bx;have eq1:(q:Int).toNat=q:=Int.toNat_natCast q
     have eiq:((i:Int)+q).toNat*1=i+q:=by omega
     refine Qj 7 Y (Q8 0 sNat Y (by omega) ?_);refine QZ 11 Y (by omega) ?_;rw [eq1]
     refine Qf ((limbs a).length+(limbs b).length) Y Y Y (by simp;omega) Y sNat (by omega) (by omega) Y ?_
     rw [eiq]
     refine QK Y Y Y Y (XK (by omega)) lInt Y ?_;refine QZ 15 Y (by omega) ?_;refine Qh iand30 Y Y Y Y (Qq 1 Y (Qh ishr30 Y Y Y Y (Qf ((limbs a).length+(limbs b).length) Y Y Y (by simp;omega) Y sNat (by omega) (by omega) Y ?_)));rw [eiq];refine Qa Y Y Y Y Y zInt (by simp [Ent.cs];omega) ?_
     simp only [Ent.setc,Zz];refine QZ 8 Y (by omega) ?_;refine Qk (q+1,zs.set (i+q) ((zs.getD (i+q) 0+(limbs a).getD i 0*(limbs b).getD q 0+c)%1073741824),(zs.getD (i+q) 0+(limbs a).getD i 0*(limbs b).getD q 0+c)/1073741824) (by dsimp only;omega) ⟨by dsimp only;omega,by simp [hzl],?_,?_,?_,?_,?_⟩ ?_
     all_goals dsimp only
     · exact hzok.set _ (by simp only [BB];omega)
     · intro j hj;rw [getD_set (by omega),if_neg (by omega)];exact hzz j hj
     · omega
     · simp only [BB];omega
     · rw [JQ (by omega),XQ,show i+(q+1)=(i+q)+1 by omega,Int.pow_succ,Int.pow_add];rw [Int.pow_add] at hzv;have e:=Int.mul_ediv_add_emod (zs.getD (i+q) 0+(limbs a).getD i 0*(limbs b).getD q 0+c) 1073741824;simp only [BB] at*;generalize (zs.getD (i+q) 0+(limbs a).getD i 0*(limbs b).getD q 0+c)/1073741824=Q at*;generalize (zs.getD (i+q) 0+(limbs a).getD i 0*(limbs b).getD q 0+c)%1073741824=M at*;generalize (1073741824:Int) ^ i=I at*;generalize (1073741824:Int) ^ q=J at*;generalize zs.getD (i+q) 0=z at*;generalize (limbs a).getD i 0=x at*;generalize (limbs b).getD q 0=y at*;generalize pre (limbs b) q=pb at*;generalize val zs=vz at*;generalize val out=vo at*
       grind
     · exact Qx Y
   · have hq' :q=(limbs b).length:=by omega
     have eib:((i:Int)+(limbs b).length).toNat*1=i+(limbs b).length:=by omega
     simp only [BB] at hc1;refine Qj 6 Y (QV sNat.und Y (QZ 2 Y (by omega) ?_));refine Qf ((limbs a).length+(limbs b).length) Y Y Y (by simp;omega) Y sNat (by omega) (by omega) Y ?_;rw [eib]
     refine Qa Y Y Y Y Y zInt (by simp [Ent.cs];omega) ?_
     simp only [Ent.setc,Zz];refine QZ 7 Y (by omega) ?_;refine Qk (i+1,zs.set (i+(limbs b).length) c) (by dsimp only;omega) ⟨by dsimp only;omega,by simp [hzl],?_,?_,?_⟩ ?_
     all_goals dsimp only
     · exact hzok.set _ (by simp only [BB];omega)
     · intro j hj;rw [getD_set (by omega),if_neg (by omega)];exact hzz j (by omega)
     · rw [JQ (by omega),hzz _ (Nat.le_refl _),XQ];rw [hq',ZZ (Nat.le_refl _),X1,hv] at hzv
       grind
     · exact Qx Y
 · have hi' :i=(limbs a).length:=by omega
   have e4:trimL out=limbs (a*b):=by
    rw [Zk hok,hv,hi',ZZ (Nat.le_refl _),X1]
    congr 1
   refine Qj 5 Y (Zw 0 _ Y (X2 _ _) noBor_sub (Qv (gT J) (result_ok _ (by omega)) Y ?_));rw [e4];refine Qq 7 Y ?_;refine Qw Y Y
theorem product_ok(a b:Nat)(h:(limbs a).length+(limbs b).length<=256):Ok prog 217 [natC a,natC b] (natC (a*b)):=by
 refine Ok.enter func217 J _ ntmps217 J ?_
 intro S w;refine Qj 9 J (Qv (gT J) (Mul_ok a b h) J (Qq 14 J ?_));refine Qw J J
theorem sum_ok(n1:Bool)(a:Nat)(n2:Bool)(b:Nat)(ha:(limbs a).length<=200)(hb:(limbs b).length<=200):Ok prog 216 [boolC n1,natC a,boolC n2,natC b] (.tup [boolC (sumS n1 a n2 b),natC (sumN n1 a n2 b)]):=by
 refine Ok.enter func216 J _ ntmps216 J ?_
 intro S w;refine Qj 11 J (Ops.beq J J J uBool J (Qq 2 J ?_));refine Xx J (fun h=> ?_) (fun h=> ?_)
 · have h' :n1=n2:=by simpa using h
   refine Qj 4 J (Qv (gT J) (Add_list _ _ ha hb (Qr _) (Qr _)) J ?_);rw [X1,X1,show ((a:Int)+b).toNat=a+b by omega];refine Qq 16 J ?_;refine Qw J (by simp only [sumN,sumS,if_pos h'];rfl)
 · have h' :¬n1=n2:=by simpa using h
   refine Qj 7 J (Qv (gT J) (Compare_ok a b (by omega) (by omega)) J ?_);refine Qq 3 J ?_;refine Qy J (fun h3=> ?_) (fun h3=> ?_)
   · have hlt:a<b:=by
      rw [cmpI_eq] at h3;split at h3
      · omega
      · split at h3 <;>omega
     refine Qj 13 J (Qv (gT J) (Sub_ok b a (by omega) (by omega)) J ?_);refine Qq 16 J ?_;refine Qw J (by simp only [sumN,sumS,if_neg h',if_pos hlt];rfl)
   · have hlt:¬a<b:=by
      intro hl;rw [cmpI_eq,if_pos (by omega)] at h3;omega
     refine Qj 6 J (Qv (gT J) (Sub_ok a b (by omega) (by omega)) J ?_);refine Qq 16 J ?_;refine Qw J (by simp only [sumN,sumS,if_neg h',if_neg hlt];rfl)
theorem checked_ok(f:Fr)(hx:(limbs f.num).length<=64)(hy:(limbs f.den).length<=64)(hd:0<f.den)(hn:f.neg=true ->f.num≠0):Ok prog 241 [fracC f] (.tup [fracC f,intC 0]):=by
 refine Ok.enter func241 J _ ntmps241 J ?_
 intro S w
 have hv:fvalidL f.neg (limbs f.num) (limbs f.den)=true:=by
  unfold fvalidL;rw [validL_limbs (by omega),validL_limbs (by omega)];have:=limbs_len_pos (n:=f.den);have:=limbs_len_pos (n:=f.num);cases hh:f.neg
  · simp;omega
  · have:=hn hh;simp;constructor
    · omega
    · intro h;exact this (limbs_nil h)
 have h1:=FValid_list f.neg (limbs f.num) (limbs f.den) (by omega) (by omega);rw [hv] at h1;refine Qj 11 J (Qv (gT J) h1 J (Qq 14 J ?_));refine Qw J J
theorem sRows:SlcT prog 35 136 2 32 (.agg #[.slice none 0 0, .int .i64 0]):=SlcT.of underlying35 (by kernel_rfl) rfl (by decide)
theorem sFracs:SlcT prog 47 54 3 56 (.agg #[.bool false, .slice none 0 0, .slice none 0 0]):=SlcT.of underlying47 (by kernel_rfl) rfl (by decide)
theorem Int_ok(n:Nat)(hn:n<=4611686018427387904):Ok prog 158 [natC n] (.tup [intC n,intC 0]):=by
 have hl:(limbs n).length<=3:=Q6 (k:=3) (by omega)
 refine Ok.enter func158 J _ ntmps158 J ?_
 intro S w;refine Qj 15 J (QV sNat.und J (QZ 5 J (by omega) ?_))
 refine QY (α:=Nat × Int) (fun s=>s.1<=(limbs n).length/\ 0<=s.2/\ s.2*BB ^ s.1+pre (limbs n) s.1=n)
  (fun s=>[(0, .ct (natC n)),(4, .ct (intC s.2)),(5, .ct (intC ((s.1:Int) - 1)))]) (fun _=>[]) (fun s=>s.1) ((limbs n).length,0) ⟨Nat.le_refl _,Int.le_refl _,by dsimp only;rw [Y9];simp⟩ (by exact Qx J) ?_
 rintro ⟨q,v⟩ ⟨hq,hv,hvq⟩
 dsimp only at hq hv hvq ⊢;refine Qj 7 J ?_;refine Qy J (fun h=> ?_) (fun h=> ?_)
 · obtain ⟨i,rfl⟩:∃i,q=i+1:=⟨q - 1,by omega⟩
   have e1:(((i+1:Nat):Int) - 1)=(i:Int):=by omega
   have e2:(i:Int).toNat=i:=Int.toNat_natCast i;have bx:=(Qr n).get i;simp only [BB] at bx;rw [XQ,Int.pow_succ] at hvq;have hp:=(Y4 (Qr n) i).1;have hpw:(1:Int)<=BB ^ i:=Int.pow_pos (by decide)
   have key:v*1073741824+(limbs n).getD i 0<=4611686018427387904:=by
    have e:(v*1073741824+(limbs n).getD i 0)*BB ^ i+pre (limbs n) i=n:=by
     rw [<- hvq];simp only [BB];grind
    have:(v*1073741824+(limbs n).getD i 0)*1<=(v*1073741824+(limbs n).getD i 0)*BB ^ i:=Int.mul_le_mul_of_nonneg_left hpw (by omega);omega
   rw [e1];refine Qj 10 J (Q8 0 sNat J (by omega) ?_);refine Qq 1 J ?_
   rw [e2]
   refine QZ 1 J (by omega) ?_;refine Qh ishr30 J J J J (Qq 3 J ?_);refine Qy J (fun h2=> ?_) (fun h2=> ?_)
   · omega
   clear h2;refine Qj 4 J (Qh (ishl30 (by omega) (by omega)) J J J J ?_);refine Qq 2 J (Q8 0 sNat J (by omega) ?_);refine Qq 1 J ?_
   rw [e2]
   refine Qh (ior30 (by omega) (by omega) (by omega) (by omega)) J J J J ?_;refine QZ 9 J (by omega) ?_;refine Qk (i,v*1073741824+(limbs n).getD i 0) (by dsimp only;omega) ⟨by dsimp only;omega,by dsimp only;omega,?_⟩ (by exact Qx J);dsimp only;rw [<- hvq];simp only [BB];grind
 · have hq0:q=0:=by omega
   subst hq0
   have e:v=n:=by rw [ZQ] at hvq;simpa using hvq
   refine Qj 10 J ?_;refine Qw J (by rw [e];rfl)
theorem goInt:InGo prog 158:=InGo.of func158 (by kernel_rfl) (by kernel_rfl)
def rnd (a b : Nat) (up : Bool) : Nat := if up = true ∧ a % b ≠ 0 then a / b + 1 else a / b
theorem floor_sg(n:Bool)(a b:Nat)(hb:0<b):sg n (rnd a b n)=sg n a/(b:Int):=by
 unfold sg rnd;cases n
 · simp
 · simp only [if_true,true_and];have e:=Nat.div_add_mod a b;have hm:=Nat.mod_lt a hb;split
   · rename_i h
     symm
     rw [Int.ediv_eq_iff_of_pos (by omega)];constructor
     · have:((b*(a/b)+a%b:Nat):Int)=a:=by rw [e]
       rw [Int.natCast_add,Int.natCast_mul] at this;rw [Int.natCast_add];generalize ((a/b:Nat):Int)=z at*;have:(b:Int)*z+((a%b:Nat):Int)=a:=this
       grind
     · have:((b*(a/b)+a%b:Nat):Int)=a:=by rw [e]
       rw [Int.natCast_add,Int.natCast_mul] at this;rw [Int.natCast_add];generalize ((a/b:Nat):Int)=z at*
       grind
   · rename_i h
     have h0:a%b=0:=by omega
     rw [Int.neg_ediv_of_dvd (Int.natCast_dvd_natCast.mpr (Nat.dvd_of_mod_eq_zero h0)),Int.natCast_ediv]
def fr0 : Fr := ⟨false, 0, 1⟩
structure Rw where
  cs : List Int
  b : Int
def rw0 : Rw := ⟨[], 0⟩
abbrev rwCs (r : Rw) : List CT := [intsC r.cs, intC r.b]
abbrev rowC (r : Rw) : CT := .agg (rwCs r)
abbrev rowsC (rs : List Rw) : CT := .fr (sliceT 2 (rs.map rwCs))
theorem map_at{α:Type}(f:α ->List CT)(z:α){xs:List α}{j:Int}(h0:0<=j)(h:j<(xs.length:Int)):(xs.map f)[j.toNat]? =some (f (xs.getD j.toNat z)):=by
 have:j.toNat<xs.length:=by omega
 simp [List.getElem?_map,List.getElem?_eq_getElem this,List.getD_eq_getElem?_getD]
theorem fracs_at{fs:List Fr}{j:Int}(h0:0<=j)(h:j<(fs.length:Int)):(fs.map frCs)[j.toNat]? =some (frCs (fs.getD j.toNat fr0)):=map_at frCs fr0 h0 h
theorem IndexFunc_ints(xs:List Int)(f:FuncId)(p:Int ->Bool)(hgo:InGo prog f)(hf:∀x∈xs,Ok prog f [intC x] (boolC (p x)))(hl:xs.length<4611686018427387904):Ok prog 192 [intsC xs,(.ex (.func (.func f) #[] #[]))] (intC (idxI p xs)):=by
 refine Ok.enter func192 J _ ntmps192 J ?_
 intro S w;refine Qj 9 J (QV sInts.und J (Qq 4 J ?_))
 refine QY (α:=Nat) (fun i=>i<=xs.length/\ ∀j,j<i ->p (xs.getD j 0)=false)
  (fun i=>[(0, .ct (intsC xs)),(1, .ct (.ex (.func (.func f) #[] #[]))),(7, .ct (intC xs.length)),(8, .ct (intC i))]) (fun _=>[]) (fun i=>xs.length - i) 0 ⟨Nat.zero_le _,fun j h=>absurd h (Nat.not_lt_zero j)⟩ (by exact Qx J) ?_
 intro i ⟨hi,hv⟩;dsimp only;refine Qj 6 J ?_;refine Qy J (fun h=> ?_) (fun h=> ?_)
 · have e2:(i:Int).toNat=i:=Int.toNat_natCast i;refine Qj 15 J (Q8 0 sInts J (by omega) ?_);refine Qq 1 J ?_
   rw [e2]
   refine Ye hgo J (hf _ (XX (by omega))) J J J J ?_;refine Qq 2 J ?_;refine Xx J (fun h2=> ?_) (fun h2=> ?_)
   · refine Qj 7 J ?_;refine Qw J (by rw [idxI_hit (by omega) h2 hv];rfl)
   · refine Xz 7 J (by omega) ?_;refine Qk (i+1) (by omega) ⟨by omega,?_⟩ (by exact Qx J);intro j hj;rcases Nat.lt_or_ge j i with h3|h3
     · exact hv j h3
     · have:j=i:=by omega
       rw [this];exact h2
 · have hi' :i=xs.length:=by omega
   refine Qj 8 J ?_;refine Qw J (by rw [idxI_miss (fun j hj=>hv j (by omega))];rfl)
theorem ContainsFunc_ints(xs:List Int)(f:FuncId)(p:Int ->Bool)(hgo:InGo prog f)(hf:∀x∈xs,Ok prog f [intC x] (boolC (p x)))(hl:xs.length<4611686018427387904):Ok prog 140 [intsC xs,(.ex (.func (.func f) #[] #[]))] (boolC (xs.any p)):=by
 refine Ok.enter func140 J _ ntmps140 J ?_
 intro S w;refine Qj 9 J (Qv (gT J) (IndexFunc_ints xs f p hgo hf hl) J (Qq 5 J ?_));refine Qw J (by rw [<- idxI_any];rfl)
theorem IndexFunc_fracs(xs:List Fr)(f:FuncId)(p:Fr ->Bool)(hgo:InGo prog f)(hf:∀x∈xs,Ok prog f [fracC x] (boolC (p x)))(hl:xs.length<4611686018427387904):Ok prog 212 [fracsC xs,(.ex (.func (.func f) #[] #[]))] (intC (idxI p xs)):=by
 refine Ok.enter func212 J _ ntmps212 J ?_
 intro S w;refine Qj 9 J (QV sFracs.und J (Qq 4 J ?_))
 refine QY (α:=Nat) (fun i=>i<=xs.length/\ ∀j,j<i ->p (xs.getD j fr0)=false)
  (fun i=>[(0, .ct (fracsC xs)),(1, .ct (.ex (.func (.func f) #[] #[]))),(7, .ct (intC xs.length)),(8, .ct (intC i))]) (fun _=>[]) (fun i=>xs.length - i) 0 ⟨Nat.zero_le _,fun j h=>absurd h (Nat.not_lt_zero j)⟩ (by exact Qx J) ?_
 intro i ⟨hi,hv⟩;dsimp only;refine Qj 6 J ?_;refine Qy J (fun h=> ?_) (fun h=> ?_)
 · have e2:(i:Int).toNat=i:=Int.toNat_natCast i;refine Qj 15 J (Q8 fr0 sFracs J (by omega) ?_);refine Qq 1 J ?_
   rw [e2]
   refine Ye hgo J (hf _ (XX (by omega))) J J J J ?_;refine Qq 2 J ?_;refine Xx J (fun h2=> ?_) (fun h2=> ?_)
   · refine Qj 7 J ?_;refine Qw J (by rw [idxI_hit (by omega) h2 hv];rfl)
   · refine Xz 7 J (by omega) ?_;refine Qk (i+1) (by omega) ⟨by omega,?_⟩ (by exact Qx J);intro j hj;rcases Nat.lt_or_ge j i with h3|h3
     · exact hv j h3
     · have:j=i:=by omega
       rw [this];exact h2
 · have hi' :i=xs.length:=by omega
   refine Qj 8 J ?_;refine Qw J (by rw [idxI_miss (fun j hj=>hv j (by omega))];rfl)
theorem ContainsFunc_fracs(xs:List Fr)(f:FuncId)(p:Fr ->Bool)(hgo:InGo prog f)(hf:∀x∈xs,Ok prog f [fracC x] (boolC (p x)))(hl:xs.length<4611686018427387904):Ok prog 162 [fracsC xs,(.ex (.func (.func f) #[] #[]))] (boolC (xs.any p)):=by
 refine Ok.enter func162 J _ ntmps162 J ?_
 intro S w;refine Qj 9 J (Qv (gT J) (IndexFunc_fracs xs f p hgo hf hl) J (Qq 5 J ?_));refine Qw J (by rw [<- idxI_any];rfl)
theorem IndexFunc_rows(xs:List Rw)(f:FuncId)(caps:List CT)(p:Rw ->Bool)(hgo:InGo prog f)(hf:∀x∈xs,Ok prog f ([rowC x]++caps) (boolC (p x)))(hl:xs.length<4611686018427387904):Ok prog 191 [rowsC xs,(.fr (closT f caps))] (intC (idxI p xs)):=by
 refine Ok.enter func191 J _ ntmps191 J ?_
 intro S w;refine Qj 9 J (QV sRows.und J (Qq 4 J ?_))
 refine QY (α:=Nat) (fun i=>i<=xs.length/\ ∀j,j<i ->p (xs.getD j rw0)=false)
  (fun i=>[(0, .ct (rowsC xs)),(1, .ct (.fr (closT f caps))),(7, .ct (intC xs.length)),(8, .ct (intC i))]) (fun _=>[]) (fun i=>xs.length - i) 0 ⟨Nat.zero_le _,fun j h=>absurd h (Nat.not_lt_zero j)⟩ (by exact Qx J) ?_
 intro i ⟨hi,hv⟩;dsimp only;refine Qj 6 J ?_;refine Qy J (fun h=> ?_) (fun h=> ?_)
 · have e2:(i:Int).toNat=i:=Int.toNat_natCast i;refine Qj 15 J (Q8 rw0 sRows J (by omega) ?_);refine Qq 1 J ?_
   rw [e2]
   refine Ops.callC hgo J (hf _ (XX (by omega))) J J J J ?_;refine Qq 2 J ?_;refine Xx J (fun h2=> ?_) (fun h2=> ?_)
   · refine Qj 7 J ?_;refine Qw J (by rw [idxI_hit (by omega) h2 hv];rfl)
   · refine Xz 7 J (by omega) ?_;refine Qk (i+1) (by omega) ⟨by omega,?_⟩ (by exact Qx J);intro j hj;rcases Nat.lt_or_ge j i with h3|h3
     · exact hv j h3
     · have:j=i:=by omega
       rw [this];exact h2
 · have hi' :i=xs.length:=by omega
   refine Qj 8 J ?_;refine Qw J (by rw [idxI_miss (fun j hj=>hv j (by omega))];rfl)
theorem ContainsFunc_rows(xs:List Rw)(f:FuncId)(caps:List CT)(p:Rw ->Bool)(hgo:InGo prog f)(hf:∀x∈xs,Ok prog f ([rowC x]++caps) (boolC (p x)))(hl:xs.length<4611686018427387904):Ok prog 138 [rowsC xs,(.fr (closT f caps))] (boolC (xs.any p)):=by
 refine Ok.enter func138 J _ ntmps138 J ?_
 intro S w;refine Qj 9 J (Qv (gT J) (IndexFunc_rows xs f caps p hgo hf hl) J (Qq 5 J ?_));refine Qw J (by rw [<- idxI_any];rfl)
def badC (x : Int) : Bool := decide (x < -1048576) || decide (1048576 < x)
theorem validCoeffs1_ok(x:Int):Ok prog 141 [intC x] (boolC (badC x)):=by
 refine Ok.enter func141 J _ ntmps141 J ?_
 intro S w;refine Qj 10 J (QQ 5 J (fun h=> ?_) (fun h=> ?_))
 · refine Qq 7 J ?_;refine Qw J (by unfold badC;rw [decide_eq_true h];rfl)
 · refine Qq 7 J ?_;refine Qw J (by unfold badC;rw [decide_eq_false h];rfl)
theorem govalidCoeffs1:InGo prog 141:=InGo.of func141 (by kernel_rfl) (by kernel_rfl)
def okCoeffs (n : Int) (xs : List Int) : Bool := decide ((xs.length : Int) ≤ n) && !xs.any badC
theorem validCoeffs_ok(n:Int)(xs:List Int)(hl:xs.length<4611686018427387904):Ok prog 89 [intC n,intsC xs] (boolC (okCoeffs n xs)):=by
 refine Ok.enter func89 J _ ntmps89 J ?_
 intro S w;refine Qj 8 J (QV sInts.und J (Qq 3 J (QQ 9 J (fun h=> ?_) (fun h=> ?_))))
 · refine Qq 1 J (Qv (gT J) (ContainsFunc_ints xs _ badC govalidCoeffs1 (fun x _=>validCoeffs1_ok x) hl) J ?_);refine Qq 6 J ?_;refine Qw J (by unfold okCoeffs;rw [decide_eq_true h];rfl)
 · refine Qq 8 J ?_;refine Qw J (by unfold okCoeffs;rw [decide_eq_false h];rfl)
theorem w_nat0:∀S w v,(CT.ex (.slice none 0 0)).p S w v ->(natC 0).p S w v:=by rw [natC_zero];exact Zp
def badR (n : Int) (r : Rw) : Bool := !okCoeffs n r.cs || decide (r.b < -4503599627370496) || decide (4503599627370496 < r.b)
theorem LValid1_ok(n:Int)(r:Rw)(hl:r.cs.length<4611686018427387904):Ok prog 139 ([rowC r]++ [.ptr [intC n]]) (boolC (badR n r)):=by
 refine Ok.enter func139 J _ ntmps139 J ?_
 intro S w;refine Qj 11 J (Qv (gT J) (validCoeffs_ok n r.cs hl) J (Qq 2 J (Xk 9 J (fun h=> ?_) (fun h=> ?_))))
 · refine Qq 13 J ?_;refine Qw J (by unfold badR;rw [h];rfl)
 · refine Qq 5 J (QQ 14 J (fun h2=> ?_) (fun h2=> ?_))
   · refine Qq 8 J ?_;refine Qw J (by unfold badR;rw [h,decide_eq_true h2];rfl)
   · refine Qq 8 J ?_;refine Qw J (by unfold badR;rw [h,decide_eq_false h2];rfl)
theorem goLValid1:InGo prog 139:=InGo.of func139 (by kernel_rfl) (by kernel_rfl)
def validR (n : Int) (rs : List Rw) : Bool := decide (0 ≤ n) && decide (n ≤ 16) && decide (rs.length ≤ 64) && !rs.any (badR n)
theorem LValid_ok(n:Int)(rs:List Rw)(hl:rs.length<4611686018427387904)(hr:∀r∈rs,r.cs.length<4611686018427387904):Ok prog 88 [intC n,rowsC rs] (boolC (validR n rs)):=by
 refine Ok.enter func88 J _ ntmps88 J ?_
 intro S w;refine Qj 12 J (QQ 7 J (fun h=> ?_) (fun h=> ?_))
 · refine Qq 17 J ?_;refine Qw J (by unfold validR;rw [decide_eq_false (show ¬0<=n by omega)];rfl)
 · refine Qq 4 J (QQ 11 J (fun h2=> ?_) (fun h2=> ?_))
   · refine Qq 13 J ?_;refine Qw J (by unfold validR;rw [decide_eq_false (show ¬n<=16 by omega),Bool.and_false];rfl)
   · refine Qq 1 J (QV sRows.und J (Qq 4 J ?_));refine Qy J (fun h3=> ?_) (fun h3=> ?_)
     · refine Qj 6 J ?_;refine Qw J (by unfold validR;rw [decide_eq_false (show ¬rs.length<=64 by omega),Bool.and_false];rfl)
     · refine X6 0 _ J J noBor_sub (Qj 5 J (Ops.makeFunc J J J (Qv (gT J) (ContainsFunc_rows rs _ _ (badR n) goLValid1 (fun r hr' =>LValid1_ok n r (hr r hr')) hl) J ?_)));refine Qq 5 J ?_;refine Qw J (by unfold validR;rw [decide_eq_true (show 0<=n by omega),decide_eq_true (show n<=16 by omega),decide_eq_true (show rs.length<=64 by omega)];rfl)
theorem Jw{n:Int}{rs:List Rw}(h:validR n rs=true):0<=n/\ n<=16/\ rs.length<=64/\ ∀r∈rs,(r.cs.length:Int)<=n/\ (∀y∈r.cs,y.natAbs<=1048576)/\ r.b.natAbs<=4503599627370496:=by
 unfold validR at h;simp only [Bool.and_eq_true,decide_eq_true_eq,Bool.not_eq_true'] at h;obtain ⟨⟨⟨h1,h2⟩,h3⟩,h4⟩:=h;refine ⟨h1,h2,h3,fun r hr=> ?_⟩;rw [List.any_eq_false] at h4
 have h5:badR n r=false:=by simpa using h4 r hr
 unfold badR okCoeffs at h5;simp only [Bool.or_eq_false_iff,Bool.not_eq_false',Bool.and_eq_true,decide_eq_true_eq,decide_eq_false_iff_not,Bool.not_eq_true',List.any_eq_false] at h5;obtain ⟨⟨⟨h6,h7⟩,h8⟩,h9⟩:=h5;refine ⟨h6,fun y hy=> ?_,by omega⟩
 have h10:badC y=false:=by simpa using h7 y hy
 unfold badC at h10;simp only [Bool.or_eq_false_iff,decide_eq_false_iff_not] at h10;omega
theorem gomultipliers1:InGo prog 163:=InGo.of func163 (by kernel_rfl) (by kernel_rfl)
theorem take_map_succ{α β:Type}(f:α ->β)(z:α){xs:List α}{i:Nat}(h:i<xs.length):(xs.take (i+1)).map f=(xs.take i).map f++ [f (xs.getD i z)]:=by
 rw [List.take_succ_eq_append_getElem h,List.map_append];simp [List.getD_eq_getElem?_getD,List.getElem?_eq_getElem h]
theorem Combine1_ok(j:Nat)(r:Rw):Ok prog 107 ([rowC r]++ [.ptr [intC j]]) (intC (r.cs.getD j 0)):=by
 refine Ok.enter func107 J _ ntmps107 J ?_
 intro S w;refine Qj 12 J (QV sInts.und J (Qq 3 J ?_));refine Qy J (fun h=> ?_) (fun h=> ?_)
 · have e2:(j:Int).toNat=j:=Int.toNat_natCast j;refine Qj 5 J (Q8 0 sInts J (by omega) ?_);refine Qq 5 J ?_;rw [e2];refine Qw J J
 · refine Qj 8 J ?_;refine Qw J (by rw [List.getD_eq_getElem?_getD,List.getElem?_eq_none (by omega)];rfl)
theorem goCombine1:InGo prog 107:=InGo.of func107 (by kernel_rfl) (by kernel_rfl)
theorem Combine2_ok(r:Rw):Ok prog 108 [rowC r] (intC r.b):=by
 refine Ok.enter func108 J _ ntmps108 J ?_
 intro S w;refine Qj 14 J ?_;refine Qw J J
theorem goCombine2:InGo prog 108:=InGo.of func108 (by kernel_rfl) (by kernel_rfl)
theorem rOrder_ok(x y:Int):Ok prog 221 [intC x,intC y] (intC (cmpI x y)):=by
 refine Ok.enter func221 J _ ntmps221 J ?_
 intro S w;refine Qj 13 J ?_;refine Qy J (fun h=> ?_) (fun h=> ?_)
 · refine Qj 6 J ?_;refine Qw J (by rw [cmpI_eq,if_pos h];rfl)
 · refine Qj 10 J ?_;refine Qy J (fun h2=> ?_) (fun h2=> ?_)
   · refine Qj 6 J ?_;refine Qw J (by rw [cmpI_eq,if_neg h,if_pos h2];rfl)
   · refine Qj 8 J ?_;refine Qw J (by rw [cmpI_eq,if_neg h,if_neg h2];rfl)
theorem rTrim_ok(xs:List Int)(hl:xs.length<4611686018427387904):Ok prog 220 [intsC xs] (intsC (trimL xs)):=by
 refine Ok.enter func220 J _ ntmps220 J ?_
 intro S w;refine Qj 7 J (QY (α:=List Int) (fun ys=>trimL ys=trimL xs/\ ys.length<=xs.length) (fun ys=>[(0, .ct (intsC ys))]) (fun _=>[]) (fun ys=>ys.length) xs ⟨rfl,Nat.le_refl _⟩ (Qx J) ?_)
 intro ys ⟨hy,hle⟩;refine Qj 4 J (QV sNat.und J (Qq 2 J (QQ 6 J (fun h=> ?_) (fun h=> ?_))))
 · have e1:((ys.length:Int) - 1).toNat=ys.length - 1:=by omega
   refine Qq 2 J (QV sNat.und J (QZ 1 J (by omega) ?_));refine Q8 0 sNat J (by omega) ?_;refine Qq 5 J ?_;refine Qy J (fun h2=> ?_) (fun h2=> ?_)
   · rw [e1] at h2;refine Qj 6 J (QV sNat.und J (QZ 1 J (by omega) ?_));refine Ops.cutHi J J J sNat (by omega) (by simp) J ?_
     rw [<- List.map_take];refine Qq 3 J ?_;refine Qk (ys.take ((ys.length:Int) - 1).toNat) (by simp;omega) ⟨?_,by simp;omega⟩ (Qx J);rw [e1,<- hy];exact trim_last (by omega) h2
   · rw [e1] at h2;refine Qj 9 J ?_;refine Qw J (by rw [<- hy,trim_done (fun _=>h2)];rfl)
 · refine Qq 20 J ?_;refine Qw J (by rw [<- hy,trim_done (fun h3=>absurd h3 (by omega))];rfl)
theorem rCompare_ok(a b:Nat)(ha:(limbs a).length<4611686018427387904)(hb:(limbs b).length<4611686018427387904):Ok prog 172 [natC a,natC b] (intC (cmpI a b)):=by
 refine Ok.enter func172 J _ ntmps172 J ?_
 intro S w;refine Qj 9 J (QV sNat.und J (Qq 1 J (QV sNat.und J (Qq 3 J ?_))));refine Qy J (fun h=> ?_) (fun h=> ?_)
 · have e:cmpI ((limbs a).length:Int) ((limbs b).length:Int)=cmpI (a:Int) (b:Int):=by
    rcases Nat.lt_trichotomy (limbs a).length (limbs b).length with h1|h1|h1
    · have:=lt_of_len h1;rw [cmpI_eq,cmpI_eq,if_pos (by omega),if_pos (by omega)]
    · omega
    · have:=lt_of_len h1;rw [cmpI_eq,cmpI_eq,if_neg (by omega),if_pos (by omega),if_neg (by omega),if_pos (by omega)]
   refine Qj 3 J (QV sNat.und J (Qq 1 J (QV sNat.und J (Qv (gT J) (rOrder_ok _ _) J (Qq 4 J ?_)))));refine Qw J (by rw [<- e];rfl)
 · have hl:(limbs a).length=(limbs b).length:=by omega
   clear h;refine Qj 6 J (QV sNat.und J (QZ 5 J (by omega) ?_))
   refine QY (α:=Nat) (fun k=>k<=(limbs a).length/\ pre (limbs a) k - pre (limbs b) k=(a:Int) - b)
    (fun k=>[(0, .ct (natC a)),(1, .ct (natC b)),(5, .ct (intC ((k:Int) - 1)))]) (fun _=>[]) (fun k=>k) (limbs a).length ⟨Nat.le_refl _,?_⟩ (by exact Qx J) ?_
   · have e1:=Y9 a;have e2:=Y9 b;rw [<- hl] at e2;rw [e1,e2]
   intro k ⟨hk,hv⟩;dsimp only;refine Qj 7 J ?_;refine Qy J (fun h=> ?_) (fun h=> ?_)
   · obtain ⟨q,rfl⟩:∃q,k=q+1:=⟨k - 1,by omega⟩
     have e1:(((q+1:Nat):Int) - 1)=(q:Int):=by omega
     have e2:(q:Int).toNat=q:=Int.toNat_natCast q;rw [e1];refine Qj 5 J (XY 9 0x80082723060504020100 J ?_);refine Qq 2 J (Q8 0 sNat J (by omega) ?_);refine Qq 2 J (Q8 0 sNat J (by omega) ?_);refine Qq 5 J ?_;refine Qy J (fun h2=> ?_) (fun h2=> ?_)
     · rw [e2] at h2
       have e:cmpI ((limbs a).getD q 0) ((limbs b).getD q 0)=cmpI (a:Int) (b:Int):=by
        rcases Int.lt_or_gt_of_ne h2 with h3|h3
        · have:=pre_decides (Qr a) (Qr b) h3;rw [cmpI_eq,cmpI_eq,if_pos h3,if_pos (by omega)]
        · have:=pre_decides (Qr b) (Qr a) h3;rw [cmpI_eq,cmpI_eq,if_neg (by omega),if_pos h3,if_neg (by omega),if_pos (by omega)]
       refine Qj 1 J (XY 10 0x8009482723060504020100 J ?_);refine Qq 2 J (Q8 0 sNat J (by omega) ?_);refine Qq 2 J (Q8 0 sNat J (by omega) ?_);refine Qq 2 J (Qv (gT J) (rOrder_ok _ _) J ?_);rw [e2];refine Qq 4 J ?_;refine Qw J (by rw [<- e];rfl)
     · rw [e2] at h2;refine Xz 8 J (by omega) ?_;refine Qk q (by omega) ⟨by omega,?_⟩ (by exact Qx J);rw [XQ,XQ] at hv;have:(limbs a).getD q 0=(limbs b).getD q 0:=Classical.not_not.1 h2;rw [this] at hv;omega
   · have hk0:k=0:=by omega
     subst hk0;rw [ZQ,ZQ] at hv;refine Qj 8 J ?_;refine Qw J (by rw [cmpI_eq,if_neg (by omega),if_neg (by omega)];rfl)
theorem JZ(xs:List Int)(i:Nat):Ok prog 219 [intsC xs,intC i] (intC (xs.getD i 0)):=by
 refine Ok.enter func219 J _ ntmps219 J ?_
 intro S w;refine Qj 10 J (QV sNat.und J (Qq 3 J ?_));refine Qy J (fun h=> ?_) (fun h=> ?_)
 · have e2:(i:Int).toNat=i:=Int.toNat_natCast i;refine Qj 4 J (Q8 0 sNat J (by omega) ?_);refine Qq 5 J ?_;rw [e2];refine Qw J J
 · refine Qj 8 J ?_;refine Qw J (by rw [List.getD_eq_getElem?_getD,List.getElem?_eq_none (by omega)];rfl)
theorem limbs_top{n:Nat}(h:0<(limbs n).length):(limbs n).getD ((limbs n).length - 1) 0≠0:=fun h0=>by
 have h1:=trim_last h h0
 rw [trim_of_limbs] at h1
 have h2:=trim_len ((limbs n).take ((limbs n).length - 1))
 rw [h1] at h2
 simp at h2;omega
theorem getD_past{xs:List Int}{i:Nat}(h:xs.length<=i):xs.getD i 0=0:=by
 rw [List.getD_eq_getElem?_getD,List.getElem?_eq_none (by omega)];rfl
theorem rPlus_ok(a b:Nat)(ha:(limbs a).length<=1000000)(hb:(limbs b).length<=1000000):Ok prog 171 [natC a,natC b] (natC (a+b)):=by
 refine Ok.enter func171 J _ ntmps171 J ?_
 intro S w;refine Qj 22 J (Xo 5 0 3 1 J J J ?_)
 refine QY (α:=Nat × List Int × Int) (fun s=>s.2.1.length=s.1/\ OKL s.2.1/\ 0<=s.2.2/\ s.2.2<=1/\ (s.1<=max (limbs a).length (limbs b).length \/s.2.2=0)/\ s.1<=max (limbs a).length (limbs b).length+1/\ val s.2.1+s.2.2*BB ^ s.1=pre (limbs a) s.1+pre (limbs b) s.1/\
   (max (limbs a).length (limbs b).length<=s.1 ->s.2.2=0 ->trimL s.2.1=s.2.1))
  (fun s=>[(0, .ct (natC a)),(1, .ct (natC b)),(5, .own 0),(6, .ct (intC s.2.2)),(7, .ct (intC s.1))]) (fun s=>[(0, .row 3 1 (ints s.2.1))])
  (fun s=>2*(max (limbs a).length (limbs b).length - s.1)+s.2.2.toNat) (0,[],0) ⟨rfl,OKL.nil,by decide,by decide, .inr J,Nat.zero_le _,by simp [val,ZQ],fun _ _=>rfl⟩ (by exact Qx J) ?_
 rintro ⟨i,zs,c⟩ ⟨hz,hok,hc0,hc1,hor,hi,hv,ht⟩
 dsimp only at hz hok hc0 hc1 hor hi hv ht ⊢;have b1:=(Qr a).get i;have b2:=(Qr b).get i;have t1:=limbs_top (n:=a);have t2:=limbs_top (n:=b);have p1:=getD_past (xs:=limbs a) (i:=i);have p2:=getD_past (xs:=limbs b) (i:=i);simp only [BB] at b1 b2
 have step:((i:Int)<(limbs a).length \/(i:Int)<(limbs b).length \/0<c) ->
   (2*(max (limbs a).length (limbs b).length - (i+1))+((((limbs a).getD i 0+(limbs b).getD i 0+c)/1073741824).toNat)<2*(max (limbs a).length (limbs b).length - i)+c.toNat)/\
   ((zs++ [((limbs a).getD i 0+(limbs b).getD i 0+c)%1073741824]).length=i+1/\ OKL (zs++ [((limbs a).getD i 0+(limbs b).getD i 0+c)%1073741824])/\ 0<=((limbs a).getD i 0+(limbs b).getD i 0+c)/1073741824/\ ((limbs a).getD i 0+(limbs b).getD i 0+c)/1073741824<=1/\ (i+1<=max (limbs a).length (limbs b).length \/((limbs a).getD i 0+(limbs b).getD i 0+c)/1073741824=0)/\ i+1<=max (limbs a).length (limbs b).length+1/\ val (zs++ [((limbs a).getD i 0+(limbs b).getD i 0+c)%1073741824])+((limbs a).getD i 0+(limbs b).getD i 0+c)/1073741824*BB ^ (i+1)=pre (limbs a) (i+1)+pre (limbs b) (i+1)/\
   (max (limbs a).length (limbs b).length<=i+1 ->((limbs a).getD i 0+(limbs b).getD i 0+c)/1073741824=0 ->trimL (zs++ [((limbs a).getD i 0+(limbs b).getD i 0+c)%1073741824])=zs++ [((limbs a).getD i 0+(limbs b).getD i 0+c)%1073741824])):=by
  intro hgo;refine ⟨by omega,by simp [hz],hok.append (OKL.cons (by simp only [BB];omega) OKL.nil),by omega,by omega,by omega,by omega,?_,?_⟩
  · rw [YY,hz,XQ,XQ];have e:=Int.mul_ediv_add_emod ((limbs a).getD i 0+(limbs b).getD i 0+c) 1073741824;clear t1 t2 p1 p2 ht hor hgo;simp only [val,BB] at*;generalize ((limbs a).getD i 0+(limbs b).getD i 0+c)/1073741824=q at*;generalize ((limbs a).getD i 0+(limbs b).getD i 0+c)%1073741824=m at*
    grind
  · intro hm hcz
    refine trim_id ?_
    have hx:(limbs a).getD i 0+(limbs b).getD i 0+c≠0:=by
     rcases hgo with hg|hg|hg
     · rcases Nat.lt_or_ge (i+1) (limbs a).length with h5|h5
       · omega
       · have e5:(limbs a).length - 1=i:=by omega
         rw [e5] at t1;have:=t1 (by omega);omega
     · rcases Nat.lt_or_ge (i+1) (limbs b).length with h5|h5
       · omega
       · have e5:(limbs b).length - 1=i:=by omega
         rw [e5] at t2;have:=t2 (by omega);omega
     · omega
    omega
 have fin:¬((i:Int)<(limbs a).length \/(i:Int)<(limbs b).length \/0<c) ->natC (a+b)=intsC zs:=by
  intro hgo
  have hc:c=0:=by omega
  have h1:=ht (by omega) hc;rw [hc,Int.zero_mul,ZZ (by omega),ZZ (by omega),X1,X1] at hv;rw [show intsC zs=intsC (trimL zs) by rw [h1],Zk hok,show (val zs).toNat=a+b by omega]
 have e2:(i:Int).toNat=i:=Int.toNat_natCast i;clear ht hor t1 t2 p1 p2;refine Qj 5 J (QV sNat.und J (Qq 2 J (QQ 13 J (fun g1=> ?_) (fun g1=> ?_))))
 · have st:=step (.inl g1);clear step fin;refine Qq 20 J (Qv (gT J) (JZ (limbs a) i) J (Qq 2 J (Qv (gT J) (JZ (limbs b) i) J (QZ 11 J (by omega) ?_))));refine Qo J J sNat J J J (QJ zs.length (ints (zs++ [((limbs a).getD i 0+(limbs b).getD i 0+c)%1073741824])) J J J J sNat (by simp [ints]) J (by omega) (by omega) (by simp [ints]) J ?_);refine QZ 15 J (by omega) ?_;refine Qk (i+1,zs++ [((limbs a).getD i 0+(limbs b).getD i 0+c)%1073741824],((limbs a).getD i 0+(limbs b).getD i 0+c)/1073741824) st.1 st.2 (by exact Qx J)
 · refine Qq 2 J (QV sNat.und J (Qq 3 J (QQ 19 J (fun g2=> ?_) (fun g2=> ?_))))
   · have st:=step (.inr (.inl g2));clear step fin;refine Qq 14 J (Qv (gT J) (JZ (limbs a) i) J (Qq 2 J (Qv (gT J) (JZ (limbs b) i) J (QZ 11 J (by omega) ?_))));refine Qo J J sNat J J J (QJ zs.length (ints (zs++ [((limbs a).getD i 0+(limbs b).getD i 0+c)%1073741824])) J J J J sNat (by simp [ints]) J (by omega) (by omega) (by simp [ints]) J ?_);refine QZ 15 J (by omega) ?_;refine Qk (i+1,zs++ [((limbs a).getD i 0+(limbs b).getD i 0+c)%1073741824],((limbs a).getD i 0+(limbs b).getD i 0+c)/1073741824) st.1 st.2 (by exact Qx J)
   · refine Qq 5 J ?_;refine Qy J (fun g3=> ?_) (fun g3=> ?_)
     · have st:=step (.inr (.inr g3));clear step fin;refine Qj 8 J (Qv (gT J) (JZ (limbs a) i) J (Qq 2 J (Qv (gT J) (JZ (limbs b) i) J (QZ 11 J (by omega) ?_))));refine Qo J J sNat J J J (QJ zs.length (ints (zs++ [((limbs a).getD i 0+(limbs b).getD i 0+c)%1073741824])) J J J J sNat (by simp [ints]) J (by omega) (by omega) (by simp [ints]) J ?_);refine QZ 15 J (by omega) ?_;refine Qk (i+1,zs++ [((limbs a).getD i 0+(limbs b).getD i 0+c)%1073741824],((limbs a).getD i 0+(limbs b).getD i 0+c)/1073741824) st.1 st.2 (by exact Qx J)
     · have fe:=fin (by omega);refine X6 0 _ J (X2 _ _) noBor_sub (Qj 9 J ?_);refine Qw J (by rw [fe];rfl)
theorem val_sub_done{a b:Nat}{zs:List Int}{c:Int}(hok:OKL zs)(hzl:zs.length=(limbs a).length)(hb:b<=a)(hc0:0<=c)(hc1:c<=1)
  (hv:val zs - c*BB ^ (limbs a).length=pre (limbs a) (limbs a).length - pre (limbs b) (limbs a).length):trimL zs=limbs (a - b):=by
 have hlb:=Qm hb;rw [Zk hok];rw [ZZ (Nat.le_refl _),ZZ hlb,X1,X1] at hv;have hp:0<BB ^ (limbs a).length:=Int.pow_pos (by decide);have h1:=Y4 hok (limbs a).length;rw [ZZ (by omega)] at h1
 have hc:c=0:=by
  rcases Int.lt_or_le 0 c with hc|hc
  · have:c=1:=by omega
    subst this;rw [Int.one_mul] at hv;omega
  · omega
 subst hc;rw [Int.zero_mul] at hv
 congr 1;omega
theorem less_step{v c P A B x y d c' K:Int}(h:v - c*P=A - B)(e:x - y - c=d - c' *K):v+P*d - c' *(P*K)=(A+x*P) - (B+y*P):=by
 have h2:P*(x - y - c)=P*(d - c' *K):=by rw [e]
 grind
theorem rLess_ok(a b:Nat)(hb:b<=a)(hx:(limbs a).length<=1000000):Ok prog 173 [natC a,natC b] (natC (a - b)):=by
 refine Ok.enter func173 J _ ntmps173 J ?_
 intro S w;refine Qj 22 J (Xo 5 0 3 1 J J J ?_)
 refine QY (α:=Nat × List Int × Int) (fun s=>s.1<=(limbs a).length/\ s.2.1.length=s.1/\ OKL s.2.1/\ 0<=s.2.2/\ s.2.2<=1/\ val s.2.1 - s.2.2*BB ^ s.1=pre (limbs a) s.1 - pre (limbs b) s.1)
  (fun s=>[(0, .ct (natC a)),(1, .ct (natC b)),(5, .own 0),(6, .ct (intC s.2.2)),(7, .ct (intC s.1))])
  (fun s=>[(0, .row 3 1 (ints s.2.1))])
  (fun s=>(limbs a).length - s.1) (0,[],0) ⟨Nat.zero_le _,rfl,OKL.nil,by decide,by decide,by simp [val,ZQ]⟩ (by exact Qx J) ?_
 rintro ⟨i,zs,c⟩ ⟨hi,hz,hok,hc0,hc1,hv⟩
 dsimp only at hi hz hok hc0 hc1 hv ⊢;refine Qj 5 J (QV sNat.und J (Qq 3 J ?_));refine Qy J (fun h=> ?_) (fun h=> ?_)
 · have b1:=(Qr a).get i;have b2:=(Qr b).get i;simp only [BB] at b1 b2;have e2:(i:Int).toNat=i:=Int.toNat_natCast i;refine Qj 5 J (XY 11 0x800a09074623080504020100 J ?_);refine Qq 2 J (Q8 0 sNat J (by omega) ?_);refine Qq 4 J ?_;rw [e2];refine Qv (gT J) (JZ (limbs b) i) J (QZ 17 J (by omega) ?_);refine Qy J (fun h2=> ?_) (fun h2=> ?_)
   · refine Xz 14 J (by omega) ?_;refine Qo J J sNat J J J (QJ zs.length (ints (zs++ [(limbs a).getD i 0 - (limbs b).getD i 0 - c+1073741824])) J J J J sNat (by simp [ints]) J (by omega) (by omega) (by simp [ints]) J ?_);refine QZ 9 J (by omega) ?_;refine Qk (i+1,zs++ [(limbs a).getD i 0 - (limbs b).getD i 0 - c+1073741824],1) (by dsimp only;omega) ⟨by dsimp only;omega,by simp [hz],?_,by show (0:Int)<=1;decide,by show (1:Int)<=1;decide,?_⟩ (by exact Qx J)
     all_goals dsimp only
     · exact hok.append (OKL.cons (by simp only [BB];omega) OKL.nil)
     · rw [YY,hz,XQ,XQ,Int.pow_succ];simp only [val,Int.mul_zero,Int.add_zero];exact less_step hv (by simp only [BB];omega)
   · refine Qj 5 J (Qo J J sNat J J J (QJ zs.length (ints (zs++ [(limbs a).getD i 0 - (limbs b).getD i 0 - c])) J J J J sNat (by simp [ints]) J (by omega) (by omega) (by simp [ints]) J ?_));refine QZ 9 J (by omega) ?_;refine Qk (i+1,zs++ [(limbs a).getD i 0 - (limbs b).getD i 0 - c],0) (by dsimp only;omega) ⟨by dsimp only;omega,by simp [hz],?_,by show (0:Int)<=0;decide,by show (0:Int)<=1;decide,?_⟩ (by exact Qx J)
     all_goals dsimp only
     · exact hok.append (OKL.cons (by simp only [BB];omega) OKL.nil)
     · rw [YY,hz,XQ,XQ,Int.pow_succ];simp only [val,Int.mul_zero,Int.add_zero];exact less_step hv (by simp only [BB];omega)
 · have hi' :i=(limbs a).length:=by omega
   subst hi';have e4:=val_sub_done hok hz hb hc0 hc1 hv;refine X6 0 _ J (X2 _ _) noBor_sub (Qj 5 J (Qv (gT J) (rTrim_ok zs (by omega)) J ?_));rw [e4];refine Qq 4 J ?_;refine Qw J J
theorem rhalf_ok(a:Nat)(hl:(limbs a).length<=1000000):Ok prog 222 [natC a] (natC (a/2)):=by
 refine Ok.enter func222 J _ ntmps222 J ?_
 intro S w;refine Qj 8 J (QV sNat.und J (ZV 0 (limbs a).length J J J J sNat (by omega) (by omega) J J J ?_));rw [ints_made];refine Qq 12 J (QV sNat.und J (QZ 5 J (by omega) ?_))
 refine QY (α:=Nat × List Int × Int) (fun s=>s.1<=(limbs a).length/\ s.2.1.length=(limbs a).length/\ OKL s.2.1/\ (∀j,j<s.1 ->s.2.1.getD j 0=0)/\ 0<=s.2.2/\ s.2.2<2/\ val s.2.1*2+s.2.2*BB ^ s.1=val (limbs a) - pre (limbs a) s.1)
  (fun s=>[(0, .ct (natC a)),(3, .own 0),(4, .ct (intC s.2.2)),(5, .ct (intC ((s.1:Int) - 1)))])
  (fun s=>[(0, .row 3 1 (ints s.2.1))]) (fun s=>s.1) ((limbs a).length,List.replicate (limbs a).length 0,0) ⟨Nat.le_refl _,by simp,OKL.zeros _,?_,Int.le_refl _,by show (0:Int)<2;decide,?_⟩ (by exact Qx J) ?_
 · intro j _;simp [List.getD_eq_getElem?_getD,List.getElem?_replicate];split <;>rfl
 · dsimp only;rw [Yg,ZZ (Nat.le_refl _)];simp
 rintro ⟨q,zs,rest⟩ ⟨hq,hzl,hok,hz,hr0,hr1,hv⟩
 dsimp only at hq hzl hok hz hr0 hr1 hv ⊢;refine Qj 7 J ?_;refine Qy J (fun h=> ?_) (fun h=> ?_)
 · obtain ⟨i,rfl⟩:∃i,q=i+1:=⟨q - 1,by omega⟩
   have e1:(((i+1:Nat):Int) - 1)=(i:Int):=by omega
   have e2:(i:Int).toNat=i:=Int.toNat_natCast i
   have e3:(i:Int).toNat*1=i:=by omega
   have bx:=(Qr a).get i;simp only [BB] at bx;rw [e1];refine Qj 8 J (Q8 0 sNat J (by omega) ?_);refine QZ 3 J (by omega) ?_;rw [e2]
   refine QZ 10 J (by omega) ?_;rw [show (limbs a).getD i 0+rest*1073741824=rest*1073741824+(limbs a).getD i 0 from Int.add_comm _ _];refine Qf (limbs a).length J J J (by simp [ints];omega) J sNat (by omega) (by omega) J ?_
   rw [e3]
   refine Qa J J J J J zInt (by simp [Ent.cs,ints];omega) ?_
   simp only [Ent.setc,Zz];refine QZ 14 J (by omega) ?_;refine Qk (i,zs.set i ((rest*1073741824+(limbs a).getD i 0)/2),(rest*1073741824+(limbs a).getD i 0)%2) (by dsimp only;omega) ⟨by dsimp only;omega,by simp [hzl],?_,?_,by dsimp only;omega,by dsimp only;omega,?_⟩ (by exact Qx J)
   all_goals dsimp only
   · exact hok.set _ (by simp only [BB];omega)
   · intro j hj;rw [getD_set (by omega),if_neg (by omega)];exact hz j (by omega)
   · rw [JQ (by omega),hz i (by omega),Int.sub_zero];exact top_step hv
 · have hq0:q=0:=by omega
   subst hq0
   have e4:val zs*2+rest=a:=by rw [ZQ,X1] at hv;simpa using hv
   have e5:(val zs).toNat=a/2:=by omega
   refine X6 0 _ J (X2 _ _) noBor_sub (Qj 5 J (Qv (gT J) (rTrim_ok zs (by omega)) J ?_));rw [Zk hok,e5];refine Qq 4 J ?_;refine Qw J J
theorem rTimes_ok(a b:Nat)(hx:(limbs a).length+(limbs b).length<=1000000):Ok prog 170 [natC a,natC b] (natC (a*b)):=by
 refine Ok.enter func170 Y _ ntmps170 Y ?_
 intro S w;refine Qj 8 Y (QV sNat.und Y (Qq 1 Y (QV sNat.und Y (QZ 1 Y (by omega) ?_))));refine ZV 0 ((limbs a).length+(limbs b).length) Y Y Y (by omega) sNat (by omega) (by omega) Y Y Y ?_
 rw [ints_made];refine Qq 10 Y ?_
 refine QY (α:=Nat × List Int) (fun s=>s.1<=(limbs a).length/\ s.2.length=(limbs a).length+(limbs b).length/\ OKL s.2/\ (∀j,s.1+(limbs b).length<=j ->s.2.getD j 0=0)/\ val s.2=pre (limbs a) s.1*b)
  (fun s=>[(0, .ct (natC a)),(1, .ct (natC b)),(5, .own 0),(6, .ct (intC s.1))])
  (fun s=>[(0, .row 3 1 (ints s.2))])
  (fun s=>(limbs a).length - s.1) (0,List.replicate ((limbs a).length+(limbs b).length) 0) ⟨Nat.zero_le _,by simp,OKL.zeros _,?_,?_⟩ (by exact Qx Y) ?_
 · intro j _;simp [List.getD_eq_getElem?_getD,List.getElem?_replicate];split <;>rfl
 · rw [ZQ,Yg];simp
 rintro ⟨i,out⟩ ⟨hi,hlen,hok,hz,hv⟩
 dsimp only at hi hlen hok hz hv ⊢;refine Qj 5 Y (QV sNat.und Y (Qq 3 Y ?_));refine Qy Y (fun h=> ?_) (fun h=> ?_)
 · have bx:=(Qr a).get i;have eix:(i:Int).toNat=i:=Int.toNat_natCast i;refine Qj 15 Y ?_
   refine QY (α:=Nat × List Int × Int) (fun s=>(s.1<=(limbs b).length \/s.2.2=0)/\ s.1<=(limbs b).length+1/\ s.2.1.length=(limbs a).length+(limbs b).length/\ OKL s.2.1/\ (∀j,i+(limbs b).length+1<=j ->s.2.1.getD j 0=0)/\ (s.1<=(limbs b).length ->s.2.1.getD (i+(limbs b).length) 0=0)/\ 0<=s.2.2/\ s.2.2<BB/\
     val s.2.1+s.2.2*BB ^ (i+s.1)=val out+(limbs a).getD i 0*pre (limbs b) s.1*BB ^ i)
    (fun s=>[(0, .ct (natC a)),(1, .ct (natC b)),(5, .own 0),(6, .ct (intC i)),(7, .ct (intC s.2.2)),(8, .ct (intC s.1))])
    (fun s=>[(0, .row 3 1 (ints s.2.1))])
    (fun s=>(limbs b).length+2 - s.1) (0,out,0) ⟨.inr Y,Nat.zero_le _,hlen,hok,fun j hj=>hz j (by omega),fun _=>hz _ (Nat.le_refl _),Int.le_refl _,by show (0:Int)<BB;decide,by rw [ZQ];simp⟩ (by exact Qx Y) ?_
   rintro ⟨q,zs,c⟩ ⟨hqc,hq,hzl,hzok,hzz,hzt,hc0,hc1,hzv⟩
   dsimp only at hqc hq hzl hzok hzz hzt hc0 hc1 hzv ⊢
   have by' :=(Qr b).get q
   have bz:=hzok.get (i+q)
   have bm:=mul_bd bx by'
   have hpast:=getD_past (xs:=limbs b) (i:=q);simp only [BB] at bz hc1 bx;have eq1:(q:Int).toNat=q:=Int.toNat_natCast q
   have eiq:((i:Int)+q).toNat*1=i+q:=by omega
   have step:q<=(limbs b).length ->
     ((limbs b).length+2 - (q+1)<(limbs b).length+2 - q)/\ ((q+1<=(limbs b).length \/(zs.getD (i+q) 0+(limbs a).getD i 0*(limbs b).getD q 0+c)/1073741824=0)/\ q+1<=(limbs b).length+1/\ (zs.set (i+q) ((zs.getD (i+q) 0+(limbs a).getD i 0*(limbs b).getD q 0+c)%1073741824)).length=(limbs a).length+(limbs b).length/\ OKL (zs.set (i+q) ((zs.getD (i+q) 0+(limbs a).getD i 0*(limbs b).getD q 0+c)%1073741824))/\ (∀j,i+(limbs b).length+1<=j ->(zs.set (i+q) ((zs.getD (i+q) 0+(limbs a).getD i 0*(limbs b).getD q 0+c)%1073741824)).getD j 0=0)/\ (q+1<=(limbs b).length ->(zs.set (i+q) ((zs.getD (i+q) 0+(limbs a).getD i 0*(limbs b).getD q 0+c)%1073741824)).getD (i+(limbs b).length) 0=0)/\ 0<=(zs.getD (i+q) 0+(limbs a).getD i 0*(limbs b).getD q 0+c)/1073741824/\ (zs.getD (i+q) 0+(limbs a).getD i 0*(limbs b).getD q 0+c)/1073741824<BB/\
     val (zs.set (i+q) ((zs.getD (i+q) 0+(limbs a).getD i 0*(limbs b).getD q 0+c)%1073741824))+(zs.getD (i+q) 0+(limbs a).getD i 0*(limbs b).getD q 0+c)/1073741824*BB ^ (i+(q+1))=val out+(limbs a).getD i 0*pre (limbs b) (q+1)*BB ^ i):=by
    intro hqb;refine ⟨by omega,?_,by omega,by simp [hzl],hzok.set _ (by simp only [BB];omega),?_,?_,by omega,by simp only [BB];omega,?_⟩
    · rcases Nat.lt_or_ge q (limbs b).length with h5|h5
      · exact .inl h5
      · have h6:q=(limbs b).length:=by omega
        right;have:=hzt hqb;rw [<- h6] at this;rw [this,hpast h5,Int.mul_zero];omega
    · intro j hj;rw [getD_set (by omega),if_neg (by omega)];exact hzz j hj
    · intro h5;rw [getD_set (by omega),if_neg (by omega)];exact hzt hqb
    · rw [JQ (by omega),XQ,show i+(q+1)=(i+q)+1 by omega,Int.pow_succ,Int.pow_add];rw [Int.pow_add] at hzv;have e:=Int.mul_ediv_add_emod (zs.getD (i+q) 0+(limbs a).getD i 0*(limbs b).getD q 0+c) 1073741824
      clear hpast hzt hzz hqc bm by' bz hz
      simp only [BB] at*;generalize (zs.getD (i+q) 0+(limbs a).getD i 0*(limbs b).getD q 0+c)/1073741824=Q at*;generalize (zs.getD (i+q) 0+(limbs a).getD i 0*(limbs b).getD q 0+c)%1073741824=M at*;generalize (1073741824:Int) ^ i=I at*;generalize (1073741824:Int) ^ q=J at*;generalize zs.getD (i+q) 0=z at*;generalize (limbs a).getD i 0=x at*;generalize (limbs b).getD q 0=y at*;generalize pre (limbs b) q=pb at*;generalize val zs=vz at*;generalize val out=vo at*
      grind
   have fin:¬((q:Int)<(limbs b).length) ->¬(0<c) ->(i+1<=(limbs a).length/\ zs.length=(limbs a).length+(limbs b).length/\ OKL zs/\ (∀j,i+1+(limbs b).length<=j ->zs.getD j 0=0)/\ val zs=pre (limbs a) (i+1)*b):=by
    intro g1 g2;refine ⟨by omega,hzl,hzok,fun j hj=>hzz j (by omega),?_⟩
    have hc:c=0:=by omega
    rw [hc,Int.zero_mul,Int.add_zero,ZZ (xs:=limbs b) (by omega),X1,hv] at hzv;rw [hzv,XQ];grind
   refine Qj 5 Y (QV sNat.und Y (Qq 2 Y (QQ 26 Y (fun g1=> ?_) (fun g1=> ?_))))
   · have st:=step (by omega);clear step fin;refine Qq 11 Y (XY 18 0x8011100e0d4c29250f0b0a0807060403020100 Y ?_);refine QZ 4 Y (by omega) ?_;refine Qf ((limbs a).length+(limbs b).length) Y Y Y (by simp [ints];omega) Y sNat (by omega) (by omega) Y ?_
     rw [eiq];refine Qq 2 Y (Q8 0 sNat Y (by omega) ?_);refine Qq 3 Y ?_;rw [eix]
     refine QK Y Y Y Y (XK (by omega)) lInt Y ?_;refine Qq 1 Y (Qv (gT J) (JZ (limbs b) q) Y (QZ 14 Y (by omega) ?_));refine Qf ((limbs a).length+(limbs b).length) Y Y Y (by simp [ints];omega) Y sNat (by omega) (by omega) Y ?_
     rw [eiq]
     refine Qa Y Y Y Y Y zInt (by simp [Ent.cs,ints];omega) ?_
     simp only [Ent.setc,Zz];refine QZ 14 Y (by omega) ?_;refine Qk (q+1,zs.set (i+q) ((zs.getD (i+q) 0+(limbs a).getD i 0*(limbs b).getD q 0+c)%1073741824),(zs.getD (i+q) 0+(limbs a).getD i 0*(limbs b).getD q 0+c)/1073741824) st.1 st.2 (by exact Qx Y)
   · refine Qq 5 Y ?_;refine Qy Y (fun g2=> ?_) (fun g2=> ?_)
     · have st:=step (by omega);clear step fin;refine Qj 5 J (XY 18 0x8011100e0d4c29250f0b0a0807060403020100 Y ?_);refine QZ 4 Y (by omega) ?_;refine Qf ((limbs a).length+(limbs b).length) Y Y Y (by simp [ints];omega) Y sNat (by omega) (by omega) Y ?_
       rw [eiq];refine Qq 2 Y (Q8 0 sNat Y (by omega) ?_);refine Qq 3 Y ?_;rw [eix]
       refine QK Y Y Y Y (XK (by omega)) lInt Y ?_;refine Qq 1 Y (Qv (gT J) (JZ (limbs b) q) Y (QZ 14 Y (by omega) ?_));refine Qf ((limbs a).length+(limbs b).length) Y Y Y (by simp [ints];omega) Y sNat (by omega) (by omega) Y ?_
       rw [eiq]
       refine Qa Y Y Y Y Y zInt (by simp [Ent.cs,ints];omega) ?_
       simp only [Ent.setc,Zz];refine QZ 14 Y (by omega) ?_;refine Qk (q+1,zs.set (i+q) ((zs.getD (i+q) 0+(limbs a).getD i 0*(limbs b).getD q 0+c)%1073741824),(zs.getD (i+q) 0+(limbs a).getD i 0*(limbs b).getD q 0+c)/1073741824) st.1 st.2 (by exact Qx Y)
     · have fe:=fin g1 g2;clear step fin;refine Xz 8 Y (by omega) ?_;refine Qk (i+1,zs) (by dsimp only;omega) fe (by exact Qx Y)
 · have hi' :i=(limbs a).length:=by omega
   have e4:trimL out=limbs (a*b):=by
    rw [Zk hok,hv,hi',ZZ (Nat.le_refl _),X1]
    congr 1
   refine X6 0 _ Y (X2 _ _) noBor_sub (Qj 5 Y (Qv (gT J) (rTrim_ok out (by omega)) Y ?_));rw [e4];refine Qq 4 Y ?_;refine Qw Y Y
theorem uU64:prog.underlying 220=some (.int .u64):=underlying220
theorem uI64:prog.underlying 3=some (.int .i64):=underlying3
abbrev wordC (x : Int) : CT := .ex (.int .u64 x)
theorem rWord_ok(n:Nat)(hn:n<18446744073709551616):Ok prog 218 [wordC n] (natC n):=by
 refine Ok.enter func218 J _ ntmps218 J ?_
 intro S w;refine Qj 12 J (Xo 3 0 3 1 J J J ?_)
 refine QY (α:=Nat × List Int) (fun s=>s.1<=n/\ limbs n=s.2++limbs s.1)
  (fun s=>[(0, .ct (wordC s.1)),(3, .own 0)]) (fun s=>[(0, .row 3 1 (ints s.2))]) (fun s=>s.1) (n,[]) ⟨Nat.le_refl _,rfl⟩ (by exact Qx J) ?_
 rintro ⟨m,zs⟩ ⟨hm,hv⟩
 dsimp only at hm hv ⊢
 have hl:zs.length<=64:=by
  have h1:=congrArg List.length hv;have h2:=Q6 (n:=n) (k:=3) (by omega);simp at h1;omega
 refine Qj 7 J ?_;refine Qy J (fun h=> ?_) (fun h=> ?_)
 · refine Qj 7 J (Qh (urem (by omega) (by omega)) J J J J ?_);refine Z0 J J uU64 uI64 (Zi (by omega) (by omega)) J ?_;refine Qo J J sNat J J J (QJ zs.length (ints (zs++ [(m:Int)%1073741824])) J J J J sNat (by simp [ints]) J (by omega) (by omega) (by simp [ints]) J ?_);refine Qq 5 J (Qh (uquo (by omega) (by omega) (by omega)) J J J J ?_);refine Qq 3 J (Qk (m/1073741824,zs++ [(m:Int)%1073741824]) (by dsimp only;omega) ⟨by dsimp only;omega,?_⟩ ?_)
   all_goals dsimp only
   · rw [hv,limbs_pos (n:=m) (by omega)];simp
   · exact QW J ⟨by rw [Int.natCast_ediv];rfl,rfl,trivial⟩
 · have:m=0:=by omega
   subst this;rw [limbs_zero,List.append_nil] at hv;subst hv;refine X6 0 _ J (X2 _ _) noBor_sub (Qj 9 J ?_);refine Qw J J
theorem cmpI_le{a b:Int}:cmpI a b<=0↔a<=b:=by unfold cmpI;split <;>(try split) <;>omega
theorem rTimes_one(b m:Nat)(h0:0<m)(h1:m<1073741824)(hl:(limbs b).length<=100000):Ok prog 170 [natC b, .fr (sliceT 1 [[intC m]])] (natC (b*m)):=by
 have h:=rTimes_ok b m (by rw [limbs_one h0 h1];simp;omega)
 have e:natC m= .fr (sliceT 1 [[intC m]]):=by show intsC (limbs m)=_;rw [limbs_one h0 h1];rfl
 rw [<- e];exact h
theorem split_step{v b r R A p x P d:Int}(K:Int)(hR:R=r*K+x)(hv:v*b+r*(P*K)=A - (p+x*P)):(v+d*P)*b+(R - b*d)*P=A - p:=by
 subst hR;grind
theorem len_lt_mul{R b k:Nat}(h:(limbs b).length<=k)(hR:R<b*1073741824):(limbs R).length<=k+1:=by
 refine Q6 ?_
 rw [Nat.pow_succ];exact Nat.lt_trans hR (Nat.mul_lt_mul_of_pos_right (Xu h) (by decide))
theorem rSplit_ok(a b:Nat)(hb:0<b)(la:(limbs a).length<=10000)(lb:(limbs b).length<=10000):Ok prog 175 [natC a,natC b] (.tup [natC (a/b),natC (a%b)]):=by
 refine Ok.enter func175 J _ ntmps175 J ?_
 intro S w;refine Qj 9 J (QV sNat.und J (ZV 0 (limbs a).length J J J J sNat (by omega) (by omega) J J J ?_));rw [ints_made];refine Qq 12 J (QV sNat.und J (QZ 5 J (by omega) ?_));refine St.asNil 7 1 J ?_
 refine QY (α:=Nat × List Int × Nat) (fun s=>s.1<=(limbs a).length/\ s.2.1.length=(limbs a).length/\ OKL s.2.1/\ (∀j,j<s.1 ->s.2.1.getD j 0=0)/\ s.2.2<b/\ val s.2.1*b+s.2.2*BB ^ s.1=val (limbs a) - pre (limbs a) s.1)
  (fun s=>[(0, .ct (natC a)),(1, .ct (natC b)),(6, .own 0),(7, .ct (natC s.2.2)),(8, .ct (intC ((s.1:Int) - 1)))])
  (fun s=>[(0, .row 3 1 (ints s.2.1))]) (fun s=>s.1) ((limbs a).length,List.replicate (limbs a).length 0,0) ⟨Nat.le_refl _,by simp,OKL.zeros _,?_,hb,?_⟩ (by exact QW J ⟨rfl,rfl,rfl,by rw [natC_zero];rfl,rfl,trivial⟩) ?_
 · intro j _;simp [List.getD_eq_getElem?_getD,List.getElem?_replicate];split <;>rfl
 · dsimp only;rw [Yg,ZZ (Nat.le_refl _)];simp
 rintro ⟨q,zs,rr⟩ ⟨hq,hzl,hok,hz,hrb,hv⟩
 dsimp only at hq hzl hok hz hrb hv ⊢;refine Qj 7 J ?_;refine Qy J (fun h=> ?_) (fun h=> ?_)
 · obtain ⟨i,rfl⟩:∃i,q=i+1:=⟨q - 1,by omega⟩
   have e1:(((i+1:Nat):Int) - 1)=(i:Int):=by omega
   have e2:(i:Int).toNat=i:=Int.toNat_natCast i
   have e3:(i:Int).toNat*1=i:=by omega
   have bx:=(Qr a).get i;simp only [BB] at bx;obtain ⟨R,hR⟩:∃R:Nat,(R:Int)=rr*1073741824+(limbs a).getD i 0:=⟨((rr:Int)*1073741824+(limbs a).getD i 0).toNat,by omega⟩;have lrr:(limbs rr).length<=10000:=Nat.le_trans (Qm (Nat.le_of_lt hrb)) lb
   have eT:trimL ((limbs a).getD i 0::limbs rr)=limbs R:=by
    rw [Zk (OKL.cons (by simp only [BB];omega) (Qr rr))];simp only [val];rw [X1];congr 1;simp only [BB];omega
   have hRb:R<b*1073741824:=by
    have h1:(rr+1)*1073741824<=b*1073741824:=Nat.mul_le_mul_right _ (by omega);omega
   have lR:(limbs R).length<=10001:=len_lt_mul lb hRb;rw [XQ,Int.pow_succ] at hv;rw [e1];refine Qj 8 J (Q8 0 sNat J (by omega) ?_);refine Qq 1 J ?_
   rw [e2];refine Ops.lit1E 1 J J sNat J J J J J (Qq 1 J (Ops.append 1 (ints ((limbs a).getD i 0::limbs rr)) J J J J sNat J ?_ (by simp;omega) (by simp;omega) ?_ J ?_))
   · rw [flat_one];exact ints_ones _
   · rw [flat_one];rfl
   refine Zw 1 _ J (X2 _ _) noBor_sub (Qv (gT J) (rTrim_ok _ (by simp;omega)) J ?_);rw [eT];refine Qq 8 J (Qv (gT J) (rCompare_ok R b (by omega) (by omega)) J ?_);refine Qq 3 J ?_;refine Qy J (fun h2=> ?_) (fun h2=> ?_)
   · rw [cmpI_neg] at h2;refine Xz 8 J (by omega) ?_;refine Qk (i,zs,R) (by dsimp only;omega) ⟨by dsimp only;omega,hzl,hok,fun j hj=>hz j (by dsimp only at hj;omega),by dsimp only;omega,?_⟩ (by exact Qx J);dsimp only;have:=split_step (d:=0) BB hR hv
     simpa using this
   · rw [cmpI_neg] at h2;refine Qj 10 J ?_
     refine QY (α:=Nat × Nat) (fun s=>1<=s.1/\ s.1<=s.2/\ s.2<=1073741823/\ b*s.1<=R/\ R<b*(s.2+1))
      (fun s=>[(0, .ct (natC a)),(1, .ct (natC b)),(6, .own 0),(7, .ct (natC R)),(8, .ct (intC i)),(9, .ct (intC s.1)),(10, .ct (intC s.2))])
      (fun _=>[(0, .row 3 1 (ints zs))]) (fun s=>s.2 - s.1) (1,1073741823) ⟨Nat.le_refl _,by decide,Nat.le_refl _,by omega,hRb⟩ (by exact Qx J) ?_
     rintro ⟨lo,hi⟩ ⟨k1,k2,k3,k4,k5⟩
     dsimp only at k1 k2 k3 k4 k5 ⊢;refine Qj 8 J ?_;refine Qy J (fun h3=> ?_) (fun h3=> ?_)
     · obtain ⟨m,hm⟩:∃m:Nat,m=(lo+hi+1)/2:=⟨_,rfl⟩
       have em:((lo:Int)+hi+1)/2=(m:Int):=by omega
       have lbm:(limbs (b*m)).length<=10001:=Nat.le_trans XZ (by
        have:=Q6 (n:=m) (k:=1) (by omega)
        omega)
       refine Xz 17 J (by omega) ?_;rw [em];refine Qo J J sNat J J J (Qv (gT J) (rTimes_one b m (by omega) (by omega) (by omega)) J ?_);refine Qq 1 J (Qv (gT J) (rCompare_ok (b*m) R (by omega) (by omega)) J ?_);refine Qq 3 J ?_;refine Qy J (fun h4=> ?_) (fun h4=> ?_)
       · rw [cmpI_le] at h4;refine Qj 5 J ?_;refine Qk (m,hi) (by dsimp only;omega) ⟨by dsimp only;omega,by dsimp only;omega,k3,by dsimp only;omega,k5⟩ (by exact Qx J)
       · rw [cmpI_le] at h4;refine Xz 6 J (by omega) ?_;refine Qk (lo,m - 1) (by dsimp only;omega) ⟨k1,by dsimp only;omega,by dsimp only;omega,k4,?_⟩ (by exact QW J ⟨rfl,rfl,rfl,rfl,rfl,rfl,by rw [show ((m - 1:Nat):Int)=(m:Int) - 1 by omega];rfl,trivial⟩);dsimp only;rw [show m - 1+1=m by omega];omega
     · have h6:lo=hi:=by omega
       subst h6
       have lbm:(limbs (b*lo)).length<=10001:=Nat.le_trans XZ (by
        have:=Q6 (n:=lo) (k:=1) (by omega)
        omega)
       refine Qj 7 J (Qf (limbs a).length J J J (by simp [ints];omega) J sNat (by omega) (by omega) J ?_);rw [e3]
       refine Qa J J J J J zInt (by simp [Ent.cs,ints];omega) ?_
       simp only [Ent.setc,Zz];refine Qq 6 J (Qo J J sNat J J J (Qv (gT J) (rTimes_one b lo (by omega) (by omega) (by omega)) J ?_));refine Qv (gT J) (rLess_ok R (b*lo) k4 (by omega)) J ?_;refine QZ 9 J (by omega) ?_;refine Qk (i,zs.set i (lo:Int),R - b*lo) (by dsimp only;omega) ⟨by dsimp only;omega,by simp [hzl],?_,?_,?_,?_⟩ (by exact Qx J)
       all_goals dsimp only
       · exact hok.set _ (by simp only [BB];omega)
       · intro j hj;rw [getD_set (by omega),if_neg (by omega)];exact hz j (by omega)
       · rw [Nat.mul_add] at k5;omega
       · rw [JQ (by omega),hz i (by omega),Int.sub_zero,show ((R - b*lo:Nat):Int)=(R:Int) - b*lo by rw [Int.natCast_sub k4,Int.natCast_mul]];exact split_step BB hR hv
 · have hq0:q=0:=by omega
   subst hq0
   have e4:val zs*b+rr=a:=by rw [ZQ,X1] at hv;simpa using hv
   have hvz:=Yb hok;obtain ⟨Q,hQ⟩:∃Q:Nat,val zs=Q:=⟨(val zs).toNat,by omega⟩;rw [hQ] at e4
   have e4' :a=rr+Q*b:=by
    have:((Q*b+rr:Nat):Int)=a:=by rw [Int.natCast_add,Int.natCast_mul];exact e4
    omega
   have e5:a/b=Q/\ a%b=rr:=by
    rw [e4'];constructor
    · rw [Nat.add_mul_div_right _ _ hb,Nat.div_eq_of_lt hrb];omega
    · rw [Nat.add_mul_mod_self_right,Nat.mod_eq_of_lt hrb]
   refine X6 0 _ J (X2 _ _) noBor_sub (Qj 5 J (Qv (gT J) (rTrim_ok zs (by omega)) J ?_));rw [Zk hok,hQ,Int.toNat_natCast];refine Qq 6 J ?_;refine Qw J (by rw [e5.1,e5.2];rfl)
theorem limbs_get0{x:Nat}(h:x≠0):(limbs x).getD 0 0=((x%1073741824:Nat):Int):=by rw [limbs_pos h];rfl
theorem gcd_half{x y:Nat}(hx:x%2=0)(hy:y%2=1):Nat.gcd (x/2) y=Nat.gcd x y:=by
 have e:x=2*(x/2):=by omega
 have hc:Nat.Coprime 2 y:=by
  unfold Nat.Coprime;rw [Nat.gcd_rec,hy];rfl
 conv=>rhs;rw [e]
 exact (hc.gcd_mul_left_cancel _).symm
theorem gcd_two{x y:Nat}(hx:x%2=0)(hy:y%2=0):2*Nat.gcd (x/2) (y/2)=Nat.gcd x y:=by
 rw [<- Nat.gcd_mul_left,show 2*(x/2)=x by omega,show 2*(y/2)=y by omega]
theorem gcd_less{x y:Nat}(h:y<=x):Nat.gcd (x - y) y=Nat.gcd x y:=by
 conv=>rhs;rw [show x=(x - y)+y by omega]
 rw [Nat.gcd_add_self_left]
theorem len_add{x y k:Nat}(h1:x<1073741824 ^ k)(h2:y<1073741824 ^ k):(limbs (x+y)).length<=k+1:=by
 refine Q6 ?_
 rw [Nat.pow_succ];omega
theorem rGcd_ok(a b:Nat)(la:(limbs a).length<=10000)(lb:(limbs b).length<=10000):Ok prog 174 [natC a,natC b] (natC (Nat.gcd a b)):=by
 refine Ok.enter func174 J _ ntmps174 J ?_
 intro S w;refine Qj 9 J (QV sNat.und J (Qq 2 J ?_))
 have early:(limbs a).length=0 \/(limbs b).length=0 ->natC (Nat.gcd a b)=natC (a+b):=by
  rintro (h|h)
  · have:a=0:=limbs_nil (List.eq_nil_of_length_eq_zero h);subst this;simp
  · have:b=0:=limbs_nil (List.eq_nil_of_length_eq_zero h);subst this;simp
 refine QQ 9 J (fun g1=> ?_) (fun g1=> ?_)
 · have ee:=early (.inl (by omega));refine Qq 11 J (Qv (gT J) (rPlus_ok a b (by omega) (by omega)) J ?_);refine Qq 4 J ?_;refine Qw J (by rw [ee];rfl)
 · refine Qq 1 J (QV sNat.und J (Qq 4 J ?_));refine Qy J (fun g2=> ?_) (fun g2=> ?_)
   · have ee:=early (.inr (by omega));refine Qj 4 J (Qv (gT J) (rPlus_ok a b (by omega) (by omega)) J ?_);refine Qq 4 J ?_;refine Qw J (by rw [ee];rfl)
   · have ha0:a≠0:=limbs_len_pos.mp (by omega);have hb0:b≠0:=limbs_len_pos.mp (by omega);clear early
     have e11:natC 1= .fr (sliceT 1 [[intC 1]]):=by show intsC (limbs 1)=_;rw [limbs_one (by decide) (by decide)];rfl
     have h00:(0:Int).toNat=0:=rfl;refine Qj 4 J (Qo J J sNat J J J ?_)
     rw [<- e11];refine Qq 5 J ?_
     refine QY (α:=Nat × Nat × Nat) (fun s=>0<s.1/\ 0<s.2.1/\ 0<s.2.2/\ s.1<=a/\ s.2.1<=b/\ s.2.2*s.1<=a/\ s.2.2*Nat.gcd s.1 s.2.1=Nat.gcd a b)
      (fun s=>[(0, .ct (natC s.1)),(1, .ct (natC s.2.1)),(5, .ct (natC s.2.2))]) (fun _=>[]) (fun s=>s.1) (a,b,1) ⟨by dsimp only;omega,by dsimp only;omega,Nat.one_pos,Nat.le_refl _,Nat.le_refl _,by dsimp only;omega,by dsimp only;omega⟩ (by exact Qx J) ?_
     rintro ⟨x,y,u⟩ ⟨hx,hy,hu,hxa,hyb,hua,hg⟩
     dsimp only at hx hy hu hxa hyb hua hg ⊢;have lx:(limbs x).length<=10000:=Nat.le_trans (Qm hxa) la;have ly:(limbs y).length<=10000:=Nat.le_trans (Qm hyb) lb;have lu:(limbs u).length<=10000:=Nat.le_trans (Qm (Nat.le_trans (Nat.le_mul_of_pos_right u hx) hua)) la;have px:=limbs_len_pos.mpr (show x≠0 by omega);have py:=limbs_len_pos.mpr (show y≠0 by omega);have gx:=limbs_get0 (show x≠0 by omega);have gy:=limbs_get0 (show y≠0 by omega);refine Qj 4 J (Q8 0 sNat J (by omega) ?_);refine Qq 1 J ?_
     rw [h00,gx]
     refine QZ 3 J (by omega) ?_;refine QQ 23 J (fun g3=> ?_) (fun g3=> ?_)
     · refine Qq 1 J (Q8 0 sNat J (by omega) ?_);refine Qq 1 J ?_
       rw [h00,gy]
       refine QZ 5 J (by omega) ?_;refine Qy J (fun g4=> ?_) (fun g4=> ?_)
       · refine Qj 5 J (Qv (gT J) (rhalf_ok x (by omega)) J ?_);refine Qq 1 J (Qv (gT J) (rhalf_ok y (by omega)) J ?_);refine Qq 2 J (Qv (gT J) (rPlus_ok u u (by omega) (by omega)) J ?_);refine Qq 5 J ?_;have q1:=gcd_two (x:=x) (y:=y) (by omega) (by omega);refine Qk (x/2,y/2,u+u) (by dsimp only;omega) ⟨by dsimp only;omega,by dsimp only;omega,by dsimp only;omega,by dsimp only;omega,by dsimp only;omega,?_,?_⟩ (by exact Qx J)
         · dsimp only;rw [<- Nat.two_mul,Nat.mul_comm 2 u,Nat.mul_assoc,show 2*(x/2)=x by omega];exact hua
         · dsimp only;rw [<- Nat.two_mul,Nat.mul_comm 2 u,Nat.mul_assoc,q1];exact hg
       · have hodd:x%2=1 \/y%2=1:=by omega
         clear g3 g4 gx gy;refine Qj 4 J ?_
         refine QY (α:=Nat × Nat) (fun s=>s.1<=a/\ s.2<=b/\ (s.1%2=1 \/s.2%2=1)/\ u*Nat.gcd s.1 s.2=Nat.gcd a b)
          (fun s=>[(0, .ct (natC s.1)),(1, .ct (natC s.2)),(5, .ct (natC u))]) (fun _=>[]) (fun s=>s.1+s.2) (x,y) ⟨hxa,hyb,hodd,hg⟩ (by exact Qx J) ?_
         clear hodd hg hxa hyb hua px py lx ly hx hy
         rintro ⟨p,q⟩ ⟨hpa,hqb,hodd,hg⟩
         dsimp only at hpa hqb hodd hg ⊢;have lp:(limbs p).length<=10000:=Nat.le_trans (Qm hpa) la;have lq:(limbs q).length<=10000:=Nat.le_trans (Qm hqb) lb
         have done:p=0 \/q=0 ->natC (Nat.gcd a b)=natC (u*(p+q)):=by
          rintro (h|h)
          · subst h;rw [<- hg];simp
          · subst h;rw [<- hg];simp
         have lpq:(limbs (p+q)).length<=10001:=by
          have h1:=Xu lp;have h2:=Xu lq;exact len_add h1 h2
         refine Qj 4 J (QV sNat.und J (Qq 2 J (QQ 40 J (fun g5=> ?_) (fun g5=> ?_))))
         · refine Qq 1 J (QV sNat.und J (Qq 4 J ?_));refine Qy J (fun g6=> ?_) (fun g6=> ?_)
           · have hp0:p≠0:=limbs_len_pos.mp (by omega);have hq0:q≠0:=limbs_len_pos.mp (by omega);have gp:=limbs_get0 hp0;have gq:=limbs_get0 hq0;clear done;refine Qj 7 J (Q8 0 sNat J (by omega) ?_);refine Qq 1 J ?_
             rw [h00,gp]
             refine QZ 5 J (by omega) ?_;refine Qy J (fun g7=> ?_) (fun g7=> ?_)
             · have q1:=gcd_half (x:=p) (y:=q) (by omega) (by omega);refine Qj 2 J (Qv (gT J) (rhalf_ok p (by omega)) J ?_);refine Qq 3 J ?_;refine Qk (p/2,q) (by dsimp only;omega) ⟨by dsimp only;omega,hqb,by dsimp only;omega,by dsimp only;rw [q1];exact hg⟩ (by exact Qx J)
             · refine Qj 3 J (Q8 0 sNat J (by omega) ?_);refine Qq 1 J ?_
               rw [h00,gq]
               refine QZ 5 J (by omega) ?_;refine Qy J (fun g8=> ?_) (fun g8=> ?_)
               · have q1:=gcd_half (x:=q) (y:=p) (by omega) (by omega);refine Qj 2 J (Qv (gT J) (rhalf_ok q (by omega)) J ?_);refine Qq 3 J ?_;refine Qk (p,q/2) (by dsimp only;omega) ⟨hpa,by dsimp only;omega,by dsimp only;omega,by dsimp only;rw [Nat.gcd_comm,q1,Nat.gcd_comm];exact hg⟩ (by exact Qx J)
               · refine Qj 4 J (Qv (gT J) (rCompare_ok p q (by omega) (by omega)) J ?_);refine Qq 4 J ?_;refine Qy J (fun g9=> ?_) (fun g9=> ?_)
                 · have hle:q<=p:=by have:=cmpI_neg (a:=p) (b:=q);omega
                   have q1:=gcd_less hle;refine Qj 3 J (Qv (gT J) (rLess_ok p q hle (by omega)) J ?_);refine Qq 3 J ?_;refine Qk (p - q,q) (by dsimp only;omega) ⟨by dsimp only;omega,hqb,by dsimp only;omega,by dsimp only;rw [q1];exact hg⟩ (by exact Qx J)
                 · have hle:p<=q:=by have:=cmpI_neg (a:=p) (b:=q);omega
                   have q1:=gcd_less hle;refine Qj 3 J (Qv (gT J) (rLess_ok q p hle (by omega)) J ?_);refine Qq 3 J ?_;refine Qk (p,q - p) (by dsimp only;omega) ⟨hpa,by dsimp only;omega,by dsimp only;omega,by dsimp only;rw [Nat.gcd_comm,q1,Nat.gcd_comm];exact hg⟩ (by exact Qx J)
           · have hd:=done (.inr (limbs_nil (List.eq_nil_of_length_eq_zero (by omega))));refine Qj 7 J (Qv (gT J) (rPlus_ok p q (by omega) (by omega)) J ?_);refine Qv (gT J) (rTimes_ok u (p+q) (by omega)) J ?_;refine Qq 4 J ?_;refine Qw J (by rw [hd];rfl)
         · have hd:=done (.inl (limbs_nil (List.eq_nil_of_length_eq_zero (by omega))));refine Qq 14 J (Qv (gT J) (rPlus_ok p q (by omega) (by omega)) J ?_);refine Qv (gT J) (rTimes_ok u (p+q) (by omega)) J ?_;refine Qq 4 J ?_;refine Qw J (by rw [hd];rfl)
     · have hodd:x%2=1 \/y%2=1:=by omega
       clear g3 gx gy;refine Qq 13 J ?_
       refine QY (α:=Nat × Nat) (fun s=>s.1<=a/\ s.2<=b/\ (s.1%2=1 \/s.2%2=1)/\ u*Nat.gcd s.1 s.2=Nat.gcd a b)
        (fun s=>[(0, .ct (natC s.1)),(1, .ct (natC s.2)),(5, .ct (natC u))]) (fun _=>[]) (fun s=>s.1+s.2) (x,y) ⟨hxa,hyb,hodd,hg⟩ (by exact Qx J) ?_
       clear hodd hg hxa hyb hua px py lx ly hx hy
       rintro ⟨p,q⟩ ⟨hpa,hqb,hodd,hg⟩
       dsimp only at hpa hqb hodd hg ⊢;have lp:(limbs p).length<=10000:=Nat.le_trans (Qm hpa) la;have lq:(limbs q).length<=10000:=Nat.le_trans (Qm hqb) lb
       have done:p=0 \/q=0 ->natC (Nat.gcd a b)=natC (u*(p+q)):=by
        rintro (h|h)
        · subst h;rw [<- hg];simp
        · subst h;rw [<- hg];simp
       have lpq:(limbs (p+q)).length<=10001:=by
        have h1:=Xu lp;have h2:=Xu lq;exact len_add h1 h2
       refine Qj 4 J (QV sNat.und J (Qq 2 J (QQ 40 J (fun g5=> ?_) (fun g5=> ?_))))
       · refine Qq 1 J (QV sNat.und J (Qq 4 J ?_));refine Qy J (fun g6=> ?_) (fun g6=> ?_)
         · have hp0:p≠0:=limbs_len_pos.mp (by omega);have hq0:q≠0:=limbs_len_pos.mp (by omega);have gp:=limbs_get0 hp0;have gq:=limbs_get0 hq0;clear done;refine Qj 7 J (Q8 0 sNat J (by omega) ?_);refine Qq 1 J ?_
           rw [h00,gp]
           refine QZ 5 J (by omega) ?_;refine Qy J (fun g7=> ?_) (fun g7=> ?_)
           · have q1:=gcd_half (x:=p) (y:=q) (by omega) (by omega);refine Qj 2 J (Qv (gT J) (rhalf_ok p (by omega)) J ?_);refine Qq 3 J ?_;refine Qk (p/2,q) (by dsimp only;omega) ⟨by dsimp only;omega,hqb,by dsimp only;omega,by dsimp only;rw [q1];exact hg⟩ (by exact Qx J)
           · refine Qj 3 J (Q8 0 sNat J (by omega) ?_);refine Qq 1 J ?_
             rw [h00,gq]
             refine QZ 5 J (by omega) ?_;refine Qy J (fun g8=> ?_) (fun g8=> ?_)
             · have q1:=gcd_half (x:=q) (y:=p) (by omega) (by omega);refine Qj 2 J (Qv (gT J) (rhalf_ok q (by omega)) J ?_);refine Qq 3 J ?_;refine Qk (p,q/2) (by dsimp only;omega) ⟨hpa,by dsimp only;omega,by dsimp only;omega,by dsimp only;rw [Nat.gcd_comm,q1,Nat.gcd_comm];exact hg⟩ (by exact Qx J)
             · refine Qj 4 J (Qv (gT J) (rCompare_ok p q (by omega) (by omega)) J ?_);refine Qq 4 J ?_;refine Qy J (fun g9=> ?_) (fun g9=> ?_)
               · have hle:q<=p:=by have:=cmpI_neg (a:=p) (b:=q);omega
                 have q1:=gcd_less hle;refine Qj 3 J (Qv (gT J) (rLess_ok p q hle (by omega)) J ?_);refine Qq 3 J ?_;refine Qk (p - q,q) (by dsimp only;omega) ⟨by dsimp only;omega,hqb,by dsimp only;omega,by dsimp only;rw [q1];exact hg⟩ (by exact Qx J)
               · have hle:p<=q:=by have:=cmpI_neg (a:=p) (b:=q);omega
                 have q1:=gcd_less hle;refine Qj 3 J (Qv (gT J) (rLess_ok q p hle (by omega)) J ?_);refine Qq 3 J ?_;refine Qk (p,q - p) (by dsimp only;omega) ⟨hpa,by dsimp only;omega,by dsimp only;omega,by dsimp only;rw [Nat.gcd_comm,q1,Nat.gcd_comm];exact hg⟩ (by exact Qx J)
         · have hd:=done (.inr (limbs_nil (List.eq_nil_of_length_eq_zero (by omega))));refine Qj 7 J (Qv (gT J) (rPlus_ok p q (by omega) (by omega)) J ?_);refine Qv (gT J) (rTimes_ok u (p+q) (by omega)) J ?_;refine Qq 4 J ?_;refine Qw J (by rw [hd];rfl)
       · have hd:=done (.inl (limbs_nil (List.eq_nil_of_length_eq_zero (by omega))));refine Qq 14 J (Qv (gT J) (rPlus_ok p q (by omega) (by omega)) J ?_);refine Qv (gT J) (rTimes_ok u (p+q) (by omega)) J ?_;refine Qq 4 J ?_;refine Qw J (by rw [hd];rfl)
theorem rmagnitude_ok(n:Int)(h1: -9223372036854775808<=n)(h2:n<=9223372036854775807):Ok prog 169 [intC n] (natC n.natAbs):=by
 refine Ok.enter func169 J _ ntmps169 J ?_
 intro S w;refine Qj 12 J ?_;refine Qy J (fun h=> ?_) (fun h=> ?_)
 · refine Xz 5 J (by omega) ?_;refine Z0 J J uI64 uU64 (wrap_u (by omega) (by omega)) J ?_;refine Qh (uadd (by omega) (by omega)) J J J J ?_
   rw [show -(n+1)+1=(n.natAbs:Int) by omega]
   refine Qv (gT J) (rWord_ok n.natAbs (by omega)) J ?_;refine Qq 4 J ?_;refine Qw J J
 · refine Qj 5 J (Z0 J J uI64 uU64 (wrap_u (by omega) (by omega)) J ?_);rw [show n=(n.natAbs:Int) by omega]
   refine Qv (gT J) (rWord_ok n.natAbs (by omega)) J ?_;refine Qq 4 J ?_;refine Qw J J
theorem rreduced_ok(neg:Bool)(a b:Nat)(h0:0<b)(la:(limbs a).length<=10000)(lb:(limbs b).length<=10000):Ok prog 118 [boolC neg,natC a,natC b] (fracC (redF neg a b)):=by
 have hg0:0<Nat.gcd a b:=Nat.gcd_pos_of_pos_right _ h0;have hg1:Nat.gcd a b<=b:=Nat.gcd_le_right _ h0;have lg:(limbs (Nat.gcd a b)).length<=10000:=Nat.le_trans (Qm hg1) lb;have h1:=rGcd_ok a b la lb;have h2:=rSplit_ok a _ hg0 la lg;have h3:=rSplit_ok b _ hg0 lb lg
 have e0:a≠0 ->redF neg a b=⟨neg,a/Nat.gcd a b,b/Nat.gcd a b⟩:=fun ha=>by
  unfold redF
  have:a/Nat.gcd a b≠0:=by
   have:=Nat.div_pos (Nat.gcd_le_left b (Nat.pos_of_ne_zero ha)) hg0;omega
  simp [this]
 have e1:a=0 ->redF neg a b=⟨false,0,1⟩:=fun ha=>by
  subst ha;unfold redF;simp [Nat.div_self h0]
 have e11:natC 1= .fr (sliceT 1 [[intC 1]]):=by show intsC (limbs 1)=_;rw [limbs_one (by decide) (by decide)];rfl
 generalize Nat.gcd a b=g at*
 refine Ok.enter func118 J _ ntmps118 J ?_
 intro S w;refine Qj 9 J (QV sNat.und J (Qq 3 J ?_));refine Qy J (fun h=> ?_) (fun h=> ?_)
 · have ha:a=0:=limbs_nil (List.eq_nil_of_length_eq_zero (by omega));have e2:=e1 ha;refine Qj 2 J (Qo J J sNat J J J ?_)
   rw [<- e11];refine Qq 5 J ?_;refine X5 [_] rfl (Xv (w_agg (ds:=[boolC false,intsC [],natC 1]) (by exact ⟨Zx,Zp,Zx,trivial⟩)) (Qi (n:=3) J J lFrac J Q3)) (by rw [e2,<- natC_zero];rfl) J
 · have ha:a≠0:=fun ha=>h (by rw [ha,limbs_zero];rfl)
   have e2:=e0 ha;refine Qj 6 J (Qv (gT J) h1 J (Qq 7 J (Qv (gT J) h2 J (Qq 11 J (Qv (gT J) h3 J (Qq 17 J ?_))))));refine Qw J (by rw [e2];rfl)
theorem zBool:(prog.info? 4).map (·.size)=some 1:=by kernel_rfl
theorem rFrom_ok(n d:Int)(h1: -9223372036854775808<=n)(h2:n<=9223372036854775807)(h3: -9223372036854775808<=d)(h4:d<=9223372036854775807)(h0:d≠0):Ok prog 112 [intC n,intC d] (.tup [ratC (Rat.divInt n d),intC 0]):=by
 have hl:(limbs n.natAbs).length<=3:=Q6 (k:=3) (by omega);have hl2:(limbs d.natAbs).length<=3:=Q6 (k:=3) (by omega);rw [show ratC (Rat.divInt n d)=fracC (redF (decide (n<0) !=decide (d<0)) n.natAbs d.natAbs) from by rw [from_redF n d h0]]
 refine Ok.enter func112 J _ ntmps112 J ?_
 intro S w;refine Qj 13 J ?_;refine Qy J (fun h=>absurd h h0) (fun h=> ?_);refine Qj 8 J (Ops.bne J J J uBool J ?_);rw [dne];refine Qq 1 J (Qv (gT J) (rmagnitude_ok n h1 h2) J (Qq 1 J (Qv (gT J) (rmagnitude_ok d h3 h4) J (Qv (gT J) (rreduced_ok _ n.natAbs d.natAbs (by omega) (by omega) (by omega)) J ?_))));refine Qq 5 J ?_;refine Qw J J
def oppF (f : Fr) : Fr := ⟨!f.neg && decide (f.num ≠ 0), f.num, f.den⟩
theorem oppF_q(q:Rat):oppF (ofQ q)=ofQ (-q):=by
 unfold oppF ofQ;simp only [Rat.neg_num,Rat.neg_den,Int.natAbs_neg]
 congr 1
 by_cases h:q.num<0
 · rw [decide_eq_true h,decide_eq_false (show ¬(-q.num<0) by omega)];rfl
 · rw [decide_eq_false h,Bool.not_false,Bool.true_and,decide_eq_decide];omega
theorem rOpposite_ok(f:Fr):Ok prog 117 [fracC f] (fracC (oppF f)):=by
 refine Ok.enter func117 J _ ntmps117 J ?_
 intro S w;refine Qj 12 J (Xk 6 J (fun h=> ?_) (fun h=> ?_))
 · refine Qq 2 J (QV sNat.und J (Qq 3 J (Qa J J J J J zBool (Nat.zero_lt_succ _) (Qq 9 J ?_))));refine Qw J (by unfold oppF;rw [h,<- limbs_len_posI];rfl)
 · refine Qq 6 J (Qa J J J J J zBool (Nat.zero_lt_succ _) (Qq 9 J ?_));refine Qw J (by unfold oppF;rw [h];rfl)
theorem rsum_ok(f h:Fr)(l1:(limbs f.num).length<=1000)(l2:(limbs f.den).length<=1000)(l3:(limbs h.num).length<=1000)(l4:(limbs h.den).length<=1000)(d1:0<f.den)(d2:0<h.den):
  Ok prog 116 [fracC f,fracC h] (fracC (redF (sumS f.neg (f.num*h.den) h.neg (h.num*f.den)) (sumN f.neg (f.num*h.den) h.neg (h.num*f.den)) (f.den*h.den))):=by
 have m1:=mul_len l1 l4;have m2:=mul_len l3 l2;have m3:=mul_len l2 l4;have hp:=Nat.mul_pos d1 d2;have m4:=sumN_len (n1:=f.neg) (n2:=h.neg) m1 m2;have hr:=rreduced_ok (sumS f.neg (f.num*h.den) h.neg (h.num*f.den)) (sumN f.neg (f.num*h.den) h.neg (h.num*f.den)) (f.den*h.den) hp (by omega) (by omega)
 refine Ok.enter func116 J _ ntmps116 J ?_
 intro S w;generalize redF (sumS f.neg (f.num*h.den) h.neg (h.num*f.den)) (sumN f.neg (f.num*h.den) h.neg (h.num*f.den)) (f.den*h.den)=rr at*;refine Qj 8 J (XY 18 0x8011100f4e49442d2b282623210c0a07050200 J ?_);refine Qq 12 J (Qv (gT J) (rTimes_ok f.num h.den (by omega)) J ?_);refine Qv (gT J) (rTimes_ok h.num f.den (by omega)) J ?_;refine Qv (gT J) (rTimes_ok f.den h.den (by omega)) J ?_;refine Qq 12 J (Ops.beq J J J uBool J (Qq 2 J ?_));refine Xx J (fun g=> ?_) (fun g=> ?_)
 · have g' :f.neg=h.neg:=by simpa using g
   have e1:sumN f.neg (f.num*h.den) h.neg (h.num*f.den)=f.num*h.den+h.num*f.den:=by unfold sumN;rw [if_pos g']
   have e2:sumS f.neg (f.num*h.den) h.neg (h.num*f.den)=f.neg:=by unfold sumS;rw [if_pos g']
   rw [e1,e2] at hr;refine Qj 1 J (XY 7 0x806746442105030200 J ?_);refine Qq 5 J (Qv (gT J) (rPlus_ok (f.num*h.den) (h.num*f.den) (by omega) (by omega)) J ?_);refine Qv (gT J) hr J (Qq 4 J ?_);refine Qw J J
 · have g' :¬f.neg=h.neg:=by simpa using g
   refine Qj 7 J (Qv (gT J) (rCompare_ok (f.num*h.den) (h.num*f.den) (by omega) (by omega)) J ?_);refine Qq 3 J ?_;refine Qy J (fun g2=> ?_) (fun g2=> ?_)
   · have hle:h.num*f.den<=f.num*h.den:=by have:=cmpI_neg (a:=((f.num*h.den:Nat):Int)) (b:=((h.num*f.den:Nat):Int));omega
     have e1:sumN f.neg (f.num*h.den) h.neg (h.num*f.den)=f.num*h.den - h.num*f.den:=by unfold sumN;rw [if_neg g',if_neg (by omega)]
     have e2:sumS f.neg (f.num*h.den) h.neg (h.num*f.den)=f.neg:=by unfold sumS;rw [if_neg g',if_neg (by omega)]
     rw [e1,e2] at hr;refine Qj 1 J (XY 7 0x806746442105030200 J ?_);refine Qq 5 J (Qv (gT J) (rLess_ok (f.num*h.den) (h.num*f.den) hle (by omega)) J ?_);refine Qv (gT J) hr J (Qq 4 J ?_);refine Qw J J
   · have hlt:f.num*h.den<h.num*f.den:=by have:=cmpI_neg (a:=((f.num*h.den:Nat):Int)) (b:=((h.num*f.den:Nat):Int));omega
     have e1:sumN f.neg (f.num*h.den) h.neg (h.num*f.den)=h.num*f.den - f.num*h.den:=by unfold sumN;rw [if_neg g',if_pos hlt]
     have e2:sumS f.neg (f.num*h.den) h.neg (h.num*f.den)=h.neg:=by unfold sumS;rw [if_neg g',if_pos hlt]
     rw [e1,e2] at hr;refine Qj 3 J (XY 7 0x806746442105030200 J ?_);refine Qq 5 J (Qv (gT J) (rLess_ok (h.num*f.den) (f.num*h.den) (by omega) (by omega)) J ?_);refine Qv (gT J) hr J (Qq 4 J ?_);refine Qw J J
attribute [local irreducible] OkF
def shl (xs : List Int) (k : Nat) : List Int := (limbs ((val xs).toNat * 2 ^ k)) ++ List.replicate (xs.length + 1 - (limbs ((val xs).toNat * 2 ^ k)).length) 0
theorem limbs_unique{xs ys:List Int}(hx:OKL xs)(hy:OKL ys)(hl:xs.length=ys.length)(hv:val xs=val ys):xs=ys:=by
 induction xs generalizing ys with
 |nil=>exact (List.eq_nil_of_length_eq_zero hl.symm).symm
 |cons x xs ih=>
  cases ys with
  |nil=>simp at hl
  |cons y ys=>
   have a:=hx.head;have b:=hy.head;simp only [val,BB] at*
   have e:x=y/\ val xs=val ys:=by omega
   rw [e.1,ih hx.tail hy.tail (by simpa using hl) e.2]
theorem shifted_ok(xs:List Int)(k:Nat)(hk:k<=30)(hok:OKL xs)(hl:xs.length<=256):OkF prog 236 [intsC xs,intC k] 3 1 (ints (shl xs k)):=by
 have hpk:(0:Int)<2 ^ k:=Int.pow_pos (by decide)
 have hpk30:(2:Int) ^ k<=1073741824:=by
  have e:=two_split hk;have:(1:Int)<=2 ^ (30 - k):=Int.pow_pos (by decide);have:=Int.mul_le_mul_of_nonneg_left this (Int.le_of_lt hpk);omega
 refine OkF.enter func236 J _ ntmps236 J ?_
 intro S w;refine Qj 8 J (QV sNat.und J (QZ 1 J (by omega) ?_));refine ZV 0 (xs.length+1) J J J (by omega) sNat (by omega) (by omega) J J J ?_
 rw [ints_made];refine Qq 7 J (QV sNat.und J (Qq 4 J ?_))
 refine QY (α:=Nat × List Int) (fun s=>s.1<=xs.length/\ s.2.length=xs.length+1/\ OKL s.2/\ (∀j,s.1<j ->s.2.getD j 0=0)/\ s.2.getD s.1 0<2 ^ k/\ val s.2=pre xs s.1*2 ^ k)
  (fun s=>[(0, .ct (intsC xs)),(1, .ct (intC k)),(5, .own 0),(13, .ct (intsC xs)),(14, .ct (intC xs.length)),(15, .ct (intC s.1))])
  (fun s=>[(0, .row 3 1 (ints s.2))]) (fun s=>xs.length - s.1) (0,List.replicate (xs.length+1) 0) ⟨Nat.zero_le _,by simp,OKL.zeros _,?_,?_,?_⟩ (by exact Qx J) ?_
 · intro j _;simp [List.getD_eq_getElem?_getD,List.getElem?_replicate];split <;>rfl
 · have:(List.replicate (xs.length+1) (0:Int)).getD 0 0=0:=by simp [List.getD_eq_getElem?_getD]
   dsimp only;rw [this];exact hpk
 · dsimp only;rw [Yg,ZQ];simp
 rintro ⟨i,zs⟩ ⟨hi,hzl,hzok,hz,hzi,hv⟩
 dsimp only at hi hzl hzok hz hzi hv ⊢;refine Qj 6 J ?_;refine Qy J (fun h=> ?_) (fun h=> ?_)
 · have bx:=hok.get i;have bz:=hzok.get i;simp only [BB] at bx bz;have eix:(i:Int).toNat=i:=Int.toNat_natCast i
   have e1:(i:Int).toNat*1=i:=by omega
   have e2:((i:Int)+1).toNat*1=i+1:=by omega
   have bs:0<=xs.getD i 0*2 ^ k/\ xs.getD i 0*2 ^ k<=1152921503533105152:=⟨Int.mul_nonneg bx.1 (by omega),by
    have:xs.getD i 0*2 ^ k<=1073741823*1073741824:=Int.mul_le_mul (by omega) hpk30 (by omega) (by omega)
    omega⟩
   refine Qj 7 J (Q8 0 sNat J (by omega) ?_);refine Qq 9 J ?_;rw [eix]
   refine Qh (ishl k J (by omega) (by omega) (by omega)) J J J J ?_;refine Qq 7 J (Qf (xs.length+1) J J J (by simp;omega) J sNat (by omega) (by omega) J ?_);rw [e1];refine QK J J J J (XK (by omega)) lInt J ?_;refine Qq 1 J ?_
   have dvd:∃m:Nat,xs.getD i 0*2 ^ k%1073741824=(m:Int)*2 ^ k:=by
    have h1:(xs.getD i 0%2 ^ (30 - k))*2 ^ k=xs.getD i 0*2 ^ k%1073741824:=by
     rw [two_split hk,Int.mul_comm (xs.getD i 0),Int.mul_emod_mul_of_pos _ _ hpk,Int.mul_comm]
    have h2:0<=xs.getD i 0%2 ^ (30 - k):=Int.emod_nonneg _ (by have:(0:Int)<2 ^ (30 - k):=Int.pow_pos (by decide);omega);exact ⟨(xs.getD i 0%2 ^ (30 - k)).toNat,by rw [<- h1];congr 1;omega⟩
   obtain ⟨m,hm⟩:=dvd
   have hmod:zs.getD i 0+xs.getD i 0*2 ^ k%1073741824<1073741824:=by
    rw [hm];have e:=two_split hk
    have hmk:(m:Int)*2 ^ k<2 ^ (30 - k)*2 ^ k:=by rw [<- hm,Int.mul_comm (2 ^ (30 - k)),<- e];omega
    have hm2:(m:Int)<2 ^ (30 - k):=Int.lt_of_mul_lt_mul_right hmk (by omega);have:((m:Int)+1)*2 ^ k<=2 ^ (30 - k)*2 ^ k:=Int.mul_le_mul_of_nonneg_right (by omega) (by omega);rw [Int.add_mul,Int.one_mul,Int.mul_comm (2 ^ (30 - k)),<- e] at this;omega
   refine Qh iand30 J J J J (Qh (ior_add k m bz.1 hzi hm (by omega)) J J J J ?_);refine Qf (xs.length+1) J J J (by simp;omega) J sNat (by omega) (by omega) J ?_
   rw [e1]
   refine Qa J J J J J zInt (by simp [Ent.cs];omega) ?_
   simp only [Ent.setc,Zz];refine QZ 7 J (by omega) ?_;refine Qh ishr30 J J J J (Qf (xs.length+1) J J J (by simp;omega) J sNat (by omega) (by omega) J ?_)
   rw [e2]
   refine Qa J J J J J zInt (by simp [Ent.cs];omega) ?_
   simp only [Ent.setc,Zz];refine QZ 7 J (by omega) ?_
   have hq:xs.getD i 0*2 ^ k/1073741824<2 ^ k:=by
    apply Int.ediv_lt_of_lt_mul (by decide)
    rw [Int.mul_comm];exact Int.mul_lt_mul_of_pos_left (by omega) hpk
   refine Qk (i+1,(zs.set i (zs.getD i 0+xs.getD i 0*2 ^ k%1073741824)).set (i+1) (xs.getD i 0*2 ^ k/1073741824)) (by dsimp only;omega) ⟨by dsimp only;omega,by simp [hzl],?_,?_,?_,?_⟩ (by exact Qx J)
   all_goals dsimp only
   · exact (hzok.set _ (by simp only [BB];omega)).set _ (by simp only [BB];omega)
   · intro j hj;rw [getD_set (by simp;omega),if_neg (by omega),getD_set (by omega),if_neg (by omega)];exact hz j (by omega)
   · rw [getD_set (by simp;omega),if_pos J];exact hq
   · rw [JQ (by simp;omega),JQ (by omega),getD_set (by omega),if_neg (by omega),hz (i+1) (by omega),XQ,hv,Int.pow_succ];have e:=Int.mul_ediv_add_emod (xs.getD i 0*2 ^ k) 1073741824;simp only [BB] at*;generalize xs.getD i 0*2 ^ k/1073741824=Q at*;generalize xs.getD i 0*2 ^ k%1073741824=M at*;generalize (1073741824:Int) ^ i=I at*
     grind
 · have hi' :i=xs.length:=by omega
   have hv2:val zs=val xs*2 ^ k:=by rw [hv,hi',ZZ (Nat.le_refl _)]
   have hvx:=Yb hok
   have e2k:((2 ^ k:Nat):Int)=(2:Int) ^ k:=by rw [Int.natCast_pow];rfl
   have hn:((val xs).toNat*2 ^ k:Nat)=(val zs).toNat:=by
    rw [hv2]
    have:(((val xs).toNat*2 ^ k:Nat):Int)=val xs*2 ^ k:=by rw [Int.natCast_mul,e2k,Int.toNat_of_nonneg hvx]
    omega
   have hzs:zs=shl xs k:=by
    unfold shl;rw [hn]
    have hlen:(limbs (val zs).toNat).length<=xs.length+1:=by rw [<- Zk hzok,<- hzl];exact trim_len _
    have hvz:=Yb hzok
    refine limbs_unique hzok ((Qr _).append (OKL.zeros _)) (by simp;omega) ?_
    rw [YY,Yg,X1];omega
   subst hzs;refine Qj 9 J ?_;refine Fin.retF J J J J
theorem shl_val(xs:List Int)(k:Nat)(hok:OKL xs):val (shl xs k)=val xs*2 ^ k:=by
 unfold shl;rw [YY,Yg,X1,Int.natCast_mul,Int.toNat_of_nonneg (Yb hok),Int.natCast_pow];simp
theorem shl_ok(xs:List Int)(k:Nat):OKL (shl xs k):=(Qr _).append (OKL.zeros _)
theorem shl_len(xs:List Int)(k:Nat)(hk:k<=30)(hok:OKL xs):(shl xs k).length=xs.length+1:=by
 unfold shl
 have:(limbs ((val xs).toNat*2 ^ k)).length<=xs.length+1:=by
  apply Q6
  rw [Nat.pow_succ]
  have h1:val xs<BB ^ xs.length:=by have:=Y4 hok xs.length;rw [ZZ (Nat.le_refl _)] at this;exact this.2
  have h2:(val xs).toNat<1073741824 ^ xs.length:=by
   have:=Yb hok
   have e:((1073741824 ^ xs.length:Nat):Int)=BB ^ xs.length:=by rw [Int.natCast_pow];rfl
   omega
  have h3:2 ^ k<=1073741824:=by
   have:2 ^ k<=2 ^ 30:=Nat.pow_le_pow_right (by decide) hk;omega
  have h4:0<2 ^ k:=Nat.pow_pos (by decide)
  calc (val xs).toNat*2 ^ k<1073741824 ^ xs.length*2 ^ k:=Nat.mul_lt_mul_of_pos_right h2 h4
   _<=_:=Nat.mul_le_mul_left _ h3
 simp;omega
theorem top_pos{b:Nat}(h:0<(limbs b).length):0<(limbs b).getD ((limbs b).length - 1) 0:=by
 have h1:=(Qr b).get ((limbs b).length - 1)
 have h2:(limbs b).getD ((limbs b).length - 1) 0≠0:=by
  intro he;have h2:=trim_last (ys:=limbs b) (by omega) he;rw [trim_of_limbs] at h2;have h3:=trim_len ((limbs b).take ((limbs b).length - 1));rw [h2] at h3;simp at h3;omega
 omega
theorem top_split{b:Nat}(h:0<(limbs b).length):(b:Int)=pre (limbs b) ((limbs b).length - 1)+(limbs b).getD ((limbs b).length - 1) 0*BB ^ ((limbs b).length - 1):=by
 rw [<- XQ,show (limbs b).length - 1+1=(limbs b).length by omega,Y9]
theorem shifted_top{b:Nat}{k:Nat}(hk:k<=30)(hn:0<(limbs b).length)(ht:(limbs b).getD ((limbs b).length - 1) 0<2 ^ (30 - k)):
  (shl (limbs b) k).getD (limbs b).length 0=0/\ 0<(shl (limbs b) k).getD ((limbs b).length - 1) 0:=by
 have hv:=shl_val (limbs b) k (Qr b);rw [X1] at hv;have hs:=top_split hn;have hp:=top_pos hn;have hb:=Y4 (Qr b) ((limbs b).length - 1);have h2k:(0:Int)<2 ^ k:=Int.pow_pos (by decide)
 have hlt:val (shl (limbs b) k)<BB ^ (limbs b).length:=by
  rw [hv]
  have h1:(b:Int)<2 ^ (30 - k)*BB ^ ((limbs b).length - 1):=by
   have:((limbs b).getD ((limbs b).length - 1) 0+1)*BB ^ ((limbs b).length - 1)<=2 ^ (30 - k)*BB ^ ((limbs b).length - 1):=Int.mul_le_mul_of_nonneg_right (by omega) (Int.le_of_lt (Bpos _));rw [Int.add_mul,Int.one_mul] at this;omega
  have h2:=Int.mul_lt_mul_of_pos_right h1 h2k
  have h3:2 ^ (30 - k)*BB ^ ((limbs b).length - 1)*2 ^ k=BB ^ (limbs b).length:=by
   have e:=two_split hk
   have e2:BB ^ (limbs b).length=BB ^ ((limbs b).length - 1)*BB:=by rw [<- Int.pow_succ];congr 1;omega
   rw [e2];show _=BB ^ ((limbs b).length - 1)*(1073741824:Int);rw [e];grind
  omega
 refine ⟨zero_above (shl_ok _ _) hlt _ (Nat.le_refl _),?_⟩;have h1:=(shl_ok (limbs b) k).get ((limbs b).length - 1);by_cases h0:(shl (limbs b) k).getD ((limbs b).length - 1) 0=0
 · exfalso;have e1:=val_pre_of (shl_ok (limbs b) k) hlt;rw [show (limbs b).length=((limbs b).length - 1)+1 by omega,XQ,h0] at e1;have e2:=Y4 (shl_ok (limbs b) k) ((limbs b).length - 1)
   have e3:BB ^ ((limbs b).length - 1)<=(b:Int):=by
    have:1*BB ^ ((limbs b).length - 1)<=(limbs b).getD ((limbs b).length - 1) 0*BB ^ ((limbs b).length - 1):=Int.mul_le_mul_of_nonneg_right (by omega) (Int.le_of_lt (Bpos _));omega
   have e4:(b:Int)*1<=b*2 ^ k:=Int.mul_le_mul_of_nonneg_left (by omega) (by omega);omega
 · omega
theorem first_lt{a b:Nat}{k:Nat}(hn:0<(limbs b).length)(hl:(limbs b).length<=(limbs a).length):
  val (shl (limbs a) k)<val (shl (limbs b) k)*BB ^ ((limbs a).length - (limbs b).length+1):=by
 rw [shl_val _ _ (Qr a),shl_val _ _ (Qr b),X1,X1];have hs:=top_split hn;have hp:=top_pos hn;have hb:=Y4 (Qr b) ((limbs b).length - 1);have ha:=Y4 (Qr a) (limbs a).length;rw [Y9] at ha;have h2k:(0:Int)<2 ^ k:=Int.pow_pos (by decide)
 have e3:BB ^ ((limbs b).length - 1)<=(b:Int):=by
  have:1*BB ^ ((limbs b).length - 1)<=(limbs b).getD ((limbs b).length - 1) 0*BB ^ ((limbs b).length - 1):=Int.mul_le_mul_of_nonneg_right (by omega) (Int.le_of_lt (Bpos _));omega
 have e4:=Int.mul_le_mul_of_nonneg_right e3 (Int.le_of_lt (Bpos ((limbs a).length - (limbs b).length+1)));rw [<- Int.pow_add,show (limbs b).length - 1+((limbs a).length - (limbs b).length+1)=(limbs a).length by omega] at e4
 have e5:(a:Int)<b*BB ^ ((limbs a).length - (limbs b).length+1):=by omega
 have e6:=Int.mul_lt_mul_of_pos_right e5 h2k
 have e7:(b:Int)*BB ^ ((limbs a).length - (limbs b).length+1)*2 ^ k=b*2 ^ k*BB ^ ((limbs a).length - (limbs b).length+1):=by grind
 omega
theorem gd_bd{g y c z:Int}(hg0:0<=g)(hg:g<=1073741823)(hy0:0<=y)(hy:y<1073741824)(hz0:0<=z)(hz:z<1073741824)(hc0: -1073741824<=c)(hc:c<=0):
  0<=g*y/\ g*y<=1152921502459363329/\ -1073741824<=(z - g*y+c)/1073741824/\ (z - g*y+c)/1073741824<=0:=by
 have h1:0<=g*y:=Int.mul_nonneg hg0 hy0;have h2:g*y<=1073741823*1073741823:=Int.mul_le_mul hg (by omega) hy0 (by omega);exact ⟨h1,by omega,by omega,by omega⟩
theorem fin_val{a b k:Nat}{A Q:Int}(hb:0<b)(hA:0<=A)(hlt:A<b*2 ^ k)(hi:A+Q*(b*2 ^ k)=a*2 ^ k):Q=((a/b:Nat):Int)/\ A=(((a%b)*2 ^ k:Nat):Int):=by
 have h2k:(0:Int)<2 ^ k:=Int.pow_pos (by decide)
 have e:A=((a:Int) - Q*b)*2 ^ k:=by grind
 have h0:0<=(a:Int) - Q*b:=by
  by_cases h:0<=(a:Int) - Q*b
  · exact h
  · have:((a:Int) - Q*b)*2 ^ k<0:=Int.mul_neg_of_neg_of_pos (by omega) h2k;omega
 have h1:(a:Int) - Q*b<b:=by
  have:((a:Int) - Q*b)*2 ^ k<b*2 ^ k:=by omega
  exact Int.lt_of_mul_lt_mul_right this (by omega)
 have h2:(a:Int)/b=Q/\ (a:Int)%b=a - Q*b:=by
  rw [Int.ediv_emod_unique (by omega)];refine ⟨?_,h0,h1⟩;rw [Int.mul_comm (b:Int)];omega
 refine ⟨by rw [Int.natCast_ediv];exact h2.1.symm,?_⟩;rw [e,Int.natCast_mul,Int.natCast_emod,h2.2,Int.natCast_pow];rfl
theorem shr_limbs(r k:Nat)(hk:k<=30):trimL (shrL k (limbs (r*2 ^ k)))=limbs r:=by
 rw [Zk (shrL_ok _ _),val_shrL hk _ (Qr _),X1,Int.natCast_mul,Int.natCast_pow]
 congr 1
 have h2k:(2:Int) ^ k≠0:=by have:(0:Int)<2 ^ k:=Int.pow_pos (by decide);omega
 show ((r:Int)*2 ^ k/2 ^ k).toNat=r;rw [Int.mul_ediv_cancel _ h2k];simp
theorem trim_take{us:List Int}{n:Nat}(h:OKL us)(hv:val us<BB ^ n):trimL (us.take n)=limbs (val us).toNat:=by
 rw [Zk (h.take n)]
 congr 2
 exact (val_pre_of h hv).symm
theorem DivMod_big(a b:Nat)(hb:2<=(limbs b).length)(hab:b<=a)(hl:(limbs a).length<=256):Ok prog 202 [natC a,natC b] (.tup [natC (a/b),natC (a%b),intC 0]):=by
 have hlab:(limbs b).length<=(limbs a).length:=Qm hab;have htp:=top_pos (b:=b) (by omega);have htb:=(Qr b).get ((limbs b).length - 1);simp only [BB] at htb;obtain ⟨tp,htq⟩:∃tp:Nat,(limbs b).getD ((limbs b).length - 1) 0=tp:=⟨((limbs b).getD ((limbs b).length - 1) 0).toNat,by omega⟩;have hbn:=bln_spec (n:=tp) (by omega) (by omega);obtain ⟨k,hk⟩:∃k,bln tp=30 - k/\ k<=30:=⟨30 - bln tp,by omega,by omega⟩;have hk30:=hk.2
 have htop:(limbs b).getD ((limbs b).length - 1) 0<2 ^ (30 - k):=by
  rw [htq,<- hk.1]
  have:((2 ^ bln tp:Nat):Int)=(2:Int) ^ bln tp:=by rw [Int.natCast_pow];rfl
  omega
 have hst:=shifted_top hk30 (by omega) htop;have hfl:=first_lt (k:=k) (b:=b) (by omega) hlab;have hUl:=shl_len (limbs a) k hk30 (Qr a);have hVl:=shl_len (limbs b) k hk30 (Qr b);have hUok:=shl_ok (limbs a) k;have hVok:=shl_ok (limbs b) k;have hUv:=shl_val (limbs a) k (Qr a);have hVv:=shl_val (limbs b) k (Qr b);rw [X1] at hUv hVv;have hAok:=shifted_ok (limbs a) k hk30 (Qr a) (by omega);have hBok:=shifted_ok (limbs b) k hk30 (Qr b) (by omega);generalize shl (limbs a) k=U0 at*;generalize shl (limbs b) k=V at*;have eN:((limbs b).length:Int).toNat=(limbs b).length:=Int.toNat_natCast _;generalize hN:(limbs b).length=n at*;generalize hLA:(limbs a).length=la at*
 refine Ok.enter func202 Y _ ntmps202 Y ?_
 intro S w;refine Qj 10 Y (Qv (gT J) (trim_ok _ (by omega)) Y ?_);rw [trim_of_limbs];refine Qq 6 Y (QV sNat.und Y (Qq 12 Y ?_));rw [hN];refine Qy Y (fun h=>by exfalso;omega) (fun h=> ?_);clear h;refine Qj 4 Y (Qv (gT J) (Compare_ok a b (by omega) (by omega)) Y ?_);refine Qq 4 Y ?_;refine Qy Y (fun h=> ?_) (fun h=> ?_)
 · exfalso;rw [cmpI_eq] at h;split at h
   · omega
   · split at h <;>omega
 clear h;refine Qj 7 Y ?_;refine Qy Y (fun h=>by exfalso;omega) (fun h=> ?_);clear h;refine Xz 7 Y (by omega) ?_;refine Q8 0 sNat Y (by omega) ?_;refine Qq 1 Y ?_
 rw [show ((n:Int) - 1).toNat=n - 1 by omega,htq]
 refine Z0 (q:=(tp:Int)) Y Y uIntB uUintB (wrap_u (by omega) (by omega)) Y ?_;refine Qv (gT J) (Len_ok tp (by omega)) Y ?_;refine QZ 8 Y (by omega) ?_;rw [show (30:Int) - (bln tp:Int)=(k:Int) by omega];refine Z7 0 (gT J) hAok Y Y Y Y Y Y (Qq 2 Y (Z7 1 (gT J) hBok Y Y Y Y Y Y (Qq 7 Y (QV sNat.und Y (QZ 3 Y (by omega) ?_)))))
 rw [hLA]
 refine ZV 2 (la - n+1) Y Y Y (by omega) sNat (by omega) (by omega) Y Y Y ?_
 rw [ints_made];refine Qq 7 Y (QV sNat.und Y (QZ 6 Y (by omega) ?_));rw [hLA]
 refine QY (α:=Nat × List Int × List Int) (fun s=>s.1<=la - n+1/\ s.2.1.length=la+1/\ OKL s.2.1/\ val s.2.1<val V*BB ^ s.1/\ s.2.2.length=la - n+1/\ OKL s.2.2/\ (∀p,p<s.1 ->s.2.2.getD p 0=0)/\ val s.2.1+val s.2.2*val V=val U0)
  (fun s=>[(0, .ct (natC a)),(1, .ct (natC b)),(7, .ct (intC n)),(10, .ct (intC k)),(11, .own 0),(12, .own 1),(13, .own 2),(14, .ct (intC ((s.1:Int) - 1)))])
  (fun s=>[(2, .row 3 1 (ints s.2.2)),(1, .row 3 1 (ints V)),(0, .row 3 1 (ints s.2.1))])
  (fun s=>s.1) (la - n+1,U0,List.replicate (la - n+1) 0) ⟨Nat.le_refl _,by dsimp only;omega,hUok,hfl,by simp,OKL.zeros _,?_,?_⟩ (by exact QW Y ⟨rfl,rfl,rfl,rfl,rfl,rfl,rfl,by show _=some (Sl.ct (intC (((la - n+1:Nat):Int) - 1)));rw [show (((la - n+1:Nat):Int) - 1)=(la:Int) - n by omega];rfl,trivial⟩) ?_
 · intro p _;simp [List.getD_eq_getElem?_getD,List.getElem?_replicate];split <;>rfl
 · dsimp only;rw [Yg];simp
 rintro ⟨J,us,qs⟩ ⟨hJ,hul,huok,hult,hql,hqok,hqz,hinv⟩
 dsimp only at hJ hul huok hult hql hqok hqz hinv ⊢;refine Qj 7 Y ?_;refine Qy Y (fun h=> ?_) (fun h=> ?_)
 · obtain ⟨j,rfl⟩:∃j,J=j+1:=⟨J - 1,by omega⟩
   have ej:(((j+1:Nat):Int) - 1)=(j:Int):=by omega
   rw [ej];have W:=win (n:=n) (j:=j) huok hVok (by omega) (by omega) hst.1 hst.2 hult;have c1:=huok.get (j+n);have c2:=huok.get (j+n - 1);have c3:=huok.get (j+n - 2);have c4:=hVok.get (n - 1);have c5:=hVok.get (n - 2);simp only [BB] at c1 c2 c3 c4 c5
   have i1:((j:Int)+n).toNat*1=j+n:=by omega
   have i2:((j:Int)+n - 1).toNat*1=j+n - 1:=by omega
   have i3:((j:Int)+n - 2).toNat*1=j+n - 2:=by omega
   have i4:((n:Int) - 1).toNat*1=n - 1:=by omega
   have i5:((n:Int) - 2).toNat*1=n - 2:=by omega
   refine Qj 5 J (XY 32 0x801f5e3d38332c251c1b1a19171615141211100f0e0d0b0a090807060403020100 Y ?_);refine QZ 4 Y (by omega) ?_;refine Qf (la+1) Y Y Y (by simp;omega) Y sNat (by omega) (by omega) Y ?_
   rw [i1];refine QZ 5 Y (by omega) ?_;refine Qf (la+1) Y Y Y (by simp;omega) Y sNat (by omega) (by omega) Y ?_
   rw [i2];refine QZ 5 Y (by omega) ?_;refine Qf (la+1) Y Y Y (by simp;omega) Y sNat (by omega) (by omega) Y ?_
   rw [i3];refine QZ 3 Y (by omega) ?_;refine Qf (n+1) Y Y Y (by simp;omega) Y sNat (by omega) (by omega) Y ?_
   rw [i4];refine QZ 3 Y (by omega) ?_;refine Qf (n+1) Y Y Y (by simp;omega) Y sNat (by omega) (by omega) Y ?_
   rw [i5]
   refine QK Y Y Y Y (XK (by omega)) lInt Y ?_;refine QK Y Y Y Y (XK (by omega)) lInt Y ?_;refine QK Y Y Y Y (XK (by omega)) lInt Y ?_;refine QK Y Y Y Y (XK (by omega)) lInt Y ?_;refine QK Y Y Y Y (XK (by omega)) lInt Y ?_;refine Qv (gT J) (guess_ok _ _ _ _ _ c1.1 W.1 hst.2 c4.2 c2.1 c2.2 c3.1 c3.2 c5.1 c5.2) Y ?_
   generalize gs (us.getD (j+n) 0) (us.getD (j+n - 1) 0) (us.getD (j+n - 2) 0) (V.getD (n - 1) 0) (V.getD (n - 2) 0)=gg at*;obtain ⟨-,g1,g2,g3,g4,uz,vpos,vlt⟩:=W
   have hVJ:val V*BB ^ j<BB ^ (j+n+1):=by
    have h1:val V*BB ^ j<BB ^ n*BB ^ j:=Int.mul_lt_mul_of_pos_right vlt (Bpos _)
    have h2:BB ^ n*BB ^ j<=BB ^ (j+n+1):=by
     rw [<- Int.pow_add,show j+n+1=(n+j)+1 by omega,Int.pow_succ];have:=Bpos (n+j);simp only [BB] at*;omega
    omega
   have hRlo: -(val V*BB ^ j)<=val us - gg*val V*BB ^ j:=by
    have:(gg - 1)*val V*BB ^ j=gg*val V*BB ^ j - val V*BB ^ j:=by grind
    omega
   have hRhi:val us - gg*val V*BB ^ j<val V*BB ^ j:=by
    have:(gg+1)*val V*BB ^ j=gg*val V*BB ^ j+val V*BB ^ j:=by grind
    omega
   refine QZ 17 Y (by omega) ?_
   refine QY (α:=Nat × List Int × Int) (fun s=>s.1<=n+1/\ Win us V j (-gg) (-1073741824) 0 s.1 s.2.1 s.2.2)
    (fun s=>[(0, .ct (natC a)),(1, .ct (natC b)),(7, .ct (intC n)),(10, .ct (intC k)),(11, .own 0),(12, .own 1),(13, .own 2),(14, .ct (intC j)),(15, .ct (intC gg)),(16, .ct (intC s.2.2)),(113, .ct (intC ((n:Int)+1))),(114, .ct (intC s.1))])
    (fun s=>[(2, .row 3 1 (ints qs)),(1, .row 3 1 (ints V)),(0, .row 3 1 (ints s.2.1))])
    (fun s=>n+1 - s.1) (0,us,0) ⟨Nat.zero_le _,Win.zero huok (by decide) (by decide)⟩ (by exact Qx Y) ?_
   · rintro ⟨i,zs,c⟩ ⟨hi,HW⟩
     dsimp only at hi HW ⊢;have hzl:=HW.len;refine Qj 6 Y ?_;refine Qy Y (fun h2=> ?_) (fun h2=> ?_)
     · have d1:=HW.ok.get (j+i);have d2:=hVok.get i;simp only [BB] at d1 d2;have d3:=HW.lo;have d4:=HW.hi;have GB:=gd_bd g1 g2 d2.1 d2.2 d1.1 d1.2 d3 d4
       have k1:((j:Int)+i).toNat*1=j+i:=by omega
       have k2:(i:Int).toNat*1=i:=by omega
       refine Qj 11 Y (XY 16 0x800f0e0c0b2a250d090807060403020100 Y ?_);refine QZ 4 Y (by omega) ?_;refine Qf (la+1) Y Y Y (by simp;omega) Y sNat (by omega) (by omega) Y ?_
       rw [k1];refine Qq 3 Y (Qf (n+1) Y Y Y (by simp;omega) Y sNat (by omega) (by omega) Y ?_);rw [k2];refine Qq 1 Y (QK Y Y Y Y (XK (by omega)) lInt Y ?_);refine QK Y Y Y Y (XK (by omega)) lInt Y ?_;refine QZ 12 Y (by omega) ?_;refine Qh iand30 Y Y Y Y (Qq 1 Y (Qh ishr30 Y Y Y Y (Qf (la+1) Y Y Y (by simp;omega) Y sNat (by omega) (by omega) Y ?_)))
       rw [k1]
       refine Qa Y Y Y Y Y zInt (by simp [Ent.cs];omega) ?_
       simp only [Ent.setc,Zz];refine QZ 8 Y (by omega) ?_
       have ef:zs.getD (j+i) 0 - gg*V.getD i 0+c=zs.getD (j+i) 0+ -gg*V.getD i 0+c:=by rw [Int.neg_mul];omega
       have HS:=HW.step (by omega) (by rw [<- ef];exact GB.2.2.1) (by rw [<- ef];exact GB.2.2.2);rw [<- ef] at HS;refine Qk (i+1,_,_) (by dsimp only;omega) ⟨by dsimp only;omega,HS⟩ (by exact Qx Y)
     · have hi' :i=n+1:=by omega
       subst hi';have hzr:=HW.lt uz;have hval:=HW.value;rw [ZZ (xs:=V) (by omega),show j+(n+1)=j+n+1 by omega] at hval
       have hR2:val zs+c*BB ^ (j+n+1)=val us - gg*val V*BB ^ j:=by rw [hval,Int.neg_mul,Int.neg_mul];omega
       have SD:=sub_done hVJ hRlo hRhi hzr.1 hzr.2 HW.hi hR2;refine Qj 9 Y ?_;refine Qy Y (fun h3=> ?_) (fun h3=> ?_)
       · obtain ⟨s1,s2⟩:=SD.2 h3;have hus0:=Yb huok
         have gpos:1<=gg:=by
          by_cases h0:gg=0
          · subst h0;simp at s2;omega
          · omega
         have zz:∀p,j+n+1<=p ->zs.getD p 0=0:=fun p hp=>by rw [HW.same p (by omega)];exact uz p hp
         have hzok:=HW.ok;clear HW hval hR2 SD;refine Xz 16 Y (by omega) ?_
         refine QY (α:=Nat × List Int × Int) (fun s=>s.1<=n+1/\ Win zs V j 1 0 1 s.1 s.2.1 s.2.2)
          (fun s=>[(0, .ct (natC a)),(1, .ct (natC b)),(7, .ct (intC n)),(10, .ct (intC k)),(11, .own 0),(12, .own 1),(13, .own 2),(14, .ct (intC j)),(15, .ct (intC (gg - 1))),(16, .ct (intC s.2.2)),(147, .ct (intC ((n:Int)+1))),(148, .ct (intC s.1))])
          (fun s=>[(2, .row 3 1 (ints qs)),(1, .row 3 1 (ints V)),(0, .row 3 1 (ints s.2.1))])
          (fun s=>n+1 - s.1) (0,zs,0) ⟨Nat.zero_le _,Win.zero hzok (by decide) (by decide)⟩ (by exact Qx Y) ?_
         rintro ⟨i,ys,c'⟩ ⟨hi,HW⟩
         dsimp only at hi HW ⊢;have hyl:=HW.len;refine Qj 6 Y ?_;refine Qy Y (fun h4=> ?_) (fun h4=> ?_)
         · have d1:=HW.ok.get (j+i);have d2:=hVok.get i;simp only [BB] at d1 d2;have d3:=HW.lo;have d4:=HW.hi
           have k1:((j:Int)+i).toNat*1=j+i:=by omega
           have k2:(i:Int).toNat*1=i:=by omega
           refine Qj 11 Y (XY 14 0x800d0c0a29250b0807060403020100 Y ?_);refine QZ 4 Y (by omega) ?_;refine Qf (la+1) Y Y Y (by simp;omega) Y sNat (by omega) (by omega) Y ?_
           rw [k1];refine Qq 2 Y (Qf (n+1) Y Y Y (by simp;omega) Y sNat (by omega) (by omega) Y ?_);rw [k2];refine Qq 1 Y (QK Y Y Y Y (XK (by omega)) lInt Y ?_);refine QK Y Y Y Y (XK (by omega)) lInt Y ?_;refine QZ 11 Y (by omega) ?_;refine Qh iand30 Y Y Y Y (Qq 1 Y (Qh ishr30 Y Y Y Y (Qf (la+1) Y Y Y (by simp;omega) Y sNat (by omega) (by omega) Y ?_)))
           rw [k1]
           refine Qa Y Y Y Y Y zInt (by simp [Ent.cs];omega) ?_
           simp only [Ent.setc,Zz];refine QZ 8 Y (by omega) ?_
           have ef:ys.getD (j+i) 0+V.getD i 0+c' =ys.getD (j+i) 0+1*V.getD i 0+c' :=by omega
           have HS:=HW.step (by omega) (by rw [<- ef];omega) (by rw [<- ef];omega);rw [<- ef] at HS;refine Qk (i+1,_,_) (by dsimp only;omega) ⟨by dsimp only;omega,HS⟩ (by exact Qx Y)
         · have hi' :i=n+1:=by omega
           subst hi';have hyr:=HW.lt zz;have hval:=HW.value;rw [ZZ (xs:=V) (by omega),show j+(n+1)=j+n+1 by omega,Int.one_mul,s1] at hval;have AD:=add_done hVJ hRlo s2 hyr.1 hyr.2 hval;have hyok:=HW.ok
           have k3:(j:Int).toNat*1=j:=by omega
           clear HW hval;refine Qj 6 Y (Qf (la - n+1) Y Y Y (by simp;omega) Y sNat (by omega) (by omega) Y ?_);rw [k3]
           refine Qa Y Y Y Y Y zInt (by simp [Ent.cs];omega) ?_
           simp only [Ent.setc,Zz];refine QZ 8 Y (by omega) ?_;refine Qk (j,ys,qs.set j (gg - 1)) (by dsimp only;omega) ⟨by dsimp only;omega,by dsimp only;omega,hyok,?_,by simp [hql],hqok.set _ (by simp only [BB];omega),?_,?_⟩ (by exact Qx Y)
           all_goals dsimp only
           · omega
           · intro p hp;rw [getD_set (by omega),if_neg (by omega)];exact hqz p (by omega)
           · rw [AD,JQ (by omega),hqz j (by omega),<- hinv];grind
       · have s1:=SD.1 h3;have hzok:=HW.ok
         have k3:(j:Int).toNat*1=j:=by omega
         clear HW hval hR2 SD;refine Qj 6 Y (Qf (la - n+1) Y Y Y (by simp;omega) Y sNat (by omega) (by omega) Y ?_);rw [k3]
         refine Qa Y Y Y Y Y zInt (by simp [Ent.cs];omega) ?_
         simp only [Ent.setc,Zz];refine QZ 8 Y (by omega) ?_;refine Qk (j,zs,qs.set j gg) (by dsimp only;omega) ⟨by dsimp only;omega,by dsimp only;omega,hzok,?_,by simp [hql],hqok.set _ (by simp only [BB];omega),?_,?_⟩ (by exact Qx Y)
         all_goals dsimp only
         · omega
         · intro p hp;rw [getD_set (by omega),if_neg (by omega)];exact hqz p (by omega)
         · rw [s1,JQ (by omega),hqz j (by omega),<- hinv];grind
 · have hJ0:J=0:=by omega
   subst hJ0
   have hb0:0<b:=by
    rcases Nat.eq_zero_or_pos b with h0|h0
    · subst h0;rw [limbs_zero] at hN;simp at hN;omega
    · exact h0
   rw [Int.pow_zero,Int.mul_one] at hult;have FV:=fin_val (k:=k) (a:=a) hb0 (Yb huok) (by rw [<- hVv];exact hult) (by rw [<- hVv,<- hUv];exact hinv)
   have hVn:val V<BB ^ n:=by
    have e:=val_of_zeros (xs:=V) (p:=n) (fun p hp=>by
     rcases Nat.eq_or_lt_of_le hp with rfl|hp
     · exact hst.1
     · exact getD_ge (by omega))
    rw [e];exact (Y4 hVok n).2
   have ht:=trim_take (n:=n) huok (by omega);rw [FV.2,Int.toNat_natCast] at ht
   have hqs:trimL qs=limbs (a/b):=by rw [Zk hqok,FV.1,Int.toNat_natCast]
   have hrl:(limbs (a%b*2 ^ k)).length<=n:=by rw [<- ht];exact Nat.le_trans (trim_len _) (by simp;omega)
   have hsh:=shr_limbs (a%b) k hk30;have hsl:=shrL_len k (limbs (a%b*2 ^ k));have hrok:=Qr (a%b*2 ^ k);have hsg:=shrL_get k (limbs (a%b*2 ^ k));clear hfl hinv hult hUv hVv hbn htop;refine X6 0 _ Y (X2 _ _) noBor_sub (Qj 6 Y (Ops.cutHi Y Y Y sNat (by omega) (by rw [List.length_map];omega) Y ?_));rw [<- List.map_take,eN]
   refine Qv (gT J) (trim_ok _ (by simp;omega)) Y ?_
   rw [ht];generalize limbs (a%b*2 ^ k)=rs at*;generalize shrL k rs=ss at*;refine Qq 6 Y (QV sNat.und Y (ZV 0 rs.length Y Y Y Y sNat (by omega) (by omega) Y Y Y ?_));rw [ints_made];refine Qq 7 Y (QV sNat.und Y (QZ 5 Y (by omega) ?_))
   refine QY (α:=Nat × List Int) (fun s=>s.1<=rs.length/\ s.2.length=rs.length/\ (∀p,s.1<=p ->s.2.getD p 0=ss.getD p 0))
    (fun s=>[(10, .ct (intC k)),(13, .own 2),(21, .ct (intsC rs)),(22, .own 0),(23, .ct (intC ((s.1:Int) - 1)))])
    (fun s=>[(0, .row 3 1 (ints s.2)),(2, .row 3 1 (ints qs)),(1, .row 3 1 (ints V))])
    (fun s=>s.1) (rs.length,List.replicate rs.length 0) ⟨Nat.le_refl _,by simp,?_⟩ (by exact Qx Y) ?_
   · intro p hp;dsimp only at hp ⊢;rw [getD_ge (by simp;omega),getD_ge (by omega)]
   rintro ⟨J,zs⟩ ⟨hJ,hzl,hz⟩
   dsimp only at hJ hzl hz ⊢;refine Qj 7 Y ?_;refine Qy Y (fun h=> ?_) (fun h=> ?_)
   · obtain ⟨i,rfl⟩:∃i,J=i+1:=⟨J - 1,by omega⟩
     have ej:(((i+1:Nat):Int) - 1)=(i:Int):=by omega
     rw [ej];have d1:=hrok.get i;have d2:=hrok.get (i+1);simp only [BB] at d1 d2;have k1:(i:Int).toNat=i:=Int.toNat_natCast i
     have k2:(i:Int).toNat*1=i:=by omega
     have k3:((i:Int)+1).toNat=i+1:=by omega
     refine Qj 4 J (XY 16 0x80700f0e0d0b06452a0c0908070403020100 Y ?_);refine QZ 7 Y (by omega) ?_;refine Q8 0 sNat Y (by omega) ?_;refine Qq 2 Y ?_;rw [k1];refine Qv (gT J) (at_ok rs _ (by omega)) Y ?_
     rw [k3]
     refine Qh (ishl30 (by omega) (by omega)) Y Y Y Y ?_
     refine Qh (ior30 (by omega) (by omega) (by omega) (by omega)) Y Y Y Y ?_;refine Qh (ishr k Y (by omega)) Y Y Y Y ?_;refine Qh iand30 Y Y Y Y (Qf rs.length Y Y Y (by simp;omega) Y sNat (by omega) (by omega) Y ?_);rw [k2];refine Qa Y Y Y Y Y zInt (by simp [Ent.cs];omega) ?_
     simp only [Ent.setc,Zz];refine QZ 8 Y (by omega) ?_;refine Qk (i,_) (by dsimp only;omega) ⟨by dsimp only;omega,?_,?_⟩ (by exact Qx Y)
     · simp [hzl]
     · intro p hp;dsimp only at hp ⊢;rw [getD_set (by omega)];split
       · rename_i e;subst e;exact (hsg i (by omega)).symm
       · exact hz p (by omega)
   · have hJ0:J=0:=by omega
     subst hJ0
     have hzs:zs=ss:=by
      apply List.ext_getElem (by omega)
      intro p h1 h2;have:=hz p (Nat.zero_le _)
      simpa [List.getD_eq_getElem?_getD,h1,h2] using this
     subst hzs;refine X6 0 _ Y (X2 _ _) noBor_sub (X6 2 _ Y (X2 _ _) noBor_sub (Qj 5 Y (Qv (gT J) (trim_ok _ (by omega)) Y ?_)));rw [hqs];refine Qq 1 Y (Qv (gT J) (trim_ok _ (by omega)) Y ?_);rw [hsh];refine Qq 6 Y ?_;refine Qw Y Y
theorem DivMod_less(a b:Nat)(hab:a<b)(hl:(limbs b).length<=256):Ok prog 202 [natC a,natC b] (.tup [natC (a/b),natC (a%b),intC 0]):=by
 have hla:(limbs a).length<=(limbs b).length:=Qm (by omega)
 have hlb:0<(limbs b).length:=by
  rcases Nat.eq_zero_or_pos (limbs b).length with h|h
  · have:=limbs_nil (List.eq_nil_of_length_eq_zero h);omega
  · exact h
 refine Ok.enter func202 J _ ntmps202 J ?_
 intro S w;refine Qj 10 J (Qv (gT J) (trim_ok _ (by omega)) J ?_);rw [trim_of_limbs];refine Qq 6 J (QV sNat.und J (Qq 12 J ?_));refine Qy J (fun h=>by exfalso;omega) (fun h=> ?_);clear h;refine Qj 4 J (Qv (gT J) (Compare_ok a b (by omega) (by omega)) J ?_);refine Qq 4 J ?_;refine Qy J (fun h=> ?_) (fun h=> ?_)
 · refine Qj 3 J (Qv (gT J) (Clone_ok _ (by omega)) J ?_);refine Qq 6 J ?_;rw [Nat.div_eq_of_lt hab,Nat.mod_eq_of_lt hab,natC_zero];refine X5 [_,_,_] rfl (AllRes.nilS 1 J (Q4 J (Q4 J Q3))) J J
 · exfalso;apply h;rw [cmpI_eq,if_pos (by omega)];decide
theorem DivMod_ok(a b:Nat)(hb:0<b)(hla:(limbs a).length<=256)(hlb:(limbs b).length<=256):Ok prog 202 [natC a,natC b] (.tup [natC (a/b),natC (a%b),intC 0]):=by
 by_cases h:a<b
 · exact DivMod_less a b h hlb
 · by_cases h2:2<=(limbs b).length
   · exact DivMod_big a b h2 (by omega) hla
   · refine DivMod_small a b hb ?_ hla
     have:=Xu (n:=b) (k:=1) (by omega)
     simpa using this
theorem Gcd_ok(a b:Nat)(hla:(limbs a).length<=256)(hlb:(limbs b).length<=256):Ok prog 233 [natC a,natC b] (natC (Nat.gcd a b)):=by
 refine Ok.enter func233 J _ ntmps233 J ?_
 intro S w;refine Qj 9 J (Qv (gT J) (Clone_ok _ (by omega)) J ?_);refine Qq 1 J (Qv (gT J) (Clone_ok _ (by omega)) J ?_);refine Qq 5 J ?_
 refine QY (α:=Nat × Nat) (fun s=>(limbs s.1).length<=256/\ (limbs s.2).length<=256/\ Nat.gcd s.1 s.2=Nat.gcd a b)
  (fun s=>[(0, .ct (natC s.1)),(1, .ct (natC s.2))]) (fun _=>[]) (fun s=>s.2) (a,b) ⟨hla,hlb,rfl⟩ (by exact Qx J) ?_
 rintro ⟨p,q⟩ ⟨hp,hq,hg⟩
 dsimp only at hq hp hg ⊢;refine Qj 4 J (QV sNat.und J (Qq 3 J ?_));refine Qy J (fun h=> ?_) (fun h=> ?_)
 · have hq0:0<q:=by
    rcases Nat.eq_zero_or_pos q with h0|h0
    · subst h0;rw [limbs_zero] at h;simp at h
    · exact h0
   refine Qj 7 J (Qv (gT J) (DivMod_ok p q hq0 hp hq) J (Qq 26 J ?_));have hm:=Nat.mod_lt p hq0;refine Qk (q,p%q) hm ⟨hq,?_,?_⟩ (by exact Qx J)
   · have:=Qm (Nat.le_of_lt hm);dsimp only;omega
   · dsimp only;rw [<- hg,Nat.gcd_comm,<- Nat.gcd_rec,Nat.gcd_comm]
 · have hq0:q=0:=limbs_nil (List.eq_nil_of_length_eq_zero (by omega))
   have e:p=Nat.gcd a b:=by rw [<- hg,hq0,Nat.gcd_zero_right]
   rw [<- e];refine Qj 9 J ?_;refine Qw J J
theorem reduced_ok(neg:Bool)(a b:Nat)(h0:0<b)(hla:(limbs a).length<=256)(hlb:(limbs b).length<=256):Ok prog 201 [boolC neg,natC a,natC b] (fracC (redF neg a b)):=by
 have hg0:0<Nat.gcd a b:=Nat.gcd_pos_of_pos_right _ h0;have hg1:Nat.gcd a b<=b:=Nat.gcd_le_right _ h0;have hlg:=Qm hg1
 refine Ok.enter func201 J _ ntmps201 J ?_
 intro S w;have e0:redF neg a b=⟨neg&&decide (a/Nat.gcd a b≠0),a/Nat.gcd a b,b/Nat.gcd a b⟩:=rfl;rw [e0];clear e0;have h1:=Gcd_ok a b hla hlb;generalize Nat.gcd a b=g at*;refine Qj 9 J (Qv (gT J) h1 J (Qq 7 J (Qv (gT J) (DivMod_ok a g hg0 hla (by omega)) J ?_)));refine Qq 13 J (Qv (gT J) (DivMod_ok b g hg0 hlb (by omega)) J ?_);refine Qq 13 J (Xk 32 J (fun h=> ?_) (fun h=> ?_))
 · refine Qq 1 J (QV sNat.und J (Qq 9 J ?_));refine Qw J (by rw [<- limbs_len_posI,h];rfl)
 · refine Qq 11 J ?_;refine Qw J (by rw [h];rfl)
theorem Reduce_ok(f:Fr)(h0:0<f.den)(hla:(limbs f.num).length<=256)(hlb:(limbs f.den).length<=256):Ok prog 155 [fracC f] (fracC (redF f.neg f.num f.den)):=by
 refine Ok.enter func155 J _ ntmps155 J ?_
 intro S w;refine Qj 14 J (Qv (gT J) (reduced_ok f.neg f.num f.den h0 hla hlb) J (Qq 4 J ?_));refine Qw J J
def qv (f : Fr) : Rat := mkRat (sg f.neg f.num) f.den
theorem Ym(q:Rat):qv (ofQ q)=q:=by unfold qv;rw [ofQ_sg];exact Rat.mkRat_self q
theorem redF_add(f h:Fr)(h1:0<f.den)(h2:0<h.den):redF (sumS f.neg (f.num*h.den) h.neg (h.num*f.den)) (sumN f.neg (f.num*h.den) h.neg (h.num*f.den)) (f.den*h.den)=ofQ (qv f+qv h):=by
 rw [redF_q _ _ _ (Nat.mul_pos h1 h2),sum_sg,sg_mul,sg_mul];unfold qv;rw [Rat.mkRat_add_mkRat _ _ (by omega) (by omega)]
theorem redF_mul(f h:Fr)(h1:0<f.den)(h2:0<h.den):redF (f.neg !=h.neg) (f.num*h.num) (f.den*h.den)=ofQ (qv f*qv h):=by
 rw [redF_q _ _ _ (Nat.mul_pos h1 h2)];unfold qv;rw [Rat.mkRat_mul_mkRat]
 congr 2
 cases f.neg <;>cases h.neg <;>simp [sg,Int.natCast_mul,Int.neg_mul,Int.mul_neg]
theorem FCompare_gen(f h:Fr)(h1:(limbs f.num).length<=90)(h2:(limbs f.den).length<=90)(h3:(limbs h.num).length<=90)(h4:(limbs h.den).length<=90):Ok prog 168 [fracC f,fracC h] (.tup [intC (if sumN f.neg (f.num*h.den) (!h.neg) (h.num*f.den)=0 then 0 else if sumS f.neg (f.num*h.den) (!h.neg) (h.num*f.den) then -1 else 1),intC 0]):=by
 have l1:=mul_len h1 h4;have l2:=mul_len h3 h2
 refine Ok.enter func168 J _ ntmps168 J ?_
 intro S w;refine Qj 9 J (XY 21 0x8014131211104f4e462d2b09282523210c0a07040200 J ?_);refine Qq 13 J (Qv (gT J) (product_ok f.num h.den (by omega)) J ?_);refine Qv (gT J) (product_ok h.num f.den (by omega)) J ?_;refine Qv (gT J) (sum_ok _ _ _ _ (by omega) (by omega)) J ?_;refine Qq 12 J (QV sNat.und J (Qq 4 J ?_));refine Qy J (fun hz=> ?_) (fun hz=> ?_)
 · have hz' :sumN f.neg (f.num*h.den) (!h.neg) (h.num*f.den)=0:=limbs_nil (List.eq_nil_of_length_eq_zero (by omega));refine Qj 7 J ?_;refine Qw J (by rw [if_pos hz'];rfl)
 · have hz' :¬sumN f.neg (f.num*h.den) (!h.neg) (h.num*f.den)=0:=fun e=>hz (by rw [e,limbs_zero];rfl)
   refine Qj 6 J ?_;refine Xx J (fun hs=> ?_) (fun hs=> ?_)
   · refine Qj 7 J ?_;refine Qw J (by rw [if_neg hz',hs];rfl)
   · refine Qj 9 J ?_;refine Qw J (by rw [if_neg hz',hs];rfl)
theorem FMul_gen(f h:Fr)(hs1:(limbs f.num).length+(limbs h.num).length<=64)(hs2:(limbs f.den).length+(limbs h.den).length<=64)(d1:0<f.den)(d2:0<h.den):
  Ok prog 213 [fracC f,fracC h] (.tup [ratC (qv f*qv h),intC 0]):=by
 have hp:=Nat.mul_pos d1 d2;have l3:=XZ (a:=f.num) (b:=h.num);have l8:=XZ (a:=f.den) (b:=h.den);have l4:=redF_den (f.neg !=h.neg) (f.num*h.num) _ hp;have l5:=redF_neg (f.neg !=h.neg) (f.num*h.num) (f.den*h.den);have l6:(limbs (redF (f.neg !=h.neg) (f.num*h.num) (f.den*h.den)).num).length<=64:=div_len (Nat.le_trans l3 hs1);have l7:=Qm l4.2;have hr:=reduced_ok (f.neg !=h.neg) (f.num*h.num) _ hp (by omega) (by omega);show Ok prog 213 [fracC f,fracC h] (.tup [fracC (ofQ (qv f*qv h)),intC 0]);rw [<- redF_mul f h d1 d2]
 refine Ok.enter func213 J _ ntmps213 J ?_
 intro S w;generalize redF (f.neg !=h.neg) (f.num*h.num) (f.den*h.den)=rr at*;refine Qj 9 J (XY 19 0x8014731211504f4e492d2b28260423210c0a07050200 J ?_);refine Qq 8 J (Ops.bne J J J uBool J ?_);rw [dne];refine Qq 4 J (Qv (gT J) (product_ok f.num h.num (by omega)) J ?_);refine Qv (gT J) (product_ok f.den h.den (by omega)) J ?_;refine Qv (gT J) hr J (Qv (gT J) (checked_ok rr (by omega) (by omega) l4.1 l5) J ?_);refine Qq 7 J ?_;refine Qw J J
theorem zvWh:(prog.info? 178).map (·.zero)=some (some (.agg #[.bool false, .slice none 0 0])):=by kernel_rfl
theorem lWh:LdN prog 178 2:=LdN.of _ underlying178 rfl (by kernel_rfl)
theorem szWh:(prog.info? 178).map (·.size)=some 2:=by kernel_rfl
theorem sWhs:SlcT prog 179 178 2 32 (.agg #[.bool false, .slice none 0 0]):=SlcT.of underlying179 (by kernel_rfl) rfl (by decide)
theorem lWhs:Ld1 prog 179:=Ld1.of _ underlying179 rfl
theorem sMat:SlcT prog 180 179 1 24 (.slice none 0 0):=SlcT.of underlying180 (by kernel_rfl) rfl (by decide)
theorem lMat:Ld1 prog 180:=Ld1.of _ underlying180 rfl
theorem fT0:fldInfo prog 182 0=some (0,some 1):=by kernel_rfl
theorem fT2:fldInfo prog 182 2=some (2,some 1):=by kernel_rfl
theorem fT3:fldInfo prog 182 3=some (3,some 2):=by kernel_rfl
theorem zMat:(prog.info? 180).map (·.size)=some 1:=by kernel_rfl
theorem zWhs:(prog.info? 179).map (·.size)=some 1:=by kernel_rfl
theorem Y5:(prog.info? 51).map (·.size)=some 1:=by kernel_rfl
theorem uBoolW:prog.underlying 4=some .bool:=underlying4
abbrev whCs (z : Int) : List CT := [boolC (decide (z < 0)), natC z.natAbs]
abbrev whC (z : Int) : CT := .agg (whCs z)
def whs (zs : List Int) : List CT := (zs.map whCs).flatten
theorem XV(zs:List Int):(whs zs).length=zs.length*2:=by
 unfold whs;rw [Xe (k:=2) (by simp)];simp
theorem whs_get{zs:List Int}{j:Nat}(h:j<zs.length):((whs zs).drop (j*2)).take 2=whCs (zs.getD j 0):=by
 induction zs generalizing j with
 |nil=>simp at h
 |cons z zs ih=>
  cases j with
  |zero=>simp [whs]
  |succ j=>
   have:=ih (j:=j) (by simpa using h);have e:whs (z::zs)=whCs z++whs zs:=rfl;rw [e,show (j+1)*2=2+j*2 by omega,<- List.drop_drop]
   simpa using this
theorem whs_put{zs:List Int}{j:Nat}(z:Int)(h:j<zs.length):(whs zs).take (j*2)++whCs z++(whs zs).drop (j*2+2)=whs (zs.set j z):=by
 induction zs generalizing j with
 |nil=>simp at h
 |cons y zs ih=>
  cases j with
  |zero=>simp [whs]
  |succ j=>
   have:=ih (j:=j) (by simpa using h);have e:whs (y::zs)=boolC (decide (y<0))::natC y.natAbs::whs zs:=rfl;have e2:whs ((y::zs).set (j+1) z)=boolC (decide (y<0))::natC y.natAbs::whs (zs.set j z):=rfl;rw [e,e2,show (j+1)*2=(j*2+1)+1 by omega,<- this];simp
section
variable {X : Ctx} {L : AL} {B : BL} {ops : Array Oper} {K : Act → World → Prop} {r : Pl} {k : Kd}
  {x y z : Operand} {d : Nat} {t t2 t' : TypeId} {pos : String} {af : Array Edge} {g : Option (Nat × Bool)}
theorem ldWh{i j:Nat}{e:Ent}{l:List Int}(hk:k.rd=true)(hg:gd ops L g=some true)(hx:ev L x=some (.loc i (j*2)))(hi:bget B i=some e)(he:e.cs=whs l)(hj:j<l.length)(hT:LdN X.P t 2)(hn:Nat.blt d X.n=true)
  (h:Ops X ops r ((d, .ct (whC (l.getD j 0)))::L) B K):Ops X ops (.cons ⟨some d, .load t x,t',pos,af,g⟩ k r) L B K:=
 Z5 hk hg hx hi (by rw [he,XV];omega) hT hn (by rw [he,whs_get hj];exact h)
theorem stWhX{i j el:Nat}{v0:Value}{l:List Int}{c:Int}(hg:gd ops L g=some true)(hx:ev L x=some (.loc i (j*2)))(hi:bget B i=some (.rowx v0 el 2 (whs l)))(hy:ev L y=some (.ct (whC c)))(hj:j<l.length)(hsz:(X.P.info? t).map (·.size)=some 2)
  (h:Ops X ops r L (bset B i (.rowx v0 el 2 (whs (l.set j c)))) K):Ops X ops (.cons ⟨none, .store t x y,t',pos,af,g⟩ .any r) L B K:=
 Ops.stNA hg hx hi hy rfl hsz (by show j*2+2<=(whs l).length;rw [XV];omega) (by
  have:(Ent.rowx v0 el 2 (whs l)).putc (j*2) (whCs c)= .rowx v0 el 2 (whs (l.set j c)):=by rw [<- whs_put c hj];rfl
  rw [this];exact h)
end
theorem zvRowW:(prog.info? 136).map (·.zero)=some (some (.agg #[.slice none 0 0, .int .i64 0])):=by kernel_rfl
theorem whC_eq{z:Int}{b:Bool}{n:Nat}(h:z=sg b n)(hb:b=true ->n≠0):whC z= .agg [boolC b,natC n]:=by
 subst h;unfold whC whCs;rw [natAbs_sg]
 have:decide (sg b n<0)=b:=by
  unfold sg
  cases b with
  |true=>have:=hb J;simp;omega
  |false=>simp
 rw [this]
theorem of_ok(n:Int)(h1: -9223372036854775807<=n)(h2:n<=9223372036854775807):Ok prog 142 [intC n] (whC n):=by
 refine Ok.enter func142 J _ ntmps142 J ?_
 intro S w;refine Qj 12 J ?_;refine Qy J (fun h=> ?_) (fun h=> ?_)
 · refine Xz 4 J (by omega) ?_;rw [show -n=(n.natAbs:Int) by omega]
   refine Qv (gT J) (From_ok n.natAbs (by omega)) J ?_;refine Qq 15 J ?_;refine Qw J (by rw [whC_eq (b:=true) (n:=n.natAbs) (by unfold sg;rw [if_pos J];omega) (by intro _;omega)];rfl)
 · refine Qj 5 J (Qv (gT J) (by rw [show n=(n.natAbs:Int) by omega];exact From_ok n.natAbs (by omega)) J ?_);refine Qq 15 J ?_;refine Qw J (by rw [whC_eq (b:=false) (n:=n.natAbs) (by unfold sg;rw [if_neg (by decide)];omega) (by intro h;cases h)];rfl)
theorem len0{z:Int}:((limbs z.natAbs).length:Int)=0↔z=0:=by
 have:=limbs_len_pos (n:=z.natAbs);omega
theorem sign_ok(z:Int):Ok prog 143 [whC z] (intC z.sign):=by
 have hz:=len0 (z:=z)
 refine Ok.enter func143 J _ ntmps143 J ?_
 intro S w;refine Qj 12 J (QV sNat.und J (Qq 4 J ?_));refine Qy J (fun h=> ?_) (fun h=> ?_)
 · have h0:z=0:=hz.1 h;subst h0;refine Qj 6 J ?_;refine Qw J J
 · refine Qj 7 J ?_;refine Qy J (fun h2=> ?_) (fun h2=> ?_)
   · refine Qj 6 J ?_;refine Qw J (by rw [Int.sign_eq_neg_one_of_neg h2];rfl)
   · have h3:0<z:=by have:=fun e=>h (hz.2 e);omega
     refine Qj 8 J ?_;refine Qw J (by rw [Int.sign_eq_one_of_pos h3];rfl)
theorem minus_ok(z:Int):Ok prog 145 [whC z] (whC (-z)):=by
 have hz:=limbs_len_pos (n:=z.natAbs)
 refine Ok.enter func145 J _ ntmps145 J ?_
 intro S w
 have e:whC (-z)= .agg [boolC (!decide (z<0)&&decide (((limbs z.natAbs).length:Int)>0)),natC z.natAbs]:=by
  unfold whC whCs;rw [Int.natAbs_neg]
  congr 4
  by_cases h:z<0
  · rw [decide_eq_true h,decide_eq_false (by omega)];rfl
  · rw [decide_eq_false h,Bool.not_false,Bool.true_and,decide_eq_decide];omega
 rw [e];clear e;refine Qj 12 J (Xk 6 J (fun h=> ?_) (fun h=> ?_))
 · refine Qq 2 J (QV sNat.und J (Qq 9 J ?_));refine Qw J (by rw [h];rfl)
 · refine Qq 12 J ?_;refine Qw J (by rw [h];rfl)
theorem plus_ok(a b:Int)(ha:(limbs a.natAbs).length<=200)(hb:(limbs b.natAbs).length<=200):Ok prog 144 [whC a,whC b] (whC (a+b)):=by
 refine Ok.enter func144 J _ ntmps144 J ?_
 intro S w;refine Qj 14 J (Ops.beq J J J uBoolW J (Qq 2 J ?_));refine Xx J (fun h=> ?_) (fun h=> ?_)
 · have h' :decide (a<0)=decide (b<0):=by simpa using h
   have hab:(a+b).natAbs=a.natAbs+b.natAbs:=by
    rw [decide_eq_decide] at h';omega
   have hneg:decide (a+b<0)=(decide (a<0)&&decide (((limbs (a+b).natAbs).length:Int)>0)):=by
    have hz:=limbs_len_pos (n:=(a+b).natAbs);rw [decide_eq_decide] at h';by_cases h:a<0
    · rw [decide_eq_true h,Bool.true_and,decide_eq_decide];omega
    · rw [decide_eq_false h,Bool.false_and,decide_eq_false_iff_not];omega
   have e:whC (a+b)= .agg [boolC (decide (a<0)&&decide (((limbs (a+b).natAbs).length:Int)>0)),natC (a+b).natAbs]:=by
    unfold whC whCs;rw [hneg]
   rw [e,hab];clear e hneg;refine Qj 6 J (Qv (gT J) (Add_list _ _ ha hb (Qr _) (Qr _)) J ?_);rw [X1,X1,show ((a.natAbs:Int)+b.natAbs).toNat=a.natAbs+b.natAbs by omega];refine Qq 12 J (Xk 24 J (fun h=> ?_) (fun h=> ?_))
   · refine Qq 1 J (QV sNat.und J (Qq 8 J ?_));refine Qw J (by rw [h];rfl)
   · refine Qq 10 J ?_;refine Qw J (by rw [h];rfl)
 · have h' :¬decide (a<0)=decide (b<0):=by simpa using h
   rw [decide_eq_decide] at h';refine Qj 9 J (Qv (gT J) (Compare_ok a.natAbs b.natAbs (by omega) (by omega)) J ?_);refine Qq 3 J ?_;refine Qy J (fun h3=> ?_) (fun h3=> ?_)
   · have hlt:a.natAbs<b.natAbs:=by
      rw [cmpI_eq] at h3;split at h3
      · omega
      · split at h3 <;>omega
     have hab:(a+b).natAbs=b.natAbs - a.natAbs:=by omega
     have hneg:decide (a+b<0)=(decide (b<0)&&decide (((limbs (a+b).natAbs).length:Int)>0)):=by
      have hz:=limbs_len_pos (n:=(a+b).natAbs);by_cases h:b<0
      · rw [decide_eq_true h,Bool.true_and,decide_eq_decide];omega
      · rw [decide_eq_false h,Bool.false_and,decide_eq_false_iff_not];omega
     have e:whC (a+b)= .agg [boolC (decide (b<0)&&decide (((limbs (a+b).natAbs).length:Int)>0)),natC (a+b).natAbs]:=by
      unfold whC whCs;rw [hneg]
     rw [e,hab];clear e hneg;refine Qj 13 J (Qv (gT J) (Sub_ok b.natAbs a.natAbs (by omega) (by omega)) J ?_);refine Qq 12 J (Xk 49 J (fun h=> ?_) (fun h=> ?_))
     · refine Qq 1 J (QV sNat.und J (Qq 8 J ?_));refine Qw J (by rw [h];rfl)
     · refine Qq 10 J ?_;refine Qw J (by rw [h];rfl)
   · have hlt:¬a.natAbs<b.natAbs:=by
      intro hl;rw [cmpI_eq,if_pos (by omega)] at h3;omega
     have hab:(a+b).natAbs=a.natAbs - b.natAbs:=by omega
     have hneg:decide (a+b<0)=(decide (a<0)&&decide (((limbs (a+b).natAbs).length:Int)>0)):=by
      have hz:=limbs_len_pos (n:=(a+b).natAbs);by_cases h:a<0
      · rw [decide_eq_true h,Bool.true_and,decide_eq_decide];omega
      · rw [decide_eq_false h,Bool.false_and,decide_eq_false_iff_not];omega
     have e:whC (a+b)= .agg [boolC (decide (a<0)&&decide (((limbs (a+b).natAbs).length:Int)>0)),natC (a+b).natAbs]:=by
      unfold whC whCs;rw [hneg]
     rw [e,hab];clear e hneg;refine Qj 8 J (Qv (gT J) (Sub_ok a.natAbs b.natAbs (by omega) (by omega)) J ?_);refine Qq 12 J (Xk 49 J (fun h=> ?_) (fun h=> ?_))
     · refine Qq 1 J (QV sNat.und J (Qq 8 J ?_));refine Qw J (by rw [h];rfl)
     · refine Qq 10 J ?_;refine Qw J (by rw [h];rfl)
theorem w_wh0:∀S w v,(CT.agg [boolC false, .ex (.slice none 0 0)]).p S w v ->(whC 0).p S w v:=fun S w v h=>by
 have:whC 0= .agg [boolC false,intsC []]:=by show CT.agg [boolC (decide ((0:Int)<0)),natC 0]=_;rw [natC_zero];rfl
 rw [this]
 exact w_agg (cs:=[boolC false, .ex (.slice none 0 0)]) (ds:=[boolC false,intsC []]) ⟨Zx,Zp,trivial⟩ S w v h
theorem times_ok(a b:Int)(hx:(limbs a.natAbs).length+(limbs b.natAbs).length<=256):Ok prog 199 [whC a,whC b] (whC (a*b)):=by
 have ha:=len0 (z:=a);have hb:=len0 (z:=b)
 refine Ok.enter func199 J _ ntmps199 J ?_
 intro S w;refine Qj 12 J (QV sNat.und J (Qq 2 J (QQ 11 J (fun h=> ?_) (fun h=> ?_))))
 · have h0:a=0:=ha.1 h;subst h0;refine Qq 15 J ?_;refine X5 [_] rfl (Xv w_wh0 (Qi (n:=2) J J lWh J Q3)) (by rw [Int.zero_mul];rfl) J
 · refine Qq 2 J (QV sNat.und J (Qq 4 J ?_));refine Qy J (fun h2=> ?_) (fun h2=> ?_)
   · have h0:b=0:=hb.1 h2;subst h0;refine Qj 7 J ?_;refine X5 [_] rfl (Xv w_wh0 (Qi (n:=2) J J lWh J Q3)) (by rw [Int.mul_zero];rfl) J
   · have ha0:a≠0:=fun e=>h (ha.2 e)
     have hb0:b≠0:=fun e=>h2 (hb.2 e)
     have e:whC (a*b)= .agg [boolC (decide (a<0) !=decide (b<0)),natC (a.natAbs*b.natAbs)]:=by
      refine whC_eq (b:=decide (a<0) !=decide (b<0)) (n:=a.natAbs*b.natAbs) ?_ (fun _=>Nat.mul_ne_zero (by omega) (by omega))
      have h1:=sg_natAbs a;have h2:=sg_natAbs b
      conv=>lhs;rw [<- h1,<- h2]
      cases decide (a<0) <;>cases decide (b<0) <;>simp [sg,Int.natCast_mul,Int.neg_mul,Int.mul_neg]
     rw [e];clear e;refine Qj 8 J (Qv (gT J) (Mul_ok a.natAbs b.natAbs hx) J (Qq 13 J (Ops.bne J J J uBoolW J (Qq 1 J ?_))));rw [dne];refine Qq 5 J ?_;refine Qw J J
theorem tdiv_sg(a:Int)(b:Nat):a.tdiv b=sg (decide (a<0)) (a.natAbs/b):=by
 unfold sg;by_cases h:a<0
 · rw [if_pos (by simpa using h)];obtain ⟨n,rfl⟩:∃n:Nat,a= -(n:Int):=⟨a.natAbs,by omega⟩;rw [Int.neg_tdiv,Int.natAbs_neg,Int.natAbs_natCast];rfl
 · rw [if_neg (by simpa using h)];obtain ⟨n,rfl⟩:∃n:Nat,a=(n:Int):=⟨a.natAbs,by omega⟩;rw [Int.natAbs_natCast];rfl
theorem over_ok(a:Int)(b:Int)(hb:0<b)(h1:(limbs a.natAbs).length<=256)(h2:(limbs b.natAbs).length<=256):Ok prog 200 [whC a,whC b] (whC (a.tdiv b)):=by
 have ha:=len0 (z:=a);obtain ⟨m,rfl⟩:∃m:Nat,b=(m:Int):=⟨b.toNat,by omega⟩;rw [Int.natAbs_natCast] at h2;have hdm:=DivMod_ok a.natAbs m (by omega) h1 h2;have hl:=limbs_len_pos (n:=a.natAbs/m)
 have gen:∀q:Nat,q=a.natAbs/m ->whC (a.tdiv m)= .agg [boolC (decide (a<0)&&decide (((limbs q).length:Int)>0)),natC q]:=fun q hq=>by
  subst hq
  refine whC_eq (b:=decide (a<0)&&decide (((limbs (a.natAbs/m)).length:Int)>0)) (n:=a.natAbs/m) ?_ (fun h=> ?_)
  · rw [tdiv_sg];by_cases h0:a.natAbs/m=0
    · rw [h0,limbs_zero];unfold sg;simp
    · have:decide (((limbs (a.natAbs/m)).length:Int)>0)=true:=by rw [decide_eq_true_eq];omega
      rw [this,Bool.and_true]
  · simp only [Bool.and_eq_true,decide_eq_true_eq] at h;omega
 refine Ok.enter func200 J _ ntmps200 J ?_
 intro S w;rw [show whC (m:Int)= .agg [boolC false,natC m] from whC_eq (b:=false) (n:=m) (by unfold sg;rfl) (by intro h;cases h)];refine Qj 12 J (QV sNat.und J (Qq 2 J (QQ 12 J (fun h=> ?_) (fun h=> ?_))))
 · have h0:a=0:=ha.1 h;subst h0;refine Qq 22 J ?_;refine Qw J (by rw [Int.zero_tdiv];rfl)
 · refine Qq 2 J (QV sNat.und J (Qq 2 J (QQ 17 J (fun h3=> ?_) (fun h3=> ?_))))
   · have hm:m<1073741824:=by
      have:=Xu (n:=m) (k:=1) (by omega)
      simpa using this
     have e0:(limbs m).getD (0:Int).toNat 0=m:=by rw [limbs_one (by omega) hm];rfl
     refine Qq 2 J (Q8 0 sNat J (by omega) ?_);refine Qq 6 J ?_;rw [e0];refine Qy J (fun h4=> ?_) (fun h4=> ?_)
     · have h5:m=1:=by omega
       subst h5;refine Qj 7 J ?_;refine Qw J (by rw [show ((1:Nat):Int)=1 from rfl,Int.tdiv_one];rfl)
     · rw [gen _ J];generalize a.natAbs/m=q at*;generalize a.natAbs%m=rr at*;refine Qj 8 J (Qv (gT J) hdm J (Qq 14 J (Xk 37 J (fun h=> ?_) (fun h=> ?_))))
       · refine Qq 1 J (QV sNat.und J (Qq 8 J ?_));refine Qw J (by rw [h];rfl)
       · refine Qq 10 J ?_;refine Qw J (by rw [h];rfl)
   · have gq:=gen _ J;generalize a.natAbs/m=q at*;generalize a.natAbs%m=rr at*;refine Qq 18 J (Qv (gT J) hdm J (Qq 14 J (Xk 37 J (fun h=> ?_) (fun h=> ?_))))
     · refine Qq 1 J (QV sNat.und J (Qq 8 J ?_));refine Qw J (by rw [gq,h];rfl)
     · refine Qq 10 J ?_;refine Qw J (by rw [gq,h];rfl)
def intV (n : Nat) : Int := if n ≤ 4611686018427387904 then n else 0
def intE (n : Nat) : Int := if n ≤ 4611686018427387904 then 0 else 1
theorem Int_any(n:Nat)(hl:(limbs n).length<=200):Ok prog 158 [natC n] (.tup [intC (intV n),intC (intE n)]):=by
 by_cases hn:n<=4611686018427387904
 · have:=Int_ok n hn;unfold intV intE;rw [if_pos hn,if_pos hn];exact this
 have hv0:intV n=0:=if_neg hn;have he0:intE n=1:=if_neg hn
 refine Ok.enter func158 J _ ntmps158 J ?_
 intro S w;refine Qj 15 J (QV sNat.und J (QZ 5 J (by omega) ?_))
 refine QY (α:=Nat × Int) (fun s=>s.1<=(limbs n).length/\ 0<=s.2/\ s.2<=4611686018427387904/\ s.2*BB ^ s.1+pre (limbs n) s.1=n)
  (fun s=>[(0, .ct (natC n)),(4, .ct (intC s.2)),(5, .ct (intC ((s.1:Int) - 1)))]) (fun _=>[]) (fun s=>s.1) ((limbs n).length,0) ⟨Nat.le_refl _,Int.le_refl _,by dsimp only;decide,by dsimp only;rw [Y9];simp⟩ (by exact Qx J) ?_
 rintro ⟨q,v⟩ ⟨hq,hv,hvm,hvq⟩
 dsimp only at hq hv hvm hvq ⊢;refine Qj 7 J ?_;refine Qy J (fun h=> ?_) (fun h=> ?_)
 · obtain ⟨i,rfl⟩:∃i,q=i+1:=⟨q - 1,by omega⟩
   have e1:(((i+1:Nat):Int) - 1)=(i:Int):=by omega
   have e2:(i:Int).toNat=i:=Int.toNat_natCast i;have bx:=(Qr n).get i;simp only [BB] at bx;rw [XQ,Int.pow_succ] at hvq;rw [e1];refine Qj 10 J (Q8 0 sNat J (by omega) ?_);refine Qq 1 J ?_
   rw [e2]
   refine QZ 1 J (by omega) ?_;refine Qh ishr30 J J J J (Qq 3 J ?_);refine Qy J (fun h2=> ?_) (fun h2=> ?_)
   · refine Qj 7 J ?_;refine Qw J (by rw [hv0,he0];rfl)
   have key:v*1073741824+(limbs n).getD i 0<=4611686018427387904:=by omega
   clear h2;refine Qj 4 J (Qh (ishl30 (by omega) (by omega)) J J J J ?_);refine Qq 2 J (Q8 0 sNat J (by omega) ?_);refine Qq 1 J ?_
   rw [e2]
   refine Qh (ior30 (by omega) (by omega) (by omega) (by omega)) J J J J ?_;refine QZ 9 J (by omega) ?_;refine Qk (i,v*1073741824+(limbs n).getD i 0) (by dsimp only;omega) ⟨by dsimp only;omega,by dsimp only;omega,by dsimp only;omega,?_⟩ (by exact Qx J);dsimp only;rw [<- hvq];simp only [BB];grind
 · have hq0:q=0:=by omega
   subst hq0
   have e:v=n:=by rw [ZQ] at hvq;simpa using hvq
   exact absurd hvm (by omega)
theorem round_any(f:Fr)(up:Bool)(h1:(limbs f.num).length<=100)(h2:0<f.den)(h3:(limbs f.den).length<=100):Ok prog 157 [fracC f,boolC up] (.tup [natC (rnd f.num f.den up),intC 0]):=by
 have hl:(limbs (f.num/f.den)).length<=100:=Nat.le_trans (Qm (Nat.div_le_self ..)) h1
 refine Ok.enter func157 J _ ntmps157 J ?_
 intro S w;refine Qj 13 J (Qv (gT J) (DivMod_ok f.num f.den h2 (by omega) (by omega)) J ?_);refine Qq 18 J (Xk 23 J (fun hu=> ?_) (fun hu=> ?_))
 · refine Qq 1 J (QV sNat.und J (Qq 4 J ?_));refine Qy J (fun h=> ?_) (fun h=> ?_)
   · have hr:f.num%f.den≠0:=limbs_len_pos.mp (by omega);refine Qj 2 J (Qo J J sNat J J J (Qv (gT J) (Add_list (limbs (f.num/f.den)) [1] (by omega) (by simp) (Qr _) (OKL.cons (by decide) OKL.nil)) J ?_));rw [X1,show val [1]=1 by decide,show (((f.num/f.den:Nat):Int)+1).toNat=f.num/f.den+1 by generalize f.num/f.den=z;omega];refine Qq 16 J ?_;refine Qw J (by unfold rnd;rw [if_pos ⟨hu,hr⟩];rfl)
   · have hr:¬(f.num%f.den≠0):=fun h' =>h (by have:=limbs_len_pos.mpr h';omega)
     refine Qj 11 J ?_;refine Qw J (by unfold rnd;rw [if_neg (fun h' =>hr h'.2)];rfl)
 · refine Qq 18 J ?_;refine Qw J (by unfold rnd;rw [if_neg (fun h' =>by rw [hu] at h';cases h'.1)];rfl)
theorem rnd_len{f:Fr}(up:Bool)(h1:(limbs f.num).length<=100):(limbs (rnd f.num f.den up)).length<=101:=by
 have hl:rnd f.num f.den up<=f.num+1:=by
  have:=Nat.div_le_self f.num f.den
  unfold rnd;split <;>omega
 have h2:f.num<1073741824 ^ 100:=Xu h1
 have h3:1073741824 ^ 100+1<=1073741824 ^ 101:=by decide
 exact Q6 (by omega)
def flV (f : Fr) : Int := if rnd f.num f.den f.neg ≤ 4611686018427387904 then sg f.neg (rnd f.num f.den f.neg) else 0
def flE (f : Fr) : Int := intE (rnd f.num f.den f.neg)
theorem FFloor_any(f:Fr)(h1:(limbs f.num).length<=100)(h2:0<f.den)(h3:(limbs f.den).length<=100):Ok prog 48 [fracC f] (.tup [intC (flV f),intC (flE f)]):=by
 have hI:=Int_any (rnd f.num f.den f.neg) (by have:=rnd_len (f:=f) f.neg h1;omega);have hR:=round_any f f.neg h1 h2 h3
 have hv:flV f=if rnd f.num f.den f.neg<=4611686018427387904 then sg f.neg (rnd f.num f.den f.neg) else 0:=rfl
 have he:flE f=intE (rnd f.num f.den f.neg):=rfl
 have hW:Ok prog 97 [fracC f,boolC false] (.tup [intC (flV f),intC (flE f)]):=by
  generalize rnd f.num f.den f.neg=r at*;unfold intV intE at hI
  refine Ok.enter func97 J _ ntmps97 J ?_
  intro S w;refine Qj 13 J (Ops.bne J J J uBool J ?_);rw [dne,Bool.false_bne];refine Qv (gT J) hR J (Qq 20 J ?_);by_cases hr:r<=4611686018427387904
  · rw [if_pos hr,if_pos hr] at hI;rw [if_pos hr] at hv;refine Qv goInt hI J (Qq 24 J ?_);refine Xx J (fun hn=> ?_) (fun hn=> ?_)
    · refine Xz 14 J (by omega) ?_;refine Qw J (by rw [hv,he];unfold intE sg;rw [hn,if_pos hr];rfl)
    · refine Qj 10 J ?_;refine Qw J (by rw [hv,he];unfold intE sg;rw [hn,if_pos hr];rfl)
  · rw [if_neg hr,if_neg hr] at hI;rw [if_neg hr] at hv;refine Qv goInt hI J (Qq 22 J ?_);refine Qw J (by rw [hv,he];unfold intE;rw [if_neg hr];rfl)
 refine Ok.enter func48 J _ ntmps48 J ?_
 intro S w;refine Qj 10 J (Qv (gT J) hW J (Qq 7 J ?_));refine Qw J J
theorem Zj(q:Rat):0<(ofQ q).den:=q.den_pos
def cmpQ (p q : Rat) : Int := (p.num * q.den - q.num * p.den).sign
attribute [local irreducible] OkM
def psum (c : List Int) (xs : List Fr) : Nat → Rat
  | 0 => 0
  | k + 1 => psum c xs k + (c.getD k 0 : Rat) * qv (xs.getD k fr0)
def vsum (c : List Int) (xs : List Fr) : Rat := psum c xs (min c.length xs.length)
theorem divInt_one(n:Int):Rat.divInt n 1=(n:Rat):=Rat.num_divInt_den (n:Rat)
theorem ofQ_int_den(n:Int):(ofQ (n:Rat)).den=1:=rfl
theorem From_int(n:Int)(h1: -9223372036854775808<=n)(h2:n<=9223372036854775807):Ok prog 167 [intC n,intC 1] (.tup [ratC (n:Rat),intC 0]):=by
 have:=FFrom_ok n 1 h1 h2 (by decide) (by decide) (by decide);rw [divInt_one] at this;exact this
theorem sg_sign(n:Bool)(a:Nat):(sg n a).sign=if a=0 then 0 else if n then -1 else 1:=by
 unfold sg;by_cases h:a=0
 · rw [if_pos h,h];cases n <;>rfl
 · rw [if_neg h]
   cases n with
   |true=>rw [if_pos J,if_pos J];exact Int.sign_eq_neg_one_of_neg (by omega)
   |false=>rw [if_neg (by decide),if_neg (by decide)];exact Int.sign_eq_one_of_pos (by omega)
theorem sg_not(n:Bool)(a:Nat):sg (!n) a= -sg n a:=by cases n <;>simp [sg]
theorem FCompare_q(p q:Rat)(h1:(limbs (ofQ p).num).length<=90)(h2:(limbs (ofQ p).den).length<=90)(h3:(limbs (ofQ q).num).length<=90)(h4:(limbs (ofQ q).den).length<=90):Ok prog 168 [ratC p,ratC q] (.tup [intC (cmpQ p q),intC 0]):=by
 have h:=FCompare_gen (ofQ p) (ofQ q) h1 h2 h3 h4
 have e:cmpQ p q=if sumN (ofQ p).neg ((ofQ p).num*(ofQ q).den) (!(ofQ q).neg) ((ofQ q).num*(ofQ p).den)=0 then 0 else if sumS (ofQ p).neg ((ofQ p).num*(ofQ q).den) (!(ofQ q).neg) ((ofQ q).num*(ofQ p).den) then -1 else 1:=by
  have e1:=sum_sg (ofQ p).neg ((ofQ p).num*(ofQ q).den) (!(ofQ q).neg) ((ofQ q).num*(ofQ p).den);rw [<- sg_sign,e1,sg_not,sg_mul,sg_mul,ofQ_sg,ofQ_sg];unfold cmpQ
  congr 1
 rw [e];exact h
structure VF (f : Fr) : Prop where
  num : (limbs f.num).length ≤ 64
  den : (limbs f.den).length ≤ 64
  pos : 0 < f.den
  neg : f.neg = true → f.num ≠ 0
theorem VF.list{f:Fr}(h:VF f):fvalidL f.neg (limbs f.num) (limbs f.den)=true:=by
 unfold fvalidL;have h3:=limbs_len_pos (n:=f.den);have h4:=limbs_len_pos (n:=f.num);have h1:=h.num;have h2:=h.den;have hp:=h.pos;rw [validL_limbs (by omega),validL_limbs (by omega),decide_eq_true h1,decide_eq_true h2,decide_eq_true (h3.2 (by omega))]
 cases hn:f.neg with
 |false=>rfl
 |true=>rw [decide_eq_false (fun h5=>by have:=h4.2 (h.neg hn);omega)];rfl
theorem FValid_V(f:Fr)(h:VF f):Ok prog 109 [fracC f] (boolC true):=by
 have:=FValid_list f.neg (limbs f.num) (limbs f.den) (by have:=h.num;omega) (by have:=h.den;omega);rw [h.list] at this;exact this
theorem VF.q(q:Rat)(h1:(limbs (ofQ q).num).length<=64)(h2:(limbs (ofQ q).den).length<=64):VF (ofQ q):=⟨h1,h2,Zj q,fun h=>by
 have:q.num<0:=of_decide_eq_true h
 show q.num.natAbs≠0
 omega⟩
theorem int_lens{b:Int}(hb:b.natAbs<=4503599627370496):(limbs (ofQ (b:Rat)).num).length<=2/\ (limbs (ofQ (b:Rat)).den).length<=1:=
 ⟨Q6 (Nat.lt_of_le_of_lt hb (by decide)),by rw [ofQ_int_den];exact Q6 (by decide)⟩
attribute [local irreducible] OkB OkL OkN OkT
theorem IndexFunc_res(xs:List Rs)(f:FuncId)(p:Rs ->Bool)(hgo:InGo prog f)(hf:∀x∈xs,Ok prog f [rsC x] (boolC (p x)))(hl:xs.length<4611686018427387904):Ok prog 76 [rssC xs,(.ex (.func (.func f) #[] #[]))] (intC (idxI p xs)):=by
 refine Ok.enter func76 J _ ntmps76 J ?_
 intro S w;refine Qj 9 J (QV sRes.und J (Qq 4 J ?_))
 refine QY (α:=Nat) (fun i=>i<=xs.length/\ ∀j,j<i ->p (xs.getD j rs0)=false)
  (fun i=>[(0, .ct (rssC xs)),(1, .ct (.ex (.func (.func f) #[] #[]))),(7, .ct (intC xs.length)),(8, .ct (intC i))]) (fun _=>[]) (fun i=>xs.length - i) 0 ⟨Nat.zero_le _,fun j h=>absurd h (Nat.not_lt_zero j)⟩ (by exact Qx J) ?_
 intro i ⟨hi,hv⟩;dsimp only;refine Qj 6 J ?_;refine Qy J (fun h=> ?_) (fun h=> ?_)
 · have e2:(i:Int).toNat=i:=Int.toNat_natCast i;refine Qj 15 J (Q8 rs0 sRes J (by omega) ?_);refine Qq 1 J ?_
   try rw [e2]
   refine Ye hgo J (hf _ (XX (by omega))) J J J J ?_;refine Qq 2 J ?_;refine Xx J (fun h2=> ?_) (fun h2=> ?_)
   · refine Qj 7 J ?_;refine Qw J (by rw [idxI_hit (by omega) h2 hv];rfl)
   · refine Xz 7 J (by omega) ?_;refine Qk (i+1) (by omega) ⟨by omega,?_⟩ (by exact Qx J);intro j hj;rcases Nat.lt_or_ge j i with h3|h3
     · exact hv j h3
     · have:j=i:=by omega
       rw [this];exact h2
 · have hi' :i=xs.length:=by omega
   refine Qj 8 J ?_;refine Qw J (by rw [idxI_miss (fun j hj=>hv j (by omega))];rfl)
theorem ContainsFunc_res(xs:List Rs)(f:FuncId)(p:Rs ->Bool)(hgo:InGo prog f)(hf:∀x∈xs,Ok prog f [rsC x] (boolC (p x)))(hl:xs.length<4611686018427387904):Ok prog 36 [rssC xs,(.ex (.func (.func f) #[] #[]))] (boolC (xs.any p)):=by
 refine Ok.enter func36 J _ ntmps36 J ?_
 intro S w;refine Qj 9 J (Qv (gT J) (IndexFunc_res xs f p hgo hf hl) J (Qq 5 J ?_));refine Qw J (by rw [<- idxI_any];rfl)
end Go.Proofs.YtfimckpnnbibcaaGreat
namespace Go.Det
abbrev Vec := Nat → Int
def exps (f : List Vec → Int) (r : Nat) : List Vec → List Vec → Int
  | _, [] => 0
  | p, c :: q => c r * f (p ++ q) - exps f r (p ++ [c]) q
def det : Nat → Nat → List Vec → Int
  | 0, _, _ => 1
  | k + 1, r, cs => exps (det k (r + 1)) r [] cs
def lin (x : Int) (u : Vec) (y : Int) (w : Vec) : Vec := fun i => x * u i + y * w i
def Lin (f : List Vec → Int) : Prop := ∀ (A C : List Vec) (x y : Int) (u w : Vec), f (A ++ lin x u y w :: C) = x * f (A ++ u :: C) + y * f (A ++ w :: C)
theorem det_lin' :∀(k r:Nat) (A C:List Vec) (x y:Int) (u w:Vec),A.length+1+C.length=k ->
  det k r (A++lin x u y w::C)=x*det k r (A++u::C)+y*det k r (A++w::C):=by
 intro k
 induction k with
 |zero=>intro r A C x y u w h;omega
 |succ k ih=>
  intro r A C x y u w h
  have key:∀(q P Q:List Vec),P.length+1+Q.length+q.length=k+1 ->
    exps (det k (r+1)) r (P++lin x u y w::Q) q=x*exps (det k (r+1)) r (P++u::Q) q+y*exps (det k (r+1)) r (P++w::Q) q:=by
   intro q
   induction q with
   |nil=>intro P Q _;simp [exps]
   |cons c q ih2=>
    intro P Q hl;have i2:=ih2 P (Q++ [c]) (by simp at hl ⊢;omega);have i1:=ih (r+1) P (Q++q) x y u w (by simp at hl ⊢;omega);simp only [exps,List.append_assoc,List.cons_append] at*;rw [i2,i1];grind
  have key2:∀(A C P:List Vec),P.length+A.length+1+C.length=k+1 ->
    exps (det k (r+1)) r P (A++lin x u y w::C)=x*exps (det k (r+1)) r P (A++u::C)+y*exps (det k (r+1)) r P (A++w::C):=by
   intro A
   induction A with
   |nil=>
    intro C P hl;have i2:=key C P [] (by simp at hl ⊢;omega);simp only [exps,List.nil_append] at*;rw [i2];simp only [lin];grind
   |cons a A ih2=>
    intro C P hl;have i2:=ih2 C (P++ [a]) (by simp at hl ⊢;omega);have i1:=ih (r+1) (P++A) C x y u w (by simp at hl ⊢;omega);simp only [exps,List.append_assoc,List.cons_append] at*;rw [i2,i1];grind
  exact key2 A C [] (by simp;omega)
theorem det_adj:∀(k r:Nat) (A C:List Vec) (u:Vec),A.length+2+C.length=k ->det k r (A++u::u::C)=0:=by
 intro k
 induction k with
 |zero=>intro r A C u h;omega
 |succ k ih=>
  intro r A C u h
  have key:∀(q P Q:List Vec),P.length+2+Q.length+q.length=k+1 ->exps (det k (r+1)) r (P++u::u::Q) q=0:=by
   intro q
   induction q with
   |nil=>intro P Q _;rfl
   |cons c q ih2=>
    intro P Q hl;have i2:=ih2 P (Q++ [c]) (by simp at hl ⊢;omega);have i1:=ih (r+1) P (Q++q) u (by simp at hl ⊢;omega);simp only [exps,List.append_assoc,List.cons_append] at*;rw [i2,i1];grind
  have key2:∀(A C P:List Vec),P.length+A.length+2+C.length=k+1 ->exps (det k (r+1)) r P (A++u::u::C)=0:=by
   intro A
   induction A with
   |nil=>
    intro C P hl;have i2:=key C P [] (by simp at hl ⊢;omega);simp only [exps,List.nil_append,List.append_assoc,List.cons_append] at*;rw [i2];grind
   |cons a A ih2=>
    intro C P hl;have i2:=ih2 C (P++ [a]) (by simp at hl ⊢;omega);have i1:=ih (r+1) (P++A) C u (by simp at hl ⊢;omega);simp only [exps,List.append_assoc,List.cons_append] at*;rw [i2,i1];grind
  exact key2 A C [] (by simp;omega)
def dt (cs : List Vec) : Int := det cs.length 0 cs
theorem dt_lin(A C:List Vec)(x y:Int)(u w:Vec):dt (A++lin x u y w::C)=x*dt (A++u::C)+y*dt (A++w::C):=by
 unfold dt
 have e:∀z:Vec,(A++z::C).length=A.length+1+C.length:=fun z=>by simp;omega
 rw [e,e,e];exact det_lin' _ _ A C x y u w J
theorem dt_adj(A C:List Vec)(u:Vec):dt (A++u::u::C)=0:=by
 unfold dt;exact det_adj _ _ A C u (by simp;omega)
theorem dt_swap1(A C:List Vec)(u w:Vec):dt (A++u::w::C)= - dt (A++w::u::C):=by
 have h:=dt_adj A C (lin 1 u 1 w);rw [dt_lin A] at h;have h1:=dt_lin (A++ [u]) C 1 1 u w;have h2:=dt_lin (A++ [w]) C 1 1 u w;simp only [List.append_assoc,List.cons_append,List.nil_append] at h1 h2;rw [h1,h2,dt_adj,dt_adj] at h;omega
theorem dt_eq(u:Vec):∀(M A C:List Vec),dt (A++u::(M++u::C))=0
 | [],A,C=>dt_adj A C u
 |m::M,A,C=>by
  rw [List.cons_append,dt_swap1]
  have:=dt_eq u M (A++ [m]) C
  simp only [List.append_assoc,List.cons_append,List.nil_append] at this
  rw [this];rfl
theorem dt_swap(A M C:List Vec)(u w:Vec):dt (A++u::(M++w::C))= - dt (A++w::(M++u::C)):=by
 have h:=dt_eq (lin 1 u 1 w) M A C;rw [dt_lin A] at h;have h1:=dt_lin (A++u::M) C 1 1 u w;have h2:=dt_lin (A++w::M) C 1 1 u w;simp only [List.append_assoc,List.cons_append,List.nil_append] at h1 h2;rw [h1,h2,dt_eq,dt_eq] at h;omega
def unit (i : Nat) : Vec := fun j => if j = i then 1 else 0
theorem exps_zero(f:List Vec ->Int)(r:Nat):∀(q P:List Vec),(∀c∈q,c r=0) ->exps f r P q=0
 | [],_,_=>rfl
 |c::q,P,h=>by
  simp only [exps]
  rw [h c (List.mem_cons_self ..),exps_zero f r q _ (fun c hc=>h c (List.mem_cons_of_mem _ hc))];simp
theorem det_unit:∀(k r:Nat),det k r ((List.range' r k).map unit)=1
 |0,_=>rfl
 |k+1,r=>by
  rw [List.range'_succ,List.map_cons,det,exps,exps_zero]
  · rw [List.nil_append,det_unit k (r+1)];simp [unit]
  · intro c hc
    obtain ⟨i,hi,rfl⟩:=List.mem_map.1 hc
    rw [List.mem_range'_1] at hi
    simp only [unit];rw [if_neg (by omega)]
theorem dt_unit(k:Nat):dt ((List.range k).map unit)=1:=by
 unfold dt;rw [List.length_map,List.length_range,List.range_eq_range'];exact det_unit k 0
def fact : Nat → Nat
  | 0 => 1
  | n + 1 => (n + 1) * fact n
theorem exps_bd{f:List Vec ->Int}{r:Nat}{M F:Nat}:∀(q P:List Vec),(∀c∈q,(c r).natAbs<=M) ->(∀A B c,q=A++c::B ->(f (P++A++B)).natAbs<=F) ->(exps f r P q).natAbs<=q.length*(M*F)
 | [],_,_,_=>by simp [exps]
 |c::q,P,h,hf=>by
  have i:=exps_bd (f:=f) (r:=r) (M:=M) (F:=F) q (P++ [c]) (fun c hc=>h c (List.mem_cons_of_mem _ hc)) (fun A B d e=>by
   have:=hf (c::A) B d (by rw [e];rfl)
   simpa using this)
  have h1:=h c (List.mem_cons_self ..)
  have h2:=hf [] q c rfl
  simp only [List.append_nil] at h2
  have h3:(c r*f (P++q)).natAbs<=M*F:=by rw [Int.natAbs_mul];exact Nat.mul_le_mul h1 h2
  simp only [exps,List.length_cons,Nat.add_mul,Nat.one_mul]
  omega
theorem det_bd{M:Nat}:∀(k r:Nat) (cs:List Vec),cs.length=k ->(∀c∈cs,∀i,(c i).natAbs<=M) ->(det k r cs).natAbs<=fact k*M ^ k
 |0,_,_,_,_=>by simp [det,fact]
 |k+1,r,cs,hl,h=>by
  have:=exps_bd (f:=det k (r+1)) (r:=r) (M:=M) (F:=fact k*M ^ k) cs [] (fun c hc=>h c hc r) (fun A B c e=>by
   refine det_bd k (r+1) _ (by subst e;simp at hl ⊢;omega) (fun d hd i=>h d ?_ i)
   subst e
   simp only [List.nil_append,List.mem_append,List.mem_cons] at hd ⊢
   rcases hd with hd|hd
   · exact .inl hd
   · exact .inr (.inr hd))
  rw [hl] at this
  simp only [det,fact,Nat.pow_succ]
  refine Nat.le_trans this (Nat.le_of_eq ?_)
  grind
theorem dt_bd{M:Nat}(cs:List Vec)(h:∀c∈cs,∀i,(c i).natAbs<=M):(dt cs).natAbs<=fact cs.length*M ^ cs.length:=det_bd _ _ cs rfl h
section
def sm (f : Nat → Int) : Nat → Int
  | 0 => 0
  | k + 1 => sm f k + f k
theorem Xl{f g:Nat ->Int}:∀{n:Nat},(∀k,k<n ->f k=g k) ->sm f n=sm g n
 |0,_=>rfl
 |n+1,h=>by simp only [sm];rw [Xl fun k hk=>h k (by omega),h n (by omega)]
theorem Z4{f:Nat ->Int}:∀{n:Nat},(∀k,k<n ->f k=0) ->sm f n=0
 |0,_=>rfl
 |n+1,h=>by simp only [sm];rw [Z4 fun k hk=>h k (by omega),h n (by omega)];rfl
theorem Y3(c:Int)(f:Nat ->Int):∀n:Nat,sm (fun k=>c*f k) n=c*sm f n
 |0=>by simp [sm]
 |n+1=>by simp only [sm];rw [Y3 c f n,Int.mul_add]
theorem sm_add(f g:Nat ->Int):∀n:Nat,sm (fun k=>f k+g k) n=sm f n+sm g n
 |0=>rfl
 |n+1=>by simp only [sm];rw [sm_add f g n];omega
theorem Yl{f:Nat ->Int}{i:Nat}:∀{n:Nat},i<n ->(∀k,k<n ->k≠i ->f k=0) ->sm f n=f i
 |0,h,_=>by omega
 |n+1,h,hz=>by
  simp only [sm]
  by_cases e:i=n
  · subst e;rw [Z4 fun k hk=>hz k (by omega) (by omega)];omega
  · rw [Yl (by omega:i<n) fun k hk hki=>hz k (by omega) hki,hz n (by omega) (Ne.symm e)];omega
theorem sm_two{f:Nat ->Int}{i r:Nat}:∀{n:Nat},i<n ->r<n ->i≠r ->(∀k,k<n ->k≠i ->k≠r ->f k=0) ->sm f n=f i+f r
 |0,h,_,_,_=>by omega
 |n+1,h,h2,hn,hz=>by
  simp only [sm]
  by_cases e:i=n
  · subst e;rw [Yl (by omega:r<i) fun k hk hki=>hz k (by omega) (by omega) hki];omega
  · by_cases e2:r=n
    · subst e2;rw [Yl (by omega:i<r) fun k hk hki=>hz k (by omega) hki (by omega)]
    · rw [sm_two (by omega:i<n) (by omega:r<n) hn fun k hk h3 h4=>hz k (by omega) h3 h4,hz n (by omega) (Ne.symm e) (Ne.symm e2)];omega
theorem sm_pos{f:Nat ->Int}:∀{n:Nat},0<sm f n ->∃k,k<n/\ 0<f k
 |0,h=>by simp [sm] at h
 |n+1,h=>by
  simp only [sm] at h
  by_cases h1:0<f n
  · exact ⟨n,by omega,h1⟩
  · obtain ⟨k,hk,h2⟩:=sm_pos (f:=f) (n:=n) (by omega)
    exact ⟨k,by omega,h2⟩
theorem sm_le{f g:Nat ->Int}:∀{n:Nat},(∀k,k<n ->f k<=g k) ->sm f n<=sm g n
 |0,_=>Int.le_refl _
 |n+1,h=>by simp only [sm];have:=sm_le (n:=n) fun k hk=>h k (by omega);have:=h n (by omega);omega
theorem sm_swap(a:Nat ->Nat ->Int)(m:Nat):∀n:Nat,sm (fun j=>sm (fun i=>a i j) m) n=sm (fun i=>sm (fun j=>a i j) n) m
 |0=>by simp only [sm];rw [Z4];intros;rfl
 |n+1=>by simp only [sm];rw [sm_swap a m n,sm_add]
theorem set_split{α:Type}{l:List α}{i:Nat}(h:i<l.length)(x:α):l.set i x=l.take i++x::l.drop (i+1):=List.set_eq_take_append_cons_drop .. |>.trans (by rw [if_pos h])
theorem dt_set_lin{l:List Vec}{i:Nat}(h:i<l.length)(x y:Int)(u w:Vec):dt (l.set i (lin x u y w))=x*dt (l.set i u)+y*dt (l.set i w):=by
 rw [set_split h,set_split h,set_split h,dt_lin]
theorem two_split{α:Type}{l:List α}{i r:Nat}(h:i<r)(hr:r<l.length)(x y:α):∃P M C:List α,(l.set i x).set r y=P++x::(M++y::C)/\ ∀x' y' :α,(l.set i x').set r y' =P++x' ::(M++y' ::C):=by
 have key:∀x' y' :α,(l.set i x').set r y' =l.take i++x' ::((l.drop (i+1)).take (r - (i+1))++y' ::l.drop (r+1)):=fun x' y' =>by
  rw [set_split (by omega) x',List.set_append_right _ _ (by rw [List.length_take];omega)]
  congr 1
  have e:r - (List.take i l).length=(r - (i+1))+1:=by rw [List.length_take];omega
  rw [e,List.set_cons_succ,set_split (by rw [List.length_drop];omega)]
  congr 3
  rw [List.drop_drop];congr 1;omega
 exact ⟨_,_,_,key x y,key⟩
theorem dt_set_eq{l:List Vec}{i r:Nat}(hi:i<l.length)(hr:r<l.length)(h:i≠r)(u:Vec):dt ((l.set i u).set r u)=0:=by
 rcases Nat.lt_or_gt_of_ne h with h1|h1
 · obtain ⟨P,M,C,e,_⟩:=two_split h1 hr u u;rw [e];exact dt_eq u M P C
 · rw [List.set_comm _ _ h];obtain ⟨P,M,C,e,_⟩:=two_split h1 hi u u;rw [e];exact dt_eq u M P C
theorem dt_set_swap{l:List Vec}{i r:Nat}(hi:i<l.length)(hr:r<l.length)(h:i≠r)(u w:Vec):dt ((l.set i u).set r w)= - dt ((l.set i w).set r u):=by
 rcases Nat.lt_or_gt_of_ne h with h1|h1
 · obtain ⟨P,M,C,_,e⟩:=two_split h1 hr u w;rw [e,e];exact dt_swap P M C u w
 · rw [List.set_comm _ _ h,List.set_comm _ _ h];obtain ⟨P,M,C,_,e⟩:=two_split h1 hi u w;rw [e,e];exact dt_swap P M C w u
def zv : Vec := fun _ => 0
def comb (c : Nat → Int) (u : Nat → Vec) (n : Nat) : Vec := fun i => sm (fun k => c k * u k i) n
theorem dt_set_zero{l:List Vec}{i:Nat}(h:i<l.length):dt (l.set i zv)=0:=by
 have:=dt_set_lin h 0 0 zv zv;rw [show lin 0 zv 0 zv=zv from funext fun j=>by simp [lin,zv]] at this
 simpa using this
theorem Y7{l:List Vec}{i:Nat}(h:i<l.length)(c:Nat ->Int)(u:Nat ->Vec):∀n,dt (l.set i (comb c u n))=sm (fun k=>c k*dt (l.set i (u k))) n
 |0=>by
  rw [show comb c u 0=zv by funext j;rfl,dt_set_zero h];rfl
 |n+1=>by
  have e:comb c u (n+1)=lin 1 (comb c u n) (c n) (u n):=by funext j;simp [comb,lin,sm]
  rw [e,dt_set_lin h,Y7 h c u n];simp [sm]
theorem dt_set_smul{l:List Vec}{i:Nat}(h:i<l.length)(x:Int)(u:Vec):dt (l.set i (fun j=>x*u j))=x*dt (l.set i u):=by
 have:=dt_set_lin h x 0 u zv;rw [show lin x u 0 zv=fun j=>x*u j from funext fun j=>by simp [lin]] at this;rw [this];simp
section
variable (A : Nat → Vec)
def cols (bs : List Nat) : List Vec := bs.map A
def dD (bs : List Nat) : Int := dt (cols A bs)
def dT (bs : List Nat) (i : Nat) (x : Vec) : Int := dt ((cols A bs).set i x)
end
variable {A : Nat → Vec} {M : Nat} {bs : List Nat}
theorem Z6:(cols A bs).length=bs.length:=by simp [cols]
theorem cols_set(r s:Nat):cols A (bs.set r s)=(cols A bs).set r (A s):=by simp [cols,List.map_set]
theorem cols_at{k:Nat}(h:k<bs.length):(cols A bs)[k]? =some (A (bs.getD k 0)):=by simp [cols,List.getD_eq_getElem?_getD,h]
theorem set_same{α:Type}{l:List α}{i:Nat}{x:α}(h:l[i]? =some x):l.set i x=l:=by
 obtain ⟨h1,h2⟩:=List.getElem?_eq_some_iff.1 h;rw [<- h2];exact List.set_getElem_self h1
theorem dT_own{i:Nat}(h:i<bs.length):dT A bs i (A (bs.getD i 0))=dD A bs:=by
 unfold dT dD;rw [set_same (cols_at h)]
theorem dT_other{i k:Nat}(hi:i<bs.length)(hk:k<bs.length)(h:k≠i):dT A bs i (A (bs.getD k 0))=0:=by
 unfold dT
 have e:(cols A bs).set i (A (bs.getD k 0))=((cols A bs).set k (A (bs.getD k 0))).set i (A (bs.getD k 0)):=by rw [set_same (cols_at hk)]
 rw [e];exact dt_set_eq (by rw [Z6];exact hk) (by rw [Z6];exact hi) h _
theorem Yr{i k:Nat}(hi:i<bs.length)(hk:k<bs.length)(h:k≠i)(he:bs.getD i 0=bs.getD k 0):dD A bs=0:=by
 rw [<- dT_own hi,he];exact dT_other hi hk h
structure Bas (A : Nat → Vec) (V : Vec → Prop) (M : Nat) (bs : List Nat) : Prop where
  len : bs.length = M
  ne : dD A bs ≠ 0
  cr : ∀ x, V x → ∀ j, dD A bs * x j = sm (fun k => dT A bs k x * A (bs.getD k 0) j) M
theorem Bas.vec{V:Vec ->Prop}(h:Bas A V M bs){x:Vec}(hx:V x):(fun j=>dD A bs*x j)=comb (fun k=>dT A bs k x) (fun k=>A (bs.getD k 0)) M:=funext fun j=>h.cr x hx j
theorem Bas.two{V:Vec ->Prop}(h:Bas A V M bs){l:List Vec}{i:Nat}(hi:i<l.length){x:Vec}(hx:V x):dD A bs*dt (l.set i x)=sm (fun k=>dT A bs k x*dt (l.set i (A (bs.getD k 0)))) M:=by
 rw [<- dt_set_smul hi,h.vec hx,Y7 hi]
theorem getD_set'{bs:List Nat}{r s i:Nat}(hr:r<bs.length):(bs.set r s).getD i 0=if r=i then s else bs.getD i 0:=by
 simp only [List.getD_eq_getElem?_getD,List.getElem?_set];by_cases hp:r=i
 · subst hp;simp [hr]
 · simp [hp]
theorem piv_D(r s:Nat):dD A (bs.set r s)=dT A bs r (A s):=by unfold dD dT;rw [cols_set]
theorem piv_r(r s:Nat)(x:Vec):dT A (bs.set r s) r x=dT A bs r x:=by unfold dT;rw [cols_set,List.set_set]
theorem Bas.piv_i{V:Vec ->Prop}(h:Bas A V M bs){r s i:Nat}(hr:r<M)(hi:i<M)(hir:i≠r){x:Vec}(hx:V x):
  dD A bs*dT A (bs.set r s) i x=dT A bs r (A s)*dT A bs i x - dT A bs r x*dT A bs i (A s):=by
 have hl:=h.len
 have hcl:(cols A bs).length=M:=by rw [Z6];exact hl
 have e:dT A (bs.set r s) i x=dt (((cols A bs).set r (A s)).set i x):=by unfold dT;rw [cols_set]
 rw [e,h.two (by rw [List.length_set];omega) hx];rw [sm_two hi hr hir]
 · have e1:dt (((cols A bs).set r (A s)).set i (A (bs.getD i 0)))=dT A bs r (A s):=by
    rw [List.set_comm _ _ (Ne.symm hir),set_same (cols_at (by omega))];rfl
   have e2:dt (((cols A bs).set r (A s)).set i (A (bs.getD r 0)))= - dT A bs i (A s):=by
    rw [dt_set_swap (by omega) (by omega) (Ne.symm hir),set_same (cols_at (by omega))];rfl
   rw [e1,e2];grind
 · intro k hk h1 h2
   have e1:((cols A bs).set r (A s)).set i (A (bs.getD k 0))=(((cols A bs).set r (A s)).set k (A (bs.getD k 0))).set i (A (bs.getD k 0)):=by
    rw [List.set_comm (i:=r) (j:=k) _ _ (Ne.symm h2),set_same (cols_at (by omega))]
   rw [e1,dt_set_eq (by rw [List.length_set];omega) (by rw [List.length_set];omega) h1,Int.mul_zero]
theorem piv_l{r s i:Nat}(hr:r<bs.length)(hi:i<bs.length)(hir:i≠r):dT A (bs.set r s) i (A (bs.getD r 0))= - dT A bs i (A s):=by
 unfold dT;rw [cols_set,dt_set_swap (by rw [Z6];omega) (by rw [Z6];omega) (Ne.symm hir),set_same (cols_at hr)]
theorem sm_split{f:Nat ->Int}{r:Nat}:∀{n:Nat},r<n ->sm f n=sm (fun k=>if k=r then 0 else f k) n+f r
 |0,h=>by omega
 |n+1,h=>by
  simp only [sm]
  by_cases e:r=n
  · subst e
    rw [if_pos rfl,Xl (f:=f) (g:=fun k=>if k=r then 0 else f k) fun k hk=>by rw [if_neg (by omega)]];omega
  · rw [if_neg (Ne.symm e),sm_split (by omega:r<n)];omega
theorem Bas.piv{V:Vec ->Prop}(h:Bas A V M bs){r s:Nat}(hr:r<M)(hs:V (A s))(hp:dT A bs r (A s)≠0):Bas A V M (bs.set r s):=by
 have hl:=h.len;refine ⟨by rw [List.length_set];exact hl,by rw [piv_D];exact hp,fun x hx j=> ?_⟩;have hne:=h.ne
 refine Int.eq_of_mul_eq_mul_left hne ?_
 rw [piv_D,<- Y3,sm_split hr]
 have e1:sm (fun k=>if k=r then 0 else dD A bs*(dT A (bs.set r s) k x*A ((bs.set r s).getD k 0) j)) M=sm (fun k=>if k=r then 0 else (dT A bs r (A s)*dT A bs k x - dT A bs r x*dT A bs k (A s))*A (bs.getD k 0) j) M:=Xl fun k hk=>by
  by_cases hkr:k=r
  · rw [if_pos hkr,if_pos hkr]
  · rw [if_neg hkr,if_neg hkr,getD_set' (by omega),if_neg (Ne.symm hkr),<- h.piv_i hr hk hkr hx];grind
 have e2:=sm_split (f:=fun k=>(dT A bs r (A s)*dT A bs k x - dT A bs r x*dT A bs k (A s))*A (bs.getD k 0) j) hr
 have e3:sm (fun k=>(dT A bs r (A s)*dT A bs k x - dT A bs r x*dT A bs k (A s))*A (bs.getD k 0) j) M=dT A bs r (A s)*(dD A bs*x j) - dT A bs r x*(dD A bs*A s j):=by
  rw [h.cr x hx j,h.cr (A s) hs j,<- Y3,<- Y3]
  have:∀f g:Nat ->Int,sm f M - sm g M=sm (fun k=>f k+(-1)*g k) M:=fun f g=>by rw [sm_add,Y3];omega
  rw [this]
  exact Xl fun k hk=>by grind
 rw [e3] at e2;rw [e1,getD_set' (by omega),if_pos J,piv_r]
 have e4:sm (fun k=>if k=r then 0 else (dT A bs r (A s)*dT A bs k x - dT A bs r x*dT A bs k (A s))*A (bs.getD k 0) j) M=dT A bs r (A s)*(dD A bs*x j) - dT A bs r x*(dD A bs*A s j):=by
  have:(dT A bs r (A s)*dT A bs r x - dT A bs r x*dT A bs r (A s))*A (bs.getD r 0) j=0:=by grind
  omega
 rw [e4];grind
theorem dT_unit{bs:List Nat}(hl:bs.length=M)(hu:∀i,i<M ->A (bs.getD i 0)=unit i){x:Vec}(hx:∀j,M<=j ->x j=0){i:Nat}(hi:i<M):dT A bs i x=x i:=by
 have hD:dD A bs=1:=by
  unfold dD;rw [<- dt_unit M]
  congr 1
  apply List.ext_getElem?
  intro k;by_cases hk:k<M
  · rw [cols_at (by omega),hu k hk];simp [hk]
  · rw [List.getElem?_eq_none (by rw [Z6];omega),List.getElem?_eq_none (by simp;omega)]
 have e:x=comb x unit M:=by
  funext j
  unfold comb;by_cases hj:j<M
  · rw [Yl hj fun k _ hk=>by simp [unit,Ne.symm hk]];simp [unit]
  · rw [hx j (by omega),Z4 fun k hk=>by rw [show unit k j=0 from if_neg (by omega),Int.mul_zero]]
 have e2:dT A bs i x=sm (fun k=>x k*dT A bs i (unit k)) M:=by
  conv=>lhs;rw [e]
  exact Y7 (by rw [Z6];omega) x unit M
 rw [e2,Yl hi fun k hk hki=>by rw [<- hu k hk,dT_other (by omega) (by omega) hki,Int.mul_zero],<- hu i hi,dT_own (by omega),hD,Int.mul_one]
theorem Bas.start{bs:List Nat}{V:Vec ->Prop}(hl:bs.length=M)(hu:∀i,i<M ->A (bs.getD i 0)=unit i)(hV:∀x,V x ->∀j,M<=j ->x j=0):Bas A V M bs/\ dD A bs=1:=by
 have hD:dD A bs=1:=by
  unfold dD;rw [<- dt_unit M]
  congr 1
  apply List.ext_getElem?
  intro k;by_cases hk:k<M
  · rw [cols_at (by omega),hu k hk];simp [hk]
  · rw [List.getElem?_eq_none (by rw [Z6];omega),List.getElem?_eq_none (by simp;omega)]
 refine ⟨⟨hl,by rw [hD];decide,fun x hx j=> ?_⟩,hD⟩;rw [hD,Int.one_mul];by_cases hj:j<M
 · rw [Yl hj fun k hk hkj=>by rw [hu k hk];simp [unit,Ne.symm hkj],dT_unit hl hu (hV x hx) hj,hu j hj];simp [unit]
 · rw [hV x hx j (by omega),Z4 fun k hk=>by rw [hu k hk,show unit k j=0 from if_neg (by omega),Int.mul_zero]]
end
section
section
variable (A : Nat → Vec)
def tt (bs : List Nat) (i : Nat) (x : Vec) : Int := (dD A bs).sign * dT A bs i x
def den (bs : List Nat) : Int := (dD A bs).sign * dD A bs
end
variable {A : Nat → Vec} {V : Vec → Prop} {M : Nat} {bs : List Nat}
theorem sgn_sq{d:Int}(h:d≠0):d.sign*d.sign=1:=by
 rcases Int.lt_or_gt_of_ne h with h|h
 · rw [Int.sign_eq_neg_one_of_neg h];rfl
 · rw [Int.sign_eq_one_of_pos h];rfl
theorem den_pos(h:dD A bs≠0):0<den A bs:=by
 unfold den;rcases Int.lt_or_gt_of_ne h with h|h
 · rw [Int.sign_eq_neg_one_of_neg h];omega
 · rw [Int.sign_eq_one_of_pos h];omega
theorem sign_of_mul{d p:Int}(h:d≠0)(hp:0<d.sign*p):p.sign=d.sign:=by
 rcases Int.lt_or_gt_of_ne h with h|h
 · rw [Int.sign_eq_neg_one_of_neg h] at hp ⊢;exact Int.sign_eq_neg_one_of_neg (by omega)
 · rw [Int.sign_eq_one_of_pos h] at hp ⊢;exact Int.sign_eq_one_of_pos (by omega)
theorem tt_own(hl:bs.length=M){i:Nat}(h:i<M):tt A bs i (A (bs.getD i 0))=den A bs:=by unfold tt den;rw [dT_own (by omega)]
theorem Yu(hl:bs.length=M){i k:Nat}(hi:i<M)(hk:k<M)(h:k≠i):tt A bs i (A (bs.getD k 0))=0:=by unfold tt;rw [dT_other (by omega) (by omega) h,Int.mul_zero]
theorem Bas.pos{r s:Nat}(h:Bas A V M bs)(hp:0<tt A bs r (A s)):dT A bs r (A s)≠0:=fun e=>by unfold tt at hp;rw [e] at hp;simp at hp
theorem Bas.sgn'{r s:Nat}(h:Bas A V M bs)(hp:0<tt A bs r (A s)):(dD A (bs.set r s)).sign=(dD A bs).sign:=by
 rw [piv_D];exact sign_of_mul h.ne hp
theorem Bas.den'{r s:Nat}(h:Bas A V M bs)(hp:0<tt A bs r (A s)):den A (bs.set r s)=tt A bs r (A s):=by
 unfold den;rw [h.sgn' hp,piv_D];rfl
theorem Bas.tt_r{r s:Nat}(h:Bas A V M bs)(hp:0<tt A bs r (A s))(x:Vec):tt A (bs.set r s) r x=tt A bs r x:=by
 unfold tt;rw [h.sgn' hp,piv_r]
theorem Bas.tt_i{r s i:Nat}(h:Bas A V M bs)(hr:r<M)(hi:i<M)(hir:i≠r)(hp:0<tt A bs r (A s)){x:Vec}(hx:V x):
  den A bs*tt A (bs.set r s) i x=tt A bs r (A s)*tt A bs i x - tt A bs r x*tt A bs i (A s):=by
 have h1:=h.piv_i (s:=s) hr hi hir hx;have h2:=sgn_sq h.ne;unfold tt den;rw [h.sgn' hp];generalize (dD A bs).sign=σ at*
 grind
theorem Bas.tt_two{bs2:List Nat}(h:Bas A V M bs)(h2:Bas A V M bs2){g:Nat}(hg:g<M){x:Vec}(hx:V x):den A bs*tt A bs2 g x=sm (fun k=>tt A bs k x*tt A bs2 g (A (bs.getD k 0))) M:=by
 have h1:=h.two (l:=cols A bs2) (i:=g) (by rw [Z6,h2.len];exact hg) hx;unfold tt den
 have e:sm (fun k=>(dD A bs).sign*dT A bs k x*((dD A bs2).sign*dT A bs2 g (A (bs.getD k 0)))) M=(dD A bs).sign*(dD A bs2).sign*sm (fun k=>dT A bs k x*dt ((cols A bs2).set g (A (bs.getD k 0)))) M:=by
  rw [<- Y3]
  exact Xl fun k _=>by unfold dT;grind
 rw [e,<- h1];unfold dT;grind
structure Step (A : Nat → Vec) (m g : Nat) (q : Vec) (al : Nat → Prop) (bs : List Nat) (r s : Nat) : Prop where
  row : r < m
  alw : al s
  ent : tt A bs g (A s) < 0
  least : ∀ v, v < s → al v → 0 ≤ tt A bs g (A v)
  lev : 0 < tt A bs r (A s)
  ratio : ∀ i, i < m → 0 < tt A bs i (A s) → tt A bs r q * tt A bs i (A s) ≤ tt A bs i q * tt A bs r (A s)
  tie : ∀ i, i < m → 0 < tt A bs i (A s) → tt A bs r q * tt A bs i (A s) = tt A bs i q * tt A bs r (A s) → bs.getD r 0 ≤ bs.getD i 0
theorem Step.bas{m g r s:Nat}{q:Vec}{al:Nat ->Prop}(h:Step A m g q al bs r s)(hB:Bas A V M bs)(hm:m<=M)(hA:∀v,V (A v)):Bas A V M (bs.set r s):=hB.piv (by have:=h.row;omega) (hA s) (hB.pos h.lev)
theorem Step.feas{m g r s:Nat}{q:Vec}{al:Nat ->Prop}(h:Step A m g q al bs r s)(hB:Bas A V M bs)(hm:m<=M)(hq:V q)(hf:∀i,i<m ->0<=tt A bs i q):∀i,i<m ->0<=tt A (bs.set r s) i q:=fun i hi=>by
 have hr:=h.row
 by_cases hir:i=r
 · subst hir;rw [hB.tt_r h.lev];exact hf i hi
 · have h1:=hB.tt_i (by omega) (by omega) hir h.lev hq
   have hd:=den_pos hB.ne
   have h3:=hf i hi
   have h4:=hf r hr
   have h5:=h.lev
   have key:0<=den A bs*tt A (bs.set r s) i q:=by
    rw [h1];by_cases h2:0<tt A bs i (A s)
    · have:=h.ratio i hi h2;have e:tt A bs r (A s)*tt A bs i q=tt A bs i q*tt A bs r (A s):=Int.mul_comm _ _;omega
    · have a1:0<=tt A bs r (A s)*tt A bs i q:=Int.mul_nonneg (by omega) h3;have a2:tt A bs r q*tt A bs i (A s)<=0:=Int.mul_nonpos_of_nonneg_of_nonpos h4 (by omega);omega
   rcases (show tt A (bs.set r s) i q<0 \/0<=tt A (bs.set r s) i q by omega) with h6|h6
   · have:=Int.mul_neg_of_pos_of_neg hd h6;omega
   · exact h6
theorem divInt_le{a b c d:Int}(hb:0<b)(hd:0<d):Rat.divInt a b<=Rat.divInt c d↔a*d<=c*b:=by
 rw [Rat.le_iff_sub_nonneg,Rat.divInt_sub_divInt _ _ (by omega) (by omega),Rat.divInt_nonneg_iff_of_pos_right (Int.mul_pos hd hb)];omega
def ob (A : Nat → Vec) (g : Nat) (q : Vec) (bs : List Nat) : Rat := Rat.divInt (tt A bs g q) (den A bs)
theorem Step.obj{m g r s:Nat}{q:Vec}{al:Nat ->Prop}(h:Step A m g q al bs r s)(hB:Bas A V M bs)(hm:m<=g)(hg:g<M)(hq:V q)(hA:∀v,V (A v))(hf:∀i,i<m ->0<=tt A bs i q):
  ob A g q bs<=ob A g q (bs.set r s)/\ (ob A g q (bs.set r s)=ob A g q bs ->tt A bs r q=0):=by
 have hr:=h.row;have hd:=den_pos hB.ne;have hd' :=den_pos (h.bas hB (by omega) hA).ne;have h1:=hB.tt_i (i:=g) (by omega) hg (by omega) h.lev hq;have h2:=hB.den' h.lev;have h3:=h.ent;have h4:=hf r hr;unfold ob;rw [h2] at hd' ⊢;constructor
 · rw [divInt_le hd hd'];have a:tt A bs r q*tt A bs g (A s)<=0:=Int.mul_nonpos_of_nonneg_of_nonpos h4 (by omega);have e1:tt A (bs.set r s) g q*den A bs=den A bs*tt A (bs.set r s) g q:=Int.mul_comm _ _;have e2:tt A bs g q*tt A bs r (A s)=tt A bs r (A s)*tt A bs g q:=Int.mul_comm _ _;omega
 · intro he;have he' :=(Rat.divInt_eq_divInt_iff (by omega) (by omega)).1 he;have e1:tt A (bs.set r s) g q*den A bs=den A bs*tt A (bs.set r s) g q:=Int.mul_comm _ _;have e2:tt A bs g q*tt A bs r (A s)=tt A bs r (A s)*tt A bs g q:=Int.mul_comm _ _
   have e3:tt A bs r q*tt A bs g (A s)=0:=by omega
   rcases Int.mul_eq_zero.1 e3 with h5|h5
   · exact h5
   · omega
theorem nat_hole:∀(n:Nat) (f:Nat ->Nat),(∀k,f k<n) ->∃i j,i<j/\ f i=f j
 |0,f,h=>absurd (h 0) (by omega)
 |n+1,f,h=>by
  by_cases h1:∃a,f a=n
  · obtain ⟨a,ha⟩:=h1
    by_cases h2:∃b,a<b/\ f b=n
    · obtain ⟨b,hb,hb2⟩:=h2
      exact ⟨a,b,hb,by rw [ha,hb2]⟩
    · obtain ⟨i,j,hij,he⟩:=nat_hole n (fun k=>f (a+1+k)) (fun k=>by
       have:=h (a+1+k)
       have:f (a+1+k)≠n:=fun e=>h2 ⟨a+1+k,by omega,e⟩
       omega)
      exact ⟨a+1+i,a+1+j,by omega,he⟩
  · exact nat_hole n f (fun k=>by
     have:=h k
     have:f k≠n:=fun e=>h1 ⟨k,e⟩
     omega)
def enc (N : Nat) : List Nat → Nat
  | [] => 0
  | d :: l => d + N * enc N l
theorem enc_lt{N:Nat}:∀{l:List Nat},(∀d∈l,d<N) ->enc N l<N ^ l.length
 | [],_=>by simp [enc]
 |d::l,h=>by
  have h1:=h d (List.mem_cons_self ..)
  have h2:=enc_lt (l:=l) fun d hd=>h d (List.mem_cons_of_mem _ hd)
  simp only [enc,List.length_cons,Nat.pow_succ]
  have h3:N*(enc N l+1)<=N*N ^ l.length:=Nat.mul_le_mul_left _ h2
  rw [Nat.mul_add,Nat.mul_one] at h3
  rw [Nat.mul_comm (N ^ l.length) N]
  omega
theorem enc_inj{N:Nat}:∀{l k:List Nat},(∀d∈l,d<N) ->(∀d∈k,d<N) ->l.length=k.length ->enc N l=enc N k ->l=k
 | [],[],_,_,_,_=>rfl
 |d::l,e::k,h1,h2,hl,he=>by
  have a1:=h1 d (List.mem_cons_self ..)
  have a2:=h2 e (List.mem_cons_self ..)
  simp only [enc] at he
  have m1:(d+N*enc N l)%N=d:=by rw [Nat.add_mul_mod_self_left,Nat.mod_eq_of_lt a1]
  have m2:(e+N*enc N k)%N=e:=by rw [Nat.add_mul_mod_self_left,Nat.mod_eq_of_lt a2]
  have hde:d=e:=by rw [<- m1,<- m2,he]
  subst hde
  have h3:N*enc N l=N*enc N k:=by omega
  rw [enc_inj (fun d hd=>h1 d (List.mem_cons_of_mem _ hd)) (fun d hd=>h2 d (List.mem_cons_of_mem _ hd)) (by simpa using hl) (Nat.eq_of_mul_eq_mul_left (by omega) h3)]
 | [],_::_,_,_,hl,_=>by simp at hl
 |_::_,[],_,_,hl,_=>by simp at hl
theorem list_hole{N M:Nat}(f:Nat ->List Nat)(hl:∀k,(f k).length=M)(hN:∀k,∀d∈f k,d<N):∃i j,i<j/\ f i=f j:=by
 obtain ⟨i,j,hij,he⟩:=nat_hole (N ^ M) (fun k=>enc N (f k)) (fun k=>by have:=enc_lt (hN k);rwa [hl k] at this);exact ⟨i,j,hij,enc_inj (hN i) (hN j) (by rw [hl,hl]) he⟩
theorem exists_max(f:Nat ->Nat)(a:Nat):∀n,0<n ->∃e,a<=e/\ e<a+n/\ ∀k,a<=k ->k<a+n ->f k<=f e
 |0,h=>absurd h (by omega)
 |1,_=>⟨a,by omega,by omega,fun k h1 h2=>by
  have:k=a:=by omega
  rw [this];exact Nat.le_refl _⟩
 |n+2,_=>by
  obtain ⟨e,h1,h2,h3⟩:=exists_max f a (n+1) (by omega)
  by_cases h4:f e<=f (a+n+1)
  · refine ⟨a+n+1,by omega,by omega,fun k hk1 hk2=> ?_⟩
    rcases Nat.lt_or_ge k (a+(n+1)) with h5|h5
    · exact Nat.le_trans (h3 k hk1 h5) h4
    · have:k=a+n+1:=by omega
      rw [this];exact Nat.le_refl _
  · refine ⟨e,h1,by omega,fun k hk1 hk2=> ?_⟩
    rcases Nat.lt_or_ge k (a+(n+1)) with h5|h5
    · exact h3 k hk1 h5
    · have:k=a+n+1:=by omega
      rw [this];omega
structure Run (A : Nat → Vec) (V : Vec → Prop) (M m g : Nat) (q : Vec) (al : Nat → Prop) (N : Nat) (B : Nat → List Nat) (r s : Nat → Nat) : Prop where
  bas : Bas A V M (B 0)
  feas : ∀ i, i < m → 0 ≤ tt A (B 0) i q
  hq : V q
  hA : ∀ v, V (A v)
  mg : m ≤ g
  gM : g < M
  step : ∀ k, Step A m g q al (B k) (r k) (s k)
  next : ∀ k, B (k + 1) = (B k).set (r k) (s k)
  few : ∀ d ∈ B 0, d < N
  alN : ∀ v, al v → v < N
section
variable {m g : Nat} {q : Vec} {al : Nat → Prop} {N : Nat} {B : Nat → List Nat} {r s : Nat → Nat}
theorem Run.basA(R:Run A V M m g q al N B r s):∀k,Bas A V M (B k)
 |0=>R.bas
 |k+1=>by rw [R.next];exact (R.step k).bas (R.basA k) (by have:=R.mg;have:=R.gM;omega) R.hA
theorem Run.feasA(R:Run A V M m g q al N B r s):∀k,∀i,i<m ->0<=tt A (B k) i q
 |0=>R.feas
 |k+1=>by rw [R.next];exact (R.step k).feas (R.basA k) (by have:=R.mg;have:=R.gM;omega) R.hq (R.feasA k)
theorem Run.fewA(R:Run A V M m g q al N B r s):∀k,∀d∈B k,d<N
 |0=>R.few
 |k+1=>fun d hd=>by
  rw [R.next] at hd
  rcases List.mem_or_eq_of_mem_set hd with h|h
  · exact R.fewA k d h
  · rw [h];exact R.alN _ (R.step k).alw
theorem Run.mono(R:Run A V M m g q al N B r s)(a:Nat):∀n,ob A g q (B a)<=ob A g q (B (a+n))
 |0=>Rat.le_refl
 |n+1=>Rat.le_trans (R.mono a n) (by
  have:=((R.step (a+n)).obj (R.basA _) R.mg R.gM R.hq R.hA (R.feasA _)).1
  rw [<- R.next] at this;exact this)
def In (M : Nat) (B : Nat → List Nat) (k v : Nat) : Prop := ∃ i, i < M ∧ (B k).getD i 0 = v
theorem Run.in_next(R:Run A V M m g q al N B r s){k v:Nat}(h:In M B (k+1) v):In M B k v \/v=s k:=by
 obtain ⟨i,hi,he⟩:=h;have hr:=(R.step k).row;have hl:=(R.basA k).len;rw [R.next,getD_set' (by have:=R.mg;have:=R.gM;omega)] at he;split at he
 · exact .inr he.symm
 · exact .inl ⟨i,hi,he⟩
theorem Run.in_stay(R:Run A V M m g q al N B r s){k v:Nat}(h:In M B k v)(hn:(B k).getD (r k) 0≠v):In M B (k+1) v:=by
 obtain ⟨i,hi,he⟩:=h;have hr:=(R.step k).row;have hl:=(R.basA k).len;refine ⟨i,hi,?_⟩;rw [R.next,getD_set' (by have:=R.mg;have:=R.gM;omega),if_neg (fun e=>by rw [e] at hn;exact hn he)];exact he
theorem Run.not_in(R:Run A V M m g q al N B r s)(k:Nat):¬In M B k (s k):=fun ⟨i,hi,he⟩=>by
 have h1:=(R.step k).ent
 have hB:=R.basA k
 rw [<- he] at h1
 by_cases hig:i=g
 · subst hig;rw [tt_own hB.len hi] at h1;have:=den_pos hB.ne;omega
 · rw [Yu hB.len R.gM hi hig] at h1;omega
theorem Run.new_in(R:Run A V M m g q al N B r s)(k:Nat):In M B (k+1) (s k):=by
 have hr:=(R.step k).row;have:=R.mg;have:=R.gM;have hl:=(R.basA k).len;exact ⟨r k,by omega,by rw [R.next,getD_set' (by omega),if_pos J]⟩
theorem Run.down(R:Run A V M m g q al N B r s){k0 k1 v:Nat}(hn:∀k,k0<=k ->k<k1 ->s k≠v)(a:Nat)(ha:k0<=a):∀n,a+n<=k1 ->In M B (a+n) v ->In M B a v
 |0,_,h=>h
 |n+1,hle,h=>by
  rcases R.in_next h with h1|h1
  · exact R.down hn a ha n (by omega) h1
  · exact absurd h1.symm (hn (a+n) (by omega) (by omega))
theorem Run.up(R:Run A V M m g q al N B r s){k0 k1 v:Nat}(hn:∀k,k0<=k ->k<k1 ->(B k).getD (r k) 0≠v)(a:Nat)(ha:k0<=a):∀n,a+n<=k1 ->In M B a v ->In M B (a+n) v
 |0,_,h=>h
 |n+1,hle,h=>R.in_stay (R.up hn a ha n (by omega) h) (hn (a+n) (by omega) (by omega))
theorem Run.goal(R:Run A V M m g q al N B r s){j:Nat}(hj:m<=j):∀k,(B k).getD j 0=(B 0).getD j 0
 |0=>rfl
 |k+1=>by
  have hr:=(R.step k).row
  have:=R.mg
  have:=R.gM
  have hl:=(R.basA k).len
  rw [R.next,getD_set' (by omega),if_neg (by omega)]
  exact R.goal hj k
def Zr (A : Nat → Vec) (m : Nat) (q : Vec) (B : Nat → List Nat) (k v : Nat) : Prop := ∀ i, i < m → (B k).getD i 0 = v → tt A (B k) i q = 0
theorem Run.z_fwd(R:Run A V M m g q al N B r s){k v:Nat}(hd:tt A (B k) (r k) q=0)(h:Zr A m q B k v):Zr A m q B (k+1) v:=fun i hi he=>by
 have hr:=(R.step k).row
 have:=R.mg
 have:=R.gM
 have hB:=R.basA k
 have hl:=hB.len
 rw [R.next] at he ⊢
 rw [getD_set' (by omega)] at he
 by_cases hir:r k=i
 · subst hir;rw [hB.tt_r (R.step k).lev];exact hd
 · rw [if_neg hir] at he
   have h1:=hB.tt_i (by omega) (by omega) (Ne.symm hir) (R.step k).lev R.hq
   rw [h i hi he,hd,Int.mul_zero,Int.zero_mul,Int.sub_zero] at h1
   have:=den_pos hB.ne
   rcases Int.mul_eq_zero.1 h1 with h2|h2
   · omega
   · exact h2
theorem Run.z_bwd(R:Run A V M m g q al N B r s){k v:Nat}(hd:tt A (B k) (r k) q=0)(h:Zr A m q B (k+1) v):Zr A m q B k v:=fun i hi he=>by
 have hr:=(R.step k).row
 have:=R.mg
 have:=R.gM
 have hB:=R.basA k
 have hl:=hB.len
 by_cases hir:r k=i
 · subst hir;exact hd
 · have h2:=h i hi (by rw [R.next,getD_set' (by omega),if_neg hir];exact he)
   rw [R.next] at h2
   have h1:=hB.tt_i (by omega) (by omega) (Ne.symm hir) (R.step k).lev R.hq
   rw [h2,hd,Int.mul_zero,Int.zero_mul,Int.sub_zero] at h1
   have:=(R.step k).lev
   rcases Int.mul_eq_zero.1 h1.symm with h3|h3
   · omega
   · exact h3
theorem Run.z_all(R:Run A V M m g q al N B r s){k0 k1 e:Nat}(hd:∀k,k0<=k ->k<k1 ->tt A (B k) (r k) q=0)(h1:k0<=e)(h2:e<k1):∀k,k0<=k ->k<=k1 ->Zr A m q B k (s e):=by
 have h0:Zr A m q B e (s e):=fun i hi he=>absurd ⟨i,by have:=R.mg;have:=R.gM;omega,he⟩ (R.not_in e)
 have fwd:∀n,e+n<=k1 ->Zr A m q B (e+n) (s e):=fun n=>by
  induction n with
  |zero=>intro _;exact h0
  |succ n ih=>intro hn;exact R.z_fwd (hd (e+n) (by omega) (by omega)) (ih (by omega))
 have bwd:∀n,n<=e ->k0<=e - n ->Zr A m q B (e - n) (s e):=fun n=>by
  induction n with
  |zero=>intro _ _;exact h0
  |succ n ih=>
   intro hn hk;have:=ih (by omega) (by omega)
   have e1:e - n=(e - (n+1))+1:=by omega
   rw [e1] at this;exact R.z_bwd (hd _ hk (by omega)) this
 intro k hk1 hk2;rcases Nat.lt_or_ge k e with h3|h3
 · have:=bwd (e - k) (by omega) (by omega)
   rwa [show e - (e - k)=k by omega] at this
 · have:=fwd (k - e) (by omega)
   rwa [show e+(k - e)=k by omega] at this
theorem Run.no(R:Run A V M m g q al N B r s):False:=by
 have hmg:=R.mg;have hgM:=R.gM;obtain ⟨k0,k1,hk,hB⟩:=list_hole B (fun k=>(R.basA k).len) R.fewA
 have ob0:∀k,k0<=k ->k<=k1 ->ob A g q (B k)=ob A g q (B k0):=fun k h1 h2=>by
  have a1:=R.mono k0 (k - k0);have a2:=R.mono k (k1 - k);rw [show k0+(k - k0)=k by omega] at a1;rw [show k+(k1 - k)=k1 by omega,<- hB] at a2;exact Rat.le_antisymm a2 a1
 have hd:∀k,k0<=k ->k<k1 ->tt A (B k) (r k) q=0:=fun k h1 h2=>by
  refine ((R.step k).obj (R.basA _) R.mg R.gM R.hq R.hA (R.feasA _)).2 ?_
  rw [<- R.next,ob0 (k+1) (by omega) (by omega),ob0 k (by omega) (by omega)]
 have fick:∀a b v,k0<=a ->a<=k1 ->k0<=b ->b<=k1 ->In M B a v ->¬In M B b v ->∃k,k0<=k/\ k<k1/\ s k=v:=fun a b v ha1 ha2 hb1 hb2 hi hn=>by
  refine Classical.byContradiction fun hno=> ?_
  have hne:∀k,k0<=k ->k<k1 ->s k≠v:=fun k h1 h2 h3=>hno ⟨k,h1,h2,h3⟩
  have i0:=R.down hne k0 (Nat.le_refl _) (a - k0) (by omega) (by rw [show k0+(a - k0)=a by omega];exact hi)
  have i1:In M B k1 v:=by obtain ⟨i,h1,h2⟩:=i0;exact ⟨i,h1,by rw [<- hB];exact h2⟩
  exact hn (R.down hne b hb1 (k1 - b) (by omega) (by rw [show b+(k1 - b)=k1 by omega];exact i1))
 obtain ⟨e,he1,he2,hmax⟩:=exists_max s k0 (k1 - k0) (by omega);rw [show k0+(k1 - k0)=k1 by omega] at he2 hmax
 have hleave:∃d,k0<=d/\ d<k1/\ (B d).getD (r d) 0=s e:=by
  refine Classical.byContradiction fun hno=> ?_
  have hne:∀k,k0<=k ->k<k1 ->(B k).getD (r k) 0≠s e:=fun k h1 h2 h3=>hno ⟨k,h1,h2,h3⟩
  have i1:=R.up hne (e+1) (by omega) (k1 - (e+1)) (by omega) (R.new_in e);rw [show e+1+(k1 - (e+1))=k1 by omega] at i1
  have i0:In M B k0 (s e):=by obtain ⟨i,h1,h2⟩:=i1;exact ⟨i,h1,by rw [hB];exact h2⟩
  have i2:=R.up hne k0 (Nat.le_refl _) (e - k0) (by omega) i0;rw [show k0+(e - k0)=e by omega] at i2;exact R.not_in e i2
 obtain ⟨d,hd1,hd2,hdl⟩:=hleave;have Sd:=R.step d;have Se:=R.step e;have Bd:=R.basA d;have Be:=R.basA e;have hrd:=Sd.row
 have hsne:s d≠s e:=fun h=>R.not_in d ⟨r d,by omega,by rw [hdl,h]⟩
 have hslt:s d<s e:=by have:=hmax d hd1 hd2;omega
 have two:=Bd.tt_two Be hgM (R.hA (s d));have lhs:=Se.least (s d) hslt Sd.alw;have dd:=den_pos Bd.ne;have de:=den_pos Be.ne;rw [sm_split hgM] at two
 have hg0:tt A (B e) g (A ((B d).getD g 0))=den A (B e):=by
  rw [R.goal hmg d,<- R.goal hmg e];exact tt_own Be.len hgM
 rw [hg0] at two;have t1:=Int.mul_neg_of_neg_of_pos Sd.ent de;have t2:=Int.mul_nonneg (Int.le_of_lt dd) lhs;obtain ⟨k,hkM,hkp⟩:=sm_pos (f:=fun k=>if k=g then 0 else tt A (B d) k (A (s d))*tt A (B e) g (A ((B d).getD k 0))) (n:=M) (by omega);by_cases hkg:k=g
 · rw [if_pos hkg] at hkp;omega
 rw [if_neg hkg] at hkp
 have hfac:tt A (B e) g (A ((B d).getD k 0))≠0:=fun h=>by rw [h,Int.mul_zero] at hkp;omega
 have hnin:¬In M B e ((B d).getD k 0):=fun ⟨i,hi,hie⟩=>by
  by_cases hig:i=g
  · subst hig;have h1:=R.goal hmg e;rw [R.goal hmg e,<- R.goal hmg d] at hie;exact Bd.ne (Yr (i:=i) (k:=k) (by rw [Bd.len];omega) (by rw [Bd.len];omega) hkg hie)
  · rw [<- hie] at hfac;exact hfac (Yu Be.len hgM hi hig)
 have hin:In M B d ((B d).getD k 0):=⟨k,hkM,rfl⟩
 have hkm:k<m:=by
  rcases Nat.lt_or_ge k m with h|h
  · exact h
  · exact absurd ⟨k,hkM,by rw [R.goal h e,<- R.goal h d]⟩ hnin
 obtain ⟨f,hf1,hf2,hf3⟩:=fick d e _ hd1 (by omega) he1 (by omega) hin hnin;have hfle:=hmax f hf1 hf2;rw [hf3] at hfle;have hZ:=R.z_all hd hf1 hf2 d hd1 (by omega) k hkm hf3.symm
 have halw:al ((B d).getD k 0):=by rw [<- hf3];exact (R.step f).alw
 by_cases hkt:(B d).getD k 0=s e
 · have hkr:k=r d:=Classical.byContradiction fun h=>Bd.ne (Yr (i:=r d) (k:=k) (by rw [Bd.len];omega) (by rw [Bd.len];omega) h (by rw [hdl,hkt]))
   rw [hkt,hkr] at hkp;have:=Int.mul_neg_of_pos_of_neg Sd.lev Se.ent;omega
 · have h1:=Se.least _ (by omega) halw
   have h2:0<tt A (B e) g (A ((B d).getD k 0)):=by omega
   have h3:0<tt A (B d) k (A (s d)):=by
    rcases (show 0<tt A (B d) k (A (s d)) \/tt A (B d) k (A (s d))<=0 by omega) with h|h
    · exact h
    · have:=Int.mul_nonpos_of_nonpos_of_nonneg h h1;omega
   have h4:=Sd.tie k hkm h3 (by rw [hd d hd1 hd2,hZ,Int.zero_mul,Int.zero_mul]);rw [hdl] at h4;omega
end
end
def nrm (r : Nat) : Nat → Vec → Nat
  | 0, _ => 0
  | k + 1, c => nrm r k c + (c (r + k)).natAbs
def prodN (r k : Nat) : List Vec → Nat
  | [] => 1
  | c :: q => nrm r k c * prodN r k q
theorem nrm_front(r:Nat)(c:Vec):∀k,nrm r (k+1) c=(c r).natAbs+nrm (r+1) k c
 |0=>by show 0+(c (r+0)).natAbs=(c r).natAbs+0;rw [Nat.add_zero,Nat.zero_add,Nat.add_zero]
 |k+1=>by
  show nrm r (k+1) c+(c (r+(k+1))).natAbs=(c r).natAbs+(nrm (r+1) k c+(c (r+1+k)).natAbs)
  rw [nrm_front r c k,show r+(k+1)=r+1+k by omega,Nat.add_assoc]
theorem prodN_app(r k:Nat):∀p q:List Vec,prodN r k (p++q)=prodN r k p*prodN r k q
 | [],q=>(Nat.one_mul _).symm
 |c::p,q=>by show nrm r k c*prodN r k (p++q)=nrm r k c*prodN r k p*prodN r k q;rw [prodN_app r k p q,Nat.mul_assoc]
theorem prodN_le(r k:Nat):∀q:List Vec,prodN (r+1) k q<=prodN r (k+1) q
 | []=>Nat.le_refl _
 |c::q=>Nat.mul_le_mul (by rw [nrm_front];omega) (prodN_le r k q)
theorem exps_l1{f:List Vec ->Int}{r k:Nat}(hf:∀l,l.length=k ->(f l).natAbs<=prodN (r+1) k l):∀(q p:List Vec),p.length+q.length=k+1 ->
  (exps f r p q).natAbs<=prodN (r+1) k p*prodN r (k+1) q
 | [],p,_=>by show (0:Int).natAbs<=_;exact Nat.zero_le _
 |c::q,p,h=>by
  have ih:=exps_l1 hf q (p++ [c]) (by simp at h ⊢;omega)
  have h1:=hf (p++q) (by simp at h ⊢;omega)
  rw [prodN_app] at h1 ih
  show (c r*f (p++q) - exps f r (p++ [c]) q).natAbs<=prodN (r+1) k p*(nrm r (k+1) c*prodN r (k+1) q)
  have h2:(c r*f (p++q) - exps f r (p++ [c]) q).natAbs<=(c r*f (p++q)).natAbs+(exps f r (p++ [c]) q).natAbs:=by omega
  rw [Int.natAbs_mul] at h2
  have h3:=Nat.mul_le_mul_left (c r).natAbs (Nat.le_trans h1 (Nat.mul_le_mul_left _ (prodN_le r k q)))
  have e:prodN (r+1) k [c]=nrm (r+1) k c:=Nat.mul_one _
  rw [e] at ih
  rw [nrm_front]
  refine Nat.le_trans h2 (Nat.le_trans (Nat.add_le_add h3 ih) (Nat.le_of_eq ?_))
  generalize prodN (r+1) k p=P
  generalize prodN r (k+1) q=Q
  generalize (c r).natAbs=a
  generalize nrm (r+1) k c=b
  grind
theorem det_l1:∀(k r:Nat) (cs:List Vec),cs.length=k ->(det k r cs).natAbs<=prodN r k cs
 |0,r,cs,h=>by
  have:cs=[]:=List.eq_nil_of_length_eq_zero h
  subst this
  exact Nat.le_refl _
 |k+1,r,cs,h=>by
  have:=exps_l1 (f:=det k (r+1)) (r:=r) (k:=k) (fun l hl=>det_l1 k (r+1) l hl) cs [] (by simpa using h)
  rw [show prodN (r+1) k []=1 from rfl,Nat.one_mul] at this
  exact this
theorem dt_l1(cs:List Vec):(dt cs).natAbs<=prodN 0 cs.length cs:=det_l1 _ 0 cs rfl
end Go.Det
namespace Go.Limbs
theorem row_at{α:Type}(D l:List α)(q:Nat)(z:α)(h:D.length<=q):(D++l.drop D.length).getD q z=l.getD q z:=by
 rw [List.getD_eq_getElem?_getD,List.getElem?_append_right h,List.getElem?_drop,List.getD_eq_getElem?_getD,show D.length+(q - D.length)=q by omega]
theorem row_set{α:Type}(D l:List α)(x:α)(h:D.length<l.length):(D++l.drop D.length).set D.length x=(D++ [x])++l.drop (D++ [x]).length:=by
 rw [List.set_append_right _ _ (Nat.le_refl _),Nat.sub_self,List.length_append,List.length_singleton,List.drop_eq_getElem_cons h,List.set_cons_zero,List.append_assoc];rfl
end Go.Limbs
namespace Go.Proofs.YtfimckpnnbibcaaGreat
open Go.Own Go.Limbs Go.Proofs.Tryz
attribute [local irreducible] St Ops Go.Own.Fin Ok OkB OkN OkT OkL OkF
theorem rss_take(l:List Rs)(i:Nat):(rss l).take (i*17)=rss (l.take i):=el_take rs_len l i
section
variable {X : Ctx} {L : AL} {B : BL} {ops : Array Oper} {K : Act → World → Prop} {r : Pl} {k : Kd}
  {x y z : Operand} {d : Nat} {t t2 t' : TypeId} {pos : String} {af : Array Edge} {g : Option (Nat × Bool)}
theorem neRs'(p q:Rs)(hg:gd ops L g=some true)(hx:ev L x=some (.ct (rsC p)))(hy:ev L y=some (.ct (rsC q)))(hP:X.P=prog)(hn:Nat.blt d X.n=true)
  (h:Ops X ops r ((d, .ct (boolC (decide (¬p=q))))::L) B K):Ops X ops (.cons ⟨some d, .binOp .neq 62 x y t2,t',pos,af,g⟩ k r) L B K:=
 neRs p q hg hx hy hP hn (by rw [<- decide_not];exact h)
end
set_option maxHeartbeats 4000000 in
theorem Compact_Rs_ok (l : List Rs) (hl : l.length ≤ 100000) : OkT prog 80 62 17 (rss l) [] (rss (dd l)) := by
  refine OkT.enter func80 J _ ntmps80 J ?_
  intro S w h0; refine Qj 1 J (Xj fun K hK => ?_); refine Q2 2 J (hK _ _ (Xs 3 J ?_)); clear hK K; refine Xj (fun K hK => ?_); refine Q2 1 J (Yy l.length J J J (by decide) (rss_len l) sRes.und J ?_); refine Q2 2 J (hK _ _ (Xs 1 J ?_)); clear hK K; refine Qy J (fun h => ?_) (fun h => ?_)
  · rw [dd_small (l := l) (by omega)]; refine Qj 1 J (Xj fun K hK => ?_); refine Q2 3 J (hK _ _ (Xs 2 J ?_)); clear hK K; refine Ju J J J
  refine Qj 4 J (Xj fun K hK => ?_); refine Q2 2 J (hK _ _ (Xs 2 J ?_)); clear hK K
  refine QY (α := Nat) (fun i => i + 1 ≤ l.length ∧ dd (l.take (i + 1)) = l.take (i + 1))
    (fun i => [(0, .own 0), (3, .ct (intC (i + 1)))]) (fun _ => [(0, .row 62 17 (rss l))]) (fun i => l.length - i) 0 ⟨by omega, dd_small (by rw [List.length_take]; omega)⟩ (by exact Qx J) ?_
  rintro i ⟨hi, hd⟩
  try dsimp only at hi hd
  try dsimp only
  refine Qj 2 J (Xj fun K hK => ?_); refine Q2 2 J (Yy l.length J J J (by decide) (rss_len l) sRes.und J ?_); refine Q2 2 J (hK _ _ (Xs 1 J ?_)); clear hK K; refine Qy J (fun h => ?_) (fun h => ?_); rotate_left
  · have e : dd l = l := by
      have := hd; rw [List.take_of_length_le (by omega)] at this; exact this
    rw [e]; refine Qj 3 J (Xj fun K hK => ?_); refine Q2 3 J (hK _ _ (Xs 2 J ?_)); clear hK K; refine Ju J J J
  refine Qj 5 J ?_; refine YU mixed 10 0x8009282307060504020100 J (by kernel_rfl) (fun K hK => ?_); refine Q2 2 J (Qf l.length J J J (rss_len l) J sRes (by omega) (by omega) J ?_); refine Zf 3 J (by omega) ?_; refine Qf l.length J J J (rss_len l) J sRes (by omega) (by omega) J ?_; refine ldE rsCs rs0 rs_len J J J J J (by omega) lRes J ?_; refine ldE rsCs rs0 rs_len J J J J J (by omega) lRes J ?_
  rw [show ((i : Int) + 1).toNat = i + 1 by omega, show ((i : Int) + 1 - 1).toNat = i by omega]; generalize hx : l.getD i rs0 = x; generalize hy : l.getD (i + 1) rs0 = y; refine eqRs y x J J J J J (Qz (hK _ _ (Qt ?_))); clear hK K; have hs := dd_step (l := l) (z := rs0) (p := i + 1) (by omega) (by omega); rw [show i + 1 - 1 = i by omega, hx, hy] at hs; refine Qy J (fun he => ?_) (fun he => ?_); rotate_left
  · refine Qj 2 J (Xj fun K hK => ?_); refine Zf 4 J (by omega) ?_; refine hK _ _ (Xs 1 J ?_); clear hK K; refine Qk (i + 1) (by omega) ⟨by omega, ?_⟩ (by exact Qx J); rw [hs, if_neg he, hd, List.take_add_one (i := i + 1), List.getElem?_eq_getElem (by omega), ← hy, List.getD_eq_getElem?_getD, List.getElem?_eq_getElem (by omega)]; rfl
  rw [if_pos he, hd] at hs; refine St.nameS 0 0 l.length J J (rss_len l) (by omega) (by decide) (fun gb c hc1 hc2 => ?_); refine Qj 1 J (Xj fun K hK => ?_); refine Q2 2 J (Yq (i + 1) J J J (by omega) sRes (by omega) J ?_); rw [if_neg (show ¬ c = i + 1 by omega), Nat.zero_add]; refine Q2 2 J (hK _ _ (Xs 3 J ?_)); clear hK K; refine Xj (fun K hK => ?_); refine Q2 2 J (hK _ _ (Xs 2 J ?_)); clear hK K
  refine QY (α := Nat) (fun j => i + 2 + j ≤ l.length ∧ (dd (l.take (i + 2 + j))).length < i + 2 + j)
    (fun j => [(0, .ct (.ex (kh gb 0 l.length c))), (3, .ct (intC (dd (l.take (i + 2 + j))).length)), (4, .ct (.ex (kh gb ((i + 1) * 17) (l.length - (i + 1)) (c - (i + 1))))), (5, .ct (intC (j + 1)))])
    (fun j => [(0, .rowx (kh gb 0 l.length c) 62 17 (rss (dd (l.take (i + 2 + j)) ++ l.drop (dd (l.take (i + 2 + j))).length)))]) (fun j => l.length - j) 0
    ⟨by omega, by rw [Nat.add_zero, hs, List.length_take]; omega⟩ (by
      rw [Nat.add_zero, hs, List.length_take, Nat.min_eq_left hi, List.take_append_drop]
      exact Qx J) ?_
  clear hs
  rintro j ⟨hj, hD⟩
  try dsimp only at hj hD
  try dsimp only
  have hs := dd_step (l := l) (z := rs0) (p := i + 2 + j) (by omega); generalize hDD : dd (l.take (i + 2 + j)) = D at hs hD ⊢
  have hrl : (D ++ l.drop D.length).length = l.length := by rw [List.length_append, List.length_drop]; omega
  have hat : ∀ q, D.length ≤ q → (D ++ l.drop D.length).getD q rs0 = l.getD q rs0 := fun q hq => row_at D l q rs0 hq
  refine Qj 2 J (Xj fun K hK => ?_); refine Q2 2 J (YK J J sRes.und J (Q2 2 J (hK _ _ (Xs 1 J ?_)))); clear hK K; refine Qy J (fun h2 => ?_) (fun h2 => ?_)
  · refine Qj 5 J ?_; refine YU mixed 10 0x8009282307060504020100 J (by kernel_rfl) (fun K hK => ?_); refine Q2 2 J (Zt 0 (i + 1) J J J J sRes (by omega) (by omega) J ?_); refine Zf 3 J (by omega) ?_; refine Zt 0 (i + 1) J J J J sRes (by omega) (by omega) J ?_; refine ldE rsCs rs0 rs_len J J J J J (by omega) lRes J ?_; refine ldE rsCs rs0 rs_len J J J J J (by omega) lRes J ?_
    rw [show i + 1 + ((j : Int) + 1).toNat = i + 2 + j by omega, show i + 1 + ((j : Int) + 1 - 1).toNat = i + 2 + j - 1 by omega, hat _ (by omega), hat _ (by omega)]; have hs := hs (by omega); generalize hx2 : l.getD (i + 2 + j - 1) rs0 = x2 at hs ⊢; generalize hy2 : l.getD (i + 2 + j) rs0 = y2 at hs ⊢; refine neRs' y2 x2 J J J J J (Qz (hK _ _ (Qt ?_))); clear hK K; refine Qy J (fun he2 => ?_) (fun he2 => ?_)
    · rw [if_neg he2] at hs; refine Qj 1 J (Xj fun K hK => ?_); refine Q2 4 J (Zt 0 (i + 1) J J J J sRes (by omega) (by omega) J ?_); refine ldE rsCs rs0 rs_len J J J J J (by omega) lRes J ?_
      rw [show i + 1 + ((j : Int) + 1).toNat = i + 2 + j by omega, hat _ (by omega), hy2]
      refine Zt 0 0 J J J J sRes (by omega) (by omega) J ?_
      rw [Nat.zero_add, show ((D.length : Int)).toNat = D.length by omega]
      refine stEX rsCs y2 rs_len J J J J J (by omega) szRes ?_
      rw [row_set D l y2 (by omega)]; refine Qz (hK _ _ (Xs 1 J ?_)); clear hK K; refine Xj (fun K hK => ?_); refine Zf 4 J (by omega) ?_; refine hK _ _ (Xs 1 J ?_); clear hK K; refine Xj (fun K hK => ?_); refine Zf 4 J (by omega) ?_; refine hK _ _ (Xs 1 J ?_); clear hK K
      refine Qk (j + 1) (by omega) ⟨by omega, by show (dd (l.take (i + 2 + j + 1))).length < _; rw [hs, List.length_append]; show D.length + 1 < _; omega⟩ ?_
      rw [show i + 2 + (j + 1) = i + 2 + j + 1 by omega, hs, List.length_append]; exact Qx J
    · rw [if_pos (Decidable.not_not.1 he2)] at hs; refine Qj 2 J (Xj fun K hK => ?_); refine Zf 4 J (by omega) ?_; refine hK _ _ (Xs 1 J ?_); clear hK K
      refine Qk (j + 1) (by omega) ⟨by omega, by show (dd (l.take (i + 2 + j + 1))).length < _; rw [hs]; omega⟩ ?_
      rw [show i + 2 + (j + 1) = i + 2 + j + 1 by omega, hs]; exact Qx J
  · have e : dd l = D := by rw [← hDD, List.take_of_length_le (by omega)]
    rw [e]; refine Qj 3 J (Xj fun K hK => ?_); refine Q2 2 J (Yq D.length J J J J sRes (by omega) J ?_); refine Ops.cutOff 0 D.length J (by show (rss _).length = _; rw [rss_len, hrl]) (by decide) (by omega) (by show (rss _).take _ = rss D; rw [rss_take, List.take_left]) ?_; refine Ops.clearK 0 J J (by split <;> omega) J (rss_len D) (by omega) sRes (by decide) ?_; refine Qz (hK _ _ (Xs 2 J ?_)); clear hK K; refine Xj (fun K hK => ?_); refine Q2 2 J (Jy D.length J J J J sRes (by omega) J ?_); refine Q2 2 J (hK _ _ (Xs 2 J ?_)); clear hK K; refine Fin.link 2 0 J J (Ju J J J)
end Go.Proofs.YtfimckpnnbibcaaGreat
namespace Go.Proofs.YtfimckpnnbibcaaGreat
open Go.Own Go.Limbs Go.Shelf Go.Proofs.Tryz
open Go.Sort hiding Ok
attribute [local irreducible] St Ops Go.Own.Fin Ok OkB OkN OkT OkL OkF
theorem ordR:Ord cmpR:=⟨fun _ _=>cmpL_anti _ _,fun _ _ h=>rsO_inj (cmpL_eq rfl h),fun x y z h1 h2=>cmpL_trans (xs:=rsO x) (ys:=rsO y) (zs:=rsO z) rfl rfl h1 h2⟩
abbrev cmpRV : CT := .ex (.func (.func 79) #[] #[])
theorem SortR_ok(l:List Rs)(hl:l.length<4611686018427387904):OkL prog 78 62 17 (rss l) [cmpRV] unitC (rss (l.mergeSort fun x y=> !(ltOf cmpR) y x)):=
 sortFunc_L laySortR (enc:=rsV) (k:=17) (cf:=cmpR) (g:=79) (by decide) Tryz.isAgg62 Tryz.sizeOf62 (fun _=>rfl) (fun x v hv=>by
  simp only [rsV,List.mem_cons,List.not_mem_nil,or_false] at hv
  rcases hv with rfl|rfl|rfl|rfl|rfl|rfl|rfl|rfl|rfl|rfl|rfl|rfl|rfl|rfl|rfl|rfl|rfl <;>rfl)
  ordR.swo ordR.tot goCmpR cmpR_ok 62 l hl
theorem rss_snoc(l:List Rs)(r:Rs):rss (l++ [r])=rss l++rsCs r:=by simp [rss]
theorem filter_take{α:Type}(p:α ->Bool){l:List α}{z:α}{i:Nat}(h:i<l.length):(l.take (i+1)).filter p=if p (l.getD i z)=true then (l.take i).filter p++ [l.getD i z] else (l.take i).filter p:=by
 have e:l.take (i+1)=l.take i++ [l.getD i z]:=by
  rw [List.take_add_one,List.getElem?_eq_getElem h,List.getD_eq_getElem?_getD,List.getElem?_eq_getElem h];rfl
 rw [e,List.filter_append];by_cases hp:p (l.getD i z)=true
 · rw [if_pos hp,List.filter_cons_of_pos hp];rfl
 · rw [if_neg hp,List.filter_cons_of_neg hp];simp
theorem filter_len{α:Type}(p:α ->Bool)(l:List α)(i:Nat):((l.take i).filter p).length<=i:=Nat.le_trans (List.length_filter_le _ _) (by rw [List.length_take];omega)
theorem Order_ok(l:List Rs)(hl:l.length<=10000):OkF prog 39 [rssC l] 62 17 (rss (sd cmpR (l.filter okR))):=by
 refine OkF.enter func39 J _ ntmps39 J ?_
 intro S w;refine Qj 14 J (QV sRes.und J (Qq 4 J (Xo 3 0 62 17 J J J ?_)))
 refine QY (α:=Nat) (fun i=>i<=l.length)
  (fun i=>[(3, .own 0),(6, .ct (rssC l)),(7, .ct (intC l.length)),(8, .ct (intC i))]) (fun i=>[(0, .row 62 17 (rss ((l.take i).filter okR)))]) (fun i=>l.length - i) 0 (Nat.zero_le _) (by exact Qx J) ?_
 intro i hi
 try dsimp only at hi
 try dsimp only
 refine Qj 6 J ?_;refine Qy J (fun h=> ?_) (fun h=> ?_)
 · have e2:(i:Int).toNat=i:=Int.toNat_natCast i;have hs:=filter_take okR (z:=rs0) (i:=i) (l:=l) (by omega);have hfl:=filter_len okR l i;refine Qj 6 J (Q8 rs0 sRes J (by omega) ?_);refine Qq 8 J ?_;rw [e2];generalize l.getD i rs0=c at hs;refine Ye (gT J) J (ValidR_ok c) J J J J (Qq 2 J ?_);refine Xx J (fun h2=> ?_) (fun h2=> ?_)
   · rw [if_pos h2] at hs;refine Qj 3 J ?_;generalize (l.take i).filter okR=out at hs hfl ⊢
     refine Zv (n:=17) J J sRes J J (by decide) J ?_;refine QJ out.length (rss (out++ [c])) J J J J sRes (rss_len out) J (by omega) (by omega) (rss_snoc out c) J ?_;refine QZ 8 J (by omega) ?_;refine Qc 1 (Qk (i+1) (by omega) (by omega) (by rw [hs];exact Qx J))
   · rw [if_neg (by rw [h2];decide)] at hs;refine Xz 7 J (by omega) ?_;refine Qc 1 (Qk (i+1) (by omega) (by omega) (by rw [hs];exact Qx J))
 · have hi' :i=l.length:=by omega
   rw [hi',List.take_length];have hfl:(l.filter okR).length<=l.length:=List.length_filter_le _ _;generalize l.filter okR=m at hfl ⊢;refine Qj 5 J (Ops.callL (gT J) (SortR_ok m (by omega)) J J J J J ?_);refine Qq 5 J (Ops.callT (gT J) (Compact_Rs_ok _ (by rw [List.length_mergeSort];omega)) J J J J J ?_);refine Qq 4 J ?_;refine Fin.retF J J J J
end Go.Proofs.YtfimckpnnbibcaaGreat
namespace Go.Proofs.YtfimckpnnbibcaaGreat
open Go.Limbs Go.Own Go.Proofs.Tryz
attribute [local irreducible] Go.Own.Fin Ok OkB OkF OkL OkN OkT Ops St
theorem Usable_ok(r:Rs):Ok prog 51 [rsC r] (boolC (usR r)):=by
 have hV:=ValidR_ok r;have e0:usR r=(!r.db&&okR r):=rfl;generalize okR r=b at hV e0
 refine Ok.enter func51 J _ ntmps51 J ?_
 intro S w;refine Qj 12 J (Xk 6 (b:= !r.db) J (fun h=> ?_) (fun h=> ?_))
 · refine Qq 1 J (Qv (gT J) hV J (Qq 5 J ?_));refine Qw J (by rw [e0,h,Bool.true_and];rfl)
 · refine Qq 7 J ?_;refine Qw J (by rw [e0,h,Bool.false_and];rfl)
theorem Final_ok(r:Rs):Ok prog 211 [rsC r] (boolC (fiR r)):=by
 have hU:=Usable_ok r;have e0:fiR r=(r.an&&(decide (r.ki≠1)&&usR r)):=rfl;generalize usR r=b at hU e0
 refine Ok.enter func211 J _ ntmps211 J ?_
 intro S w;refine Qj 11 J (Xk 5 (b:=r.an) J (fun h=> ?_) (fun h=> ?_))
 · refine Qq 6 J (QQ 11 (p:=r.ki≠1) J (fun h2=> ?_) (fun h2=> ?_))
   · refine Qq 1 J (Qv (gT J) hU J (Qq 5 J ?_));refine Qw J (by rw [e0,h,decide_eq_true h2,Bool.true_and,Bool.true_and];rfl)
   · refine Qq 7 J ?_;refine Qw J (by rw [e0,h,decide_eq_false h2,Bool.true_and,Bool.false_and];rfl)
 · refine Qq 13 J ?_;refine Qw J (by rw [e0,h,Bool.false_and];rfl)
abbrev tkCs (t : Tk) : List CT := [intC t.va, adrF t.ds, intC t.pr]
abbrev tkC (t : Tk) : CT := .agg (tkCs t)
theorem TraceOf_ok(r:Rs):Ok prog 52 [rsC r] (tkC (trOf r)):=by
 refine Ok.enter func52 J _ ntmps52 J ?_
 intro S w;refine Qj 19 J ?_;refine Fin.end [_] rfl (Qi (n:=3) J J lTrace J Q3) J J
structure Ik where
  va : Int
  ru : Int
  nu : Int
deriving DecidableEq
def idOf (r : Rs) : Ik := ⟨r.va, r.ru, r.nu⟩
abbrev ikCs (i : Ik) : List CT := [intC i.va, intC i.ru, intC i.nu]
abbrev ikC (i : Ik) : CT := .agg (ikCs i)
theorem lID:LdN prog 87 3:=LdN.of _ underlying87 rfl (by kernel_rfl)
theorem Identity_ok(r:Rs):Ok prog 25 [rsC r] (ikC (idOf r)):=by
 refine Ok.enter func25 J _ ntmps25 J ?_
 intro S w;refine Qj 19 J ?_;refine Fin.end [_] rfl (Qi (n:=3) J J lID J Q3) J J
theorem foldl_take{α β:Type}(f:β ->α ->β)(b:β){l:List α}{z:α}{i:Nat}(h:i<l.length):(l.take (i+1)).foldl f b=f ((l.take i).foldl f b) (l.getD i z):=by
 have e:l.take (i+1)=l.take i++ [l.getD i z]:=by
  rw [List.take_add_one,List.getElem?_eq_getElem h,List.getD_eq_getElem?_getD,List.getElem?_eq_getElem h];rfl
 rw [e,List.foldl_append];rfl
theorem End_ok(l:List Rs)(hl:l.length<=100000):Ok prog 161 [rssC l] (intC (endF l)):=by
 refine Ok.enter func161 J _ ntmps161 J ?_
 intro S w;refine Qj 14 J (QV sRes.und J (Qq 4 J ?_))
 refine QY (α:=Nat) (fun i=>i<=l.length)
  (fun i=>[(3, .ct (intC ((l.take i).foldl endS 0))),(6, .ct (rssC l)),(7, .ct (intC l.length)),(8, .ct (intC i))]) (fun _=>[]) (fun i=>l.length - i) 0 (Nat.zero_le _) (by exact Qx J) ?_
 intro i hi
 try dsimp only at hi ⊢
 refine Qj 6 J ?_;refine Qy J (fun h=> ?_) (fun h=> ?_)
 · have e2:(i:Int).toNat=i:=Int.toNat_natCast i;have hs:=foldl_take endS 0 (z:=rs0) (l:=l) (i:=i) (by omega);generalize (l.take i).foldl endS 0=e at hs
   have next:∀e' :Int,endS e (l.getD i rs0)=e' ->(l.take (i+1)).foldl endS 0=e' :=fun e' h=>by rw [hs,h]
   clear hs;refine Qj 6 J (Q8 rs0 sRes J (by omega) ?_);refine Qq 10 J ?_;rw [e2];generalize l.getD i rs0=c at next;have hF:=Final_ok c
   have es:endS e c=if (e=0 \/c.tt<e)/\ fiR c=true then c.tt else e:=rfl
   generalize fiR c=fb at hF es;refine QQ 14 (p:=e=0) J (fun h1=> ?_) (fun h1=> ?_)
   · refine Qq 7 J (Qv (gT J) hF J (Qq 3 J ?_));refine Xx J (fun h2=> ?_) (fun h2=> ?_)
     · have en:=next c.tt (by rw [es,if_pos ⟨.inl h1,h2⟩]);refine Xz 11 J (by omega) ?_;refine Qc 0 (Qk (i+1) (by omega) (by omega) (by rw [en];exact Qx J))
     · have en:=next e (by rw [es,if_neg (fun h3=>by rw [h2] at h3;exact absurd h3.2 (by decide))]);refine Xz 7 J (by omega) ?_;refine Qc 0 (Qk (i+1) (by omega) (by omega) (by rw [en];exact Qx J))
   · refine Qq 6 J (QQ 20 (p:=c.tt<e) J (fun h3=> ?_) (fun h3=> ?_))
     · refine Qq 1 J (Qv (gT J) hF J (Qq 3 J ?_));refine Xx J (fun h2=> ?_) (fun h2=> ?_)
       · have en:=next c.tt (by rw [es,if_pos ⟨.inr h3,h2⟩]);refine Xz 11 J (by omega) ?_;refine Qc 0 (Qk (i+1) (by omega) (by omega) (by rw [en];exact Qx J))
       · have en:=next e (by rw [es,if_neg (fun h3=>by rw [h2] at h3;exact absurd h3.2 (by decide))]);refine Xz 7 J (by omega) ?_;refine Qc 0 (Qk (i+1) (by omega) (by omega) (by rw [en];exact Qx J))
     · have en:=next e (by rw [es,if_neg (fun h4=>h4.1.elim h1 h3)]);refine QZ 13 J (by omega) ?_;refine Qc 0 (Qk (i+1) (by omega) (by omega) (by rw [en];exact Qx J))
 · have hi' :i=l.length:=by omega
   have el:(l.take i).foldl endS 0=endF l:=by rw [hi',List.take_length];rfl
   rw [el];refine Qj 9 J ?_;refine Qw J J
def tk0 : Tk := ⟨0, 0, 0⟩
instance : Inhabited Tk := ⟨tk0⟩
abbrev wr0 : Wr := (0, 0)
abbrev wrCs (x : Wr) : List CT := [adrF x.1, adrF x.2]
abbrev wrC (x : Wr) : CT := .agg (wrCs x)
def wrI (x : Wr) : List Int := [(x.1.val : Int), (x.2.val : Int)]
theorem lWire:LdN prog 42 2:=LdN.of _ underlying42 rfl (by kernel_rfl)
theorem szWire:(prog.info? 42).map (·.size)=some 2:=by kernel_rfl
theorem zvWire:(prog.info? 42).map (·.zero)=some (some (.agg #[.int .u32 0, .int .u32 0])):=by kernel_rfl
theorem tkI_inj(x y:Tk)(h:tkI x=tkI y):x=y:=by
 obtain ⟨a1,a2,a3⟩:=x;obtain ⟨b1,b2,b3⟩:=y;simp only [tkI,List.cons.injEq,and_true,Int.ofNat_inj,Fin.val_inj] at h;obtain ⟨h1,h2,h3⟩:=h;rw [h1,h2,h3]
theorem wrI_inj(x y:Wr)(h:wrI x=wrI y):x=y:=by
 obtain ⟨a1,a2⟩:=x;obtain ⟨b1,b2⟩:=y;simp only [wrI,List.cons.injEq,and_true,Int.ofNat_inj,Fin.val_inj] at h;obtain ⟨h1,h2⟩:=h;rw [h1,h2]
theorem tk_len(x:Tk):(tkCs x).length=3:=rfl
abbrev tksC (l : List Tk) : CT := .fr (sliceT 3 (l.map tkCs))
def tks (l : List Tk) : List CT := (l.map tkCs).flatten
theorem tks_frozen(e:Nat)(l:List Tk):(Ent.row e 3 (tks l)).frozen (.fr (sliceT 3 (l.map tkCs))):=
 ⟨_,rfl,fun e he=>by obtain ⟨m,_,rfl⟩:=List.mem_map.mp he;rfl,by decide,rfl⟩
theorem tks_len(l:List Tk):(tks l).length=l.length*3:=el_len tk_len l
theorem tks_snoc(l:List Tk)(r:Tk):tks (l++ [r])=tks l++tkCs r:=by simp [tks]
theorem tks_take(l:List Tk)(i:Nat):(tks l).take (i*3)=tks (l.take i):=el_take tk_len l i
theorem sTks:SlcT prog 124 111 3 24 (.agg #[.int .i64 0, .int .u32 0, .int .i64 0]):=SlcT.of underlying124 (by kernel_rfl) rfl (by decide)
theorem eTk:EqS prog 111 [.i64, .u32, .i64]:=⟨by kernel_rfl,by kernel_rfl,by kernel_rfl,by kernel_rfl⟩
theorem tk_inj{x y:Tk}:(tkI x=tkI y)↔x=y:=⟨tkI_inj _ _,fun h=>by rw [h]⟩
theorem keyTk:KeyT prog 111 (fun x:Tk=>Go.Own.encI [.i64, .u32, .i64] (tkI x)):=eTk.flat.key tkI (fun _=>rfl) (fun _ _=>tk_inj.1)
section
variable {X : Ctx} {L : AL} {B : BL} {ops : Array Oper} {K : Act → World → Prop} {r : Pl} {k : Kd}
  {x y z : Operand} {d : Nat} {t t2 t' : TypeId} {pos : String} {af : Array Edge} {g : Option (Nat × Bool)}
theorem eqTk(p q:Tk)(hg:gd ops L g=some true)(hx:ev L x=some (.ct (.agg (tkCs p))))(hy:ev L y=some (.ct (.agg (tkCs q))))(hP:X.P=prog)(hn:Nat.blt d X.n=true)
  (h:Ops X ops r ((d, .ct (boolC (decide (p=q))))::L) B K):Ops X ops (.cons ⟨some d, .binOp .eql 111 x y t2,t',pos,af,g⟩ k r) L B K:=
 Ops.eqS (ks:=[.i64, .u32, .i64]) (tkI p) (tkI q) hg hx hy rfl rfl (hP▸eTk) hn (by rw [decide_eq_decide.2 tk_inj];exact h)
theorem neTk(p q:Tk)(hg:gd ops L g=some true)(hx:ev L x=some (.ct (.agg (tkCs p))))(hy:ev L y=some (.ct (.agg (tkCs q))))(hP:X.P=prog)(hn:Nat.blt d X.n=true)
  (h:Ops X ops r ((d, .ct (boolC (decide (¬p=q))))::L) B K):Ops X ops (.cons ⟨some d, .binOp .neq 111 x y t2,t',pos,af,g⟩ k r) L B K:=
 Ops.neS (ks:=[.i64, .u32, .i64]) (tkI p) (tkI q) hg hx hy rfl rfl (hP▸eTk) hn (by rw [decide_eq_decide.2 tk_inj,<- decide_not];exact h)
end
theorem ik_len(x:Ik):(ikCs x).length=3:=rfl
abbrev iksC (l : List Ik) : CT := .fr (sliceT 3 (l.map ikCs))
def iks (l : List Ik) : List CT := (l.map ikCs).flatten
theorem iks_frozen(e:Nat)(l:List Ik):(Ent.row e 3 (iks l)).frozen (.fr (sliceT 3 (l.map ikCs))):=
 ⟨_,rfl,fun e he=>by obtain ⟨m,_,rfl⟩:=List.mem_map.mp he;rfl,by decide,rfl⟩
theorem iks_len(l:List Ik):(iks l).length=l.length*3:=el_len ik_len l
theorem iks_snoc(l:List Ik)(r:Ik):iks (l++ [r])=iks l++ikCs r:=by simp [iks]
theorem sIks:SlcT prog 36 87 3 24 (.agg #[.int .i64 0, .int .i64 0, .int .i64 0]):=SlcT.of underlying36 (by kernel_rfl) rfl (by decide)
theorem wr_len(x:Wr):(wrCs x).length=2:=rfl
abbrev wrsC (l : List Wr) : CT := .fr (sliceT 2 (l.map wrCs))
def wrs (l : List Wr) : List CT := (l.map wrCs).flatten
theorem wrs_frozen(e:Nat)(l:List Wr):(Ent.row e 2 (wrs l)).frozen (.fr (sliceT 2 (l.map wrCs))):=
 ⟨_,rfl,fun e he=>by obtain ⟨m,_,rfl⟩:=List.mem_map.mp he;rfl,by decide,rfl⟩
theorem wrs_len(l:List Wr):(wrs l).length=l.length*2:=el_len wr_len l
theorem wrs_app(l m:List Wr):wrs (l++m)=wrs l++wrs m:=by simp [wrs]
theorem wrs_snoc(l:List Wr)(r:Wr):wrs (l++ [r])=wrs l++wrCs r:=by simp [wrs]
theorem wrs_take(l:List Wr)(i:Nat):(wrs l).take (i*2)=wrs (l.take i):=el_take wr_len l i
theorem sWrs:SlcT prog 66 42 2 8 (.agg #[.int .u32 0, .int .u32 0]):=SlcT.of underlying66 (by kernel_rfl) rfl (by decide)
theorem eWr:EqS prog 42 [.u32, .u32]:=⟨by kernel_rfl,by kernel_rfl,by kernel_rfl,by kernel_rfl⟩
theorem wr_inj{x y:Wr}:(wrI x=wrI y)↔x=y:=⟨wrI_inj _ _,fun h=>by rw [h]⟩
section
variable {X : Ctx} {L : AL} {B : BL} {ops : Array Oper} {K : Act → World → Prop} {r : Pl} {k : Kd}
  {x y z : Operand} {d : Nat} {t t2 t' : TypeId} {pos : String} {af : Array Edge} {g : Option (Nat × Bool)}
theorem eqWr(p q:Wr)(hg:gd ops L g=some true)(hx:ev L x=some (.ct (.agg (wrCs p))))(hy:ev L y=some (.ct (.agg (wrCs q))))(hP:X.P=prog)(hn:Nat.blt d X.n=true)
  (h:Ops X ops r ((d, .ct (boolC (decide (p=q))))::L) B K):Ops X ops (.cons ⟨some d, .binOp .eql 42 x y t2,t',pos,af,g⟩ k r) L B K:=
 Ops.eqS (ks:=[.u32, .u32]) (wrI p) (wrI q) hg hx hy rfl rfl (hP▸eWr) hn (by rw [decide_eq_decide.2 wr_inj];exact h)
theorem neWr(p q:Wr)(hg:gd ops L g=some true)(hx:ev L x=some (.ct (.agg (wrCs p))))(hy:ev L y=some (.ct (.agg (wrCs q))))(hP:X.P=prog)(hn:Nat.blt d X.n=true)
  (h:Ops X ops r ((d, .ct (boolC (decide (¬p=q))))::L) B K):Ops X ops (.cons ⟨some d, .binOp .neq 42 x y t2,t',pos,af,g⟩ k r) L B K:=
 Ops.neS (ks:=[.u32, .u32]) (wrI p) (wrI q) hg hx hy rfl rfl (hP▸eWr) hn (by rw [decide_eq_decide.2 wr_inj,<- decide_not];exact h)
end
set_option maxHeartbeats 4000000 in
theorem Compact_Tk_ok (l : List Tk) (hl : l.length ≤ 100000) : OkT prog 101 111 3 (tks l) [] (tks (dd l)) := by
  refine OkT.enter func101 J _ ntmps101 J ?_
  intro S w h0; refine Qj 1 J (Xj fun K hK => ?_); refine Q2 2 J (hK _ _ (Xs 3 J ?_)); clear hK K; refine Xj (fun K hK => ?_); refine Q2 1 J (Yy l.length J J J (by decide) (tks_len l) sTks.und J ?_); refine Q2 2 J (hK _ _ (Xs 1 J ?_)); clear hK K; refine Qy J (fun h => ?_) (fun h => ?_)
  · rw [dd_small (l := l) (by omega)]; refine Qj 1 J (Xj fun K hK => ?_); refine Q2 3 J (hK _ _ (Xs 2 J ?_)); clear hK K; refine Ju J J J
  refine Qj 4 J (Xj fun K hK => ?_); refine Q2 2 J (hK _ _ (Xs 2 J ?_)); clear hK K
  refine QY (α := Nat) (fun i => i + 1 ≤ l.length ∧ dd (l.take (i + 1)) = l.take (i + 1))
    (fun i => [(0, .own 0), (3, .ct (intC (i + 1)))]) (fun _ => [(0, .row 111 3 (tks l))]) (fun i => l.length - i) 0 ⟨by omega, dd_small (by rw [List.length_take]; omega)⟩ (by exact Qx J) ?_
  rintro i ⟨hi, hd⟩
  try dsimp only at hi hd
  try dsimp only
  refine Qj 2 J (Xj fun K hK => ?_); refine Q2 2 J (Yy l.length J J J (by decide) (tks_len l) sTks.und J ?_); refine Q2 2 J (hK _ _ (Xs 1 J ?_)); clear hK K; refine Qy J (fun h => ?_) (fun h => ?_); rotate_left
  · have e : dd l = l := by
      have := hd; rw [List.take_of_length_le (by omega)] at this; exact this
    rw [e]; refine Qj 3 J (Xj fun K hK => ?_); refine Q2 3 J (hK _ _ (Xs 2 J ?_)); clear hK K; refine Ju J J J
  refine Qj 5 J ?_; refine YU mixed 10 0x8009282307060504020100 J (by kernel_rfl) (fun K hK => ?_); refine Q2 2 J (Qf l.length J J J (tks_len l) J sTks (by omega) (by omega) J ?_); refine Zf 3 J (by omega) ?_; refine Qf l.length J J J (tks_len l) J sTks (by omega) (by omega) J ?_; refine ldE tkCs tk0 tk_len J J J J J (by omega) lTrace J ?_; refine ldE tkCs tk0 tk_len J J J J J (by omega) lTrace J ?_
  rw [show ((i : Int) + 1).toNat = i + 1 by omega, show ((i : Int) + 1 - 1).toNat = i by omega]; generalize hx : l.getD i tk0 = x; generalize hy : l.getD (i + 1) tk0 = y; refine eqTk y x J J J J J (Qz (hK _ _ (Qt ?_))); clear hK K; have hs := dd_step (l := l) (z := tk0) (p := i + 1) (by omega) (by omega); rw [show i + 1 - 1 = i by omega, hx, hy] at hs; refine Qy J (fun he => ?_) (fun he => ?_); rotate_left
  · refine Qj 2 J (Xj fun K hK => ?_); refine Zf 4 J (by omega) ?_; refine hK _ _ (Xs 1 J ?_); clear hK K; refine Qk (i + 1) (by omega) ⟨by omega, ?_⟩ (by exact Qx J); rw [hs, if_neg he, hd, List.take_add_one (i := i + 1), List.getElem?_eq_getElem (by omega), ← hy, List.getD_eq_getElem?_getD, List.getElem?_eq_getElem (by omega)]; rfl
  rw [if_pos he, hd] at hs; refine St.nameS 0 0 l.length J J (tks_len l) (by omega) (by decide) (fun gb c hc1 hc2 => ?_); refine Qj 1 J (Xj fun K hK => ?_); refine Q2 2 J (Yq (i + 1) J J J (by omega) sTks (by omega) J ?_); rw [if_neg (show ¬ c = i + 1 by omega), Nat.zero_add]; refine Q2 2 J (hK _ _ (Xs 3 J ?_)); clear hK K; refine Xj (fun K hK => ?_); refine Q2 2 J (hK _ _ (Xs 2 J ?_)); clear hK K
  refine QY (α := Nat) (fun j => i + 2 + j ≤ l.length ∧ (dd (l.take (i + 2 + j))).length < i + 2 + j)
    (fun j => [(0, .ct (.ex (kh gb 0 l.length c))), (3, .ct (intC (dd (l.take (i + 2 + j))).length)), (4, .ct (.ex (kh gb ((i + 1) * 3) (l.length - (i + 1)) (c - (i + 1))))), (5, .ct (intC (j + 1)))])
    (fun j => [(0, .rowx (kh gb 0 l.length c) 111 3 (tks (dd (l.take (i + 2 + j)) ++ l.drop (dd (l.take (i + 2 + j))).length)))]) (fun j => l.length - j) 0
    ⟨by omega, by rw [Nat.add_zero, hs, List.length_take]; omega⟩ (by
      rw [Nat.add_zero, hs, List.length_take, Nat.min_eq_left hi, List.take_append_drop]
      exact Qx J) ?_
  clear hs
  rintro j ⟨hj, hD⟩
  try dsimp only at hj hD
  try dsimp only
  have hs := dd_step (l := l) (z := tk0) (p := i + 2 + j) (by omega); generalize hDD : dd (l.take (i + 2 + j)) = D at hs hD ⊢
  have hrl : (D ++ l.drop D.length).length = l.length := by rw [List.length_append, List.length_drop]; omega
  have hat : ∀ q, D.length ≤ q → (D ++ l.drop D.length).getD q tk0 = l.getD q tk0 := fun q hq => row_at D l q tk0 hq
  refine Qj 2 J (Xj fun K hK => ?_); refine Q2 2 J (YK J J sTks.und J (Q2 2 J (hK _ _ (Xs 1 J ?_)))); clear hK K; refine Qy J (fun h2 => ?_) (fun h2 => ?_)
  · refine Qj 5 J ?_; refine YU mixed 10 0x8009282307060504020100 J (by kernel_rfl) (fun K hK => ?_); refine Q2 2 J (Zt 0 (i + 1) J J J J sTks (by omega) (by omega) J ?_); refine Zf 3 J (by omega) ?_; refine Zt 0 (i + 1) J J J J sTks (by omega) (by omega) J ?_; refine ldE tkCs tk0 tk_len J J J J J (by omega) lTrace J ?_; refine ldE tkCs tk0 tk_len J J J J J (by omega) lTrace J ?_
    rw [show i + 1 + ((j : Int) + 1).toNat = i + 2 + j by omega, show i + 1 + ((j : Int) + 1 - 1).toNat = i + 2 + j - 1 by omega, hat _ (by omega), hat _ (by omega)]; have hs := hs (by omega); generalize hx2 : l.getD (i + 2 + j - 1) tk0 = x2 at hs ⊢; generalize hy2 : l.getD (i + 2 + j) tk0 = y2 at hs ⊢; refine neTk y2 x2 J J J J J (Qz (hK _ _ (Qt ?_))); clear hK K; refine Qy J (fun he2 => ?_) (fun he2 => ?_)
    · rw [if_neg he2] at hs; refine Qj 1 J (Xj fun K hK => ?_); refine Q2 4 J (Zt 0 (i + 1) J J J J sTks (by omega) (by omega) J ?_); refine ldE tkCs tk0 tk_len J J J J J (by omega) lTrace J ?_
      rw [show i + 1 + ((j : Int) + 1).toNat = i + 2 + j by omega, hat _ (by omega), hy2]
      refine Zt 0 0 J J J J sTks (by omega) (by omega) J ?_
      rw [Nat.zero_add, show ((D.length : Int)).toNat = D.length by omega]
      refine stEX tkCs y2 tk_len J J J J J (by omega) szTrace ?_
      rw [row_set D l y2 (by omega)]; refine Qz (hK _ _ (Xs 1 J ?_)); clear hK K; refine Xj (fun K hK => ?_); refine Zf 4 J (by omega) ?_; refine hK _ _ (Xs 1 J ?_); clear hK K; refine Xj (fun K hK => ?_); refine Zf 4 J (by omega) ?_; refine hK _ _ (Xs 1 J ?_); clear hK K
      refine Qk (j + 1) (by omega) ⟨by omega, by show (dd (l.take (i + 2 + j + 1))).length < _; rw [hs, List.length_append]; show D.length + 1 < _; omega⟩ ?_
      rw [show i + 2 + (j + 1) = i + 2 + j + 1 by omega, hs, List.length_append]; exact Qx J
    · rw [if_pos (Decidable.not_not.1 he2)] at hs; refine Qj 2 J (Xj fun K hK => ?_); refine Zf 4 J (by omega) ?_; refine hK _ _ (Xs 1 J ?_); clear hK K
      refine Qk (j + 1) (by omega) ⟨by omega, by show (dd (l.take (i + 2 + j + 1))).length < _; rw [hs]; omega⟩ ?_
      rw [show i + 2 + (j + 1) = i + 2 + j + 1 by omega, hs]; exact Qx J
  · have e : dd l = D := by rw [← hDD, List.take_of_length_le (by omega)]
    rw [e]; refine Qj 3 J (Xj fun K hK => ?_); refine Q2 2 J (Yq D.length J J J J sTks (by omega) J ?_); refine Ops.cutOff 0 D.length J (by show (tks _).length = _; rw [tks_len, hrl]) (by decide) (by omega) (by show (tks _).take _ = tks D; rw [tks_take, List.take_left]) ?_; refine Ops.clearK 0 J J (by split <;> omega) J (tks_len D) (by omega) sTks (by decide) ?_; refine Qz (hK _ _ (Xs 2 J ?_)); clear hK K; refine Xj (fun K hK => ?_); refine Q2 2 J (Jy D.length J J J J sTks (by omega) J ?_); refine Q2 2 J (hK _ _ (Xs 2 J ?_)); clear hK K; refine Fin.link 2 0 J J (Ju J J J)
theorem Compact_Wr_ok(l:List Wr)(hl:l.length<=1000000000):OkT prog 42 42 2 (wrs l) [] (wrs (dd l)):=by
 refine OkT.enter func42 J _ ntmps42 J ?_
 intro S w h0;refine Qj 9 J (Yy l.length J J J (by decide) (wrs_len l) sWrs.und J ?_);refine Qq 3 J ?_;refine Qy J (fun h=> ?_) (fun h=> ?_)
 · rw [dd_small (l:=l) (by omega)];refine Qj 7 J ?_;refine Ju J J J
 refine Qj 9 J ?_
 refine QY (α:=Nat) (fun i=>i+1<=l.length/\ dd (l.take (i+1))=l.take (i+1))
  (fun i=>[(0, .own 0),(3, .ct (intC (i+1)))]) (fun _=>[(0, .row 42 2 (wrs l))]) (fun i=>l.length - i) 0 ⟨by omega,dd_small (by rw [List.length_take];omega)⟩ (by exact Qx J) ?_
 rintro i ⟨hi,hd⟩
 try dsimp only at hi hd
 try dsimp only
 refine Qj 5 J (Yy l.length J J J (by decide) (wrs_len l) sWrs.und J ?_);refine Qq 3 J ?_;refine Qy J (fun h=> ?_) (fun h=> ?_);rotate_left
 · have e:dd l=l:=by
    have:=hd;rw [List.take_of_length_le (by omega)] at this;exact this
   rw [e];refine Qj 9 J ?_;refine Ju J J J
 refine Qj 5 J (XY 10 0x8009282307060504020100 J ?_);refine Qq 2 J (Qf l.length J J J (wrs_len l) J sWrs (by omega) (by omega) J ?_);refine QZ 3 J (by omega) ?_;refine Qf l.length J J J (wrs_len l) J sWrs (by omega) (by omega) J ?_;refine ldE wrCs wr0 wr_len J J J J J (by omega) lWire J ?_;refine ldE wrCs wr0 wr_len J J J J J (by omega) lWire J ?_
 rw [show ((i:Int)+1).toNat=i+1 by omega,show ((i:Int)+1 - 1).toNat=i by omega];generalize hx:l.getD i wr0=x;generalize hy:l.getD (i+1) wr0=y;refine eqWr y x J J J J J (Qz (Qt ?_));have hs:=dd_step (l:=l) (z:=wr0) (p:=i+1) (by omega) (by omega);rw [show i+1 - 1=i by omega,hx,hy] at hs;refine Qy J (fun he=> ?_) (fun he=> ?_);rotate_left
 · refine Xz 8 J (by omega) ?_;refine Qk (i+1) (by omega) ⟨by omega,?_⟩ (by exact Qx J);rw [hs,if_neg he,hd,List.take_add_one (i:=i+1),List.getElem?_eq_getElem (by omega),<- hy,List.getD_eq_getElem?_getD,List.getElem?_eq_getElem (by omega)];rfl
 rw [if_pos he,hd] at hs;refine St.nameS 0 0 l.length J J (wrs_len l) (by omega) (by decide) (fun gb c hc1 hc2=> ?_);refine Qj 4 J (Yq (i+1) J J J (by omega) sWrs (by omega) J ?_);rw [if_neg (show ¬c=i+1 by omega),Nat.zero_add];refine Qq 10 J ?_
 refine QY (α:=Nat) (fun j=>i+2+j<=l.length/\ (dd (l.take (i+2+j))).length<i+2+j)
  (fun j=>[(0, .ct (.ex (kh gb 0 l.length c))),(3, .ct (intC (dd (l.take (i+2+j))).length)),(4, .ct (.ex (kh gb ((i+1)*2) (l.length - (i+1)) (c - (i+1))))),(5, .ct (intC (j+1)))])
  (fun j=>[(0, .rowx (kh gb 0 l.length c) 42 2 (wrs (dd (l.take (i+2+j))++l.drop (dd (l.take (i+2+j))).length)))]) (fun j=>l.length - j) 0
  ⟨by omega,by rw [Nat.add_zero,hs,List.length_take];omega⟩ (by
   rw [Nat.add_zero,hs,List.length_take,Nat.min_eq_left hi,List.take_append_drop]
   exact Qx J) ?_
 clear hs
 rintro j ⟨hj,hD⟩
 try dsimp only at hj hD
 try dsimp only
 have hs:=dd_step (l:=l) (z:=wr0) (p:=i+2+j) (by omega);generalize hDD:dd (l.take (i+2+j))=D at hs hD ⊢
 have hrl:(D++l.drop D.length).length=l.length:=by rw [List.length_append,List.length_drop];omega
 have hat:∀q,D.length<=q ->(D++l.drop D.length).getD q wr0=l.getD q wr0:=fun q hq=>row_at D l q wr0 hq
 refine Qj 5 J (YK J J sWrs.und J (Qq 3 J ?_));refine Qy J (fun h2=> ?_) (fun h2=> ?_)
 · refine Qj 5 J (XY 10 0x8009282307060504020100 J ?_);refine Qq 2 J (Zt 0 (i+1) J J J J sWrs (by omega) (by omega) J ?_);refine QZ 3 J (by omega) ?_;refine Zt 0 (i+1) J J J J sWrs (by omega) (by omega) J ?_;refine ldE wrCs wr0 wr_len J J J J J (by omega) lWire J ?_;refine ldE wrCs wr0 wr_len J J J J J (by omega) lWire J ?_
   rw [show i+1+((j:Int)+1).toNat=i+2+j by omega,show i+1+((j:Int)+1 - 1).toNat=i+2+j - 1 by omega,hat _ (by omega),hat _ (by omega)];have hs:=hs (by omega);generalize hx2:l.getD (i+2+j - 1) wr0=x2 at hs ⊢;generalize hy2:l.getD (i+2+j) wr0=y2 at hs ⊢;refine neWr y2 x2 J J J J J (Qz (Qt ?_));refine Qy J (fun he2=> ?_) (fun he2=> ?_)
   · rw [if_neg he2] at hs;refine Qj 6 J (Zt 0 (i+1) J J J J sWrs (by omega) (by omega) J ?_);refine ldE wrCs wr0 wr_len J J J J J (by omega) lWire J ?_
     rw [show i+1+((j:Int)+1).toNat=i+2+j by omega,hat _ (by omega),hy2]
     refine Zt 0 0 J J J J sWrs (by omega) (by omega) J ?_
     rw [Nat.zero_add,show ((D.length:Int)).toNat=D.length by omega]
     refine stEX wrCs y2 wr_len J J J J J (by omega) szWire ?_
     rw [row_set D l y2 (by omega)];refine QZ 14 J (by omega) ?_;refine Qk (j+1) (by omega) ⟨by omega,by show (dd (l.take (i+2+j+1))).length<_;rw [hs,List.length_append];show D.length+1<_;omega⟩ ?_
     rw [show i+2+(j+1)=i+2+j+1 by omega,hs,List.length_append];exact Qx J
   · rw [if_pos (Decidable.not_not.1 he2)] at hs;refine Xz 8 J (by omega) ?_;refine Qk (j+1) (by omega) ⟨by omega,by show (dd (l.take (i+2+j+1))).length<_;rw [hs];omega⟩ ?_
     rw [show i+2+(j+1)=i+2+j+1 by omega,hs];exact Qx J
 · have e:dd l=D:=by rw [<- hDD,List.take_of_length_le (by omega)]
   rw [e];refine Qj 6 J (Yq D.length J J J J sWrs (by omega) J ?_);refine Ops.cutOff 0 D.length J (by show (wrs _).length=_;rw [wrs_len,hrl]) (by decide) (by omega) (by show (wrs _).take _=wrs D;rw [wrs_take,List.take_left]) ?_;refine Ops.clearK 0 J J (by split <;>omega) J (wrs_len D) (by omega) sWrs (by decide) ?_;refine Qq 6 J (Jy D.length J J J J sWrs (by omega) J ?_);refine Qq 4 J (Fin.link 2 0 J J (Ju J J J))
end Go.Proofs.YtfimckpnnbibcaaGreat
namespace Go.Proofs.YtfimckpnnbibcaaGreat
open Go.Own Go.Limbs Go.Shelf Go.Proofs.Tryz
open Go.Sort hiding Ok
attribute [local irreducible] St Ops Go.Own.Fin Ok OkB OkN OkT OkL OkF
theorem goTr1:InGo prog 99:=InGo.of func99 rfl (by decide)
theorem Tr1_ok(a b:Tk):Ok prog 99 [tkC a,tkC b] (intC (cmpT a b)):=by
 have e0:cmpT a b=firstN [cmp3 a.va b.va,cmp3 a.ds.val b.ds.val,cmp3 a.pr b.pr]:=by
  unfold cmpT tkI;simp only [cmpL,firstN]
 rw [e0];clear e0;have h1:=cm_ok a.va b.va;have h2:=cmA_ok (a.ds.val:Int) (b.ds.val:Int);have h3:=cm_ok a.pr b.pr;have hO:=Or_ok [cmp3 a.va b.va,cmp3 a.ds.val b.ds.val,cmp3 a.pr b.pr] (by simp);generalize cmp3 a.va b.va=c1 at h1 hO ⊢;generalize cmp3 (a.ds.val:Int) (b.ds.val:Int)=c2 at h2 hO ⊢;generalize cmp3 a.pr b.pr=c3 at h3 hO ⊢
 refine Ok.enter func99 J _ ntmps99 J ?_
 intro S w;refine Qj 8 J (XY 18 0x8011504f4e49442d2b282623210c0a07050200 J ?_);refine Qq 12 J (Qv (gT J) h1 J (Qv (gT J) h2 J (Qv (gT J) h3 J (Ops.litI [c1,c2,c3] rfl rfl sInts J ⟨rfl,rfl,rfl,rfl,rfl,rfl,trivial⟩ (by decide) J ?_))));refine Qv (gT J) hO J (Qq 4 J ?_);refine Qw J J
def tkV (t : Tk) : List Value := [.int .i64 t.va, .int .u32 t.ds.val, .int .i64 t.pr]
abbrev cmpTV : CT := .ex (.func (.func 99) #[] #[])
theorem SortT_ok(l:List Tk)(hl:l.length<4611686018427387904):OkL prog 98 111 3 (tks l) [cmpTV] unitC (tks (l.mergeSort fun x y=> !(ltOf cmpT) y x)):=
 sortFunc_L laySortT (enc:=tkV) (k:=3) (cf:=cmpT) (g:=99) (by decide) Tryz.isAgg111 Tryz.sizeOf111 (fun _=>rfl) (fun x v hv=>by
  simp only [tkV,List.mem_cons,List.not_mem_nil,or_false] at hv
  rcases hv with rfl|rfl|rfl <;>rfl)
  ordT.swo ordT.tot goTr1 Tr1_ok 111 l hl
def trsF (l : List Rs) : List Tk := sd cmpT ((l.filter okR).map trOf)
theorem Traces_ok(l:List Rs)(hl:l.length<=10000):OkF prog 49 [rssC l] 111 3 (tks (trsF l)):=by
 refine OkF.enter func49 J _ ntmps49 J ?_
 intro S w;refine Qj 14 J (QV sRes.und J (Qq 4 J (Xo 3 0 111 3 J J J ?_)))
 refine QY (α:=Nat) (fun i=>i<=l.length)
  (fun i=>[(3, .own 0),(6, .ct (rssC l)),(7, .ct (intC l.length)),(8, .ct (intC i))]) (fun i=>[(0, .row 111 3 (tks (((l.take i).filter okR).map trOf)))]) (fun i=>l.length - i) 0 (Nat.zero_le _) (by exact Qx J) ?_
 intro i hi
 try dsimp only at hi
 try dsimp only
 refine Qj 6 J ?_;refine Qy J (fun h=> ?_) (fun h=> ?_)
 · have e2:(i:Int).toNat=i:=Int.toNat_natCast i;have hs:=filter_take okR (z:=rs0) (i:=i) (l:=l) (by omega);have hfl:=filter_len okR l i;refine Qj 6 J (Q8 rs0 sRes J (by omega) ?_);refine Qq 8 J ?_;rw [e2];generalize l.getD i rs0=c at hs;refine Qv (gT J) (ValidR_ok c) J (Qq 2 J ?_);refine Xx J (fun h2=> ?_) (fun h2=> ?_)
   · rw [if_pos h2] at hs;refine Qj 3 J (Qv (gT J) (TraceOf_ok c) J ?_);generalize (l.take i).filter okR=out at hs hfl ⊢
     refine Zv (n:=3) J J sTks J J (by decide) J ?_;refine QJ (out.map trOf).length (tks (out.map trOf++ [trOf c])) J J J J sTks (tks_len _) J (by rw [List.length_map];omega) (by rw [List.length_map];omega) (tks_snoc _ _) J ?_;refine QZ 8 J (by omega) ?_;refine Qc 1 (Qk (i+1) (by omega) (by omega) (by rw [hs,List.map_append];exact Qx J))
   · rw [if_neg (by rw [h2];decide)] at hs;refine Xz 7 J (by omega) ?_;refine Qc 1 (Qk (i+1) (by omega) (by omega) (by rw [hs];exact Qx J))
 · have hi' :i=l.length:=by omega
   rw [hi',List.take_length]
   have hfl:((l.filter okR).map trOf).length<=l.length:=by rw [List.length_map];exact List.length_filter_le _ _
   unfold trsF;generalize (l.filter okR).map trOf=m at hfl ⊢;refine Qj 5 J (Ops.callL (gT J) (SortT_ok m (by omega)) J J J J J ?_);refine Qq 5 J (Ops.callT (gT J) (Compact_Tk_ok _ (by rw [List.length_mergeSort];omega)) J J J J J ?_);refine Qq 4 J ?_;refine Fin.retF J J J J
def ofF (l : List Rs) (t : Tk) : List Rs := (sd cmpR (l.filter okR)).filter fun r => decide (trOf r = t)
theorem Of_ok(l:List Rs)(t:Tk)(hl:l.length<=10000):OkF prog 50 [rssC l,tkC t] 62 17 (rss (ofF l t)):=by
 have hO:=Order_ok l hl
 have hol:(sd cmpR (l.filter okR)).length<=10000:=by
  have:=sd_len cmpR (l.filter okR);have:=List.length_filter_le okR l;omega
 unfold ofF;generalize sd cmpR (l.filter okR)=o at hO hol ⊢
 refine OkF.enter func50 J _ ntmps50 J ?_
 intro S w;refine Qj 15 J (Z7 3 (gT J) hO J J J J J J (Zw 3 _ J (rss_frozen _ _) noBor_sub (QV sRes.und J (Qq 4 J (Xo 5 1 62 17 J J J ?_)))))
 refine QY (α:=Nat) (fun i=>i<=o.length)
  (fun i=>[(3, .own 0),(5, .own 1),(9, .ct (rssC o)),(10, .ct (intC o.length)),(11, .ct (intC i))]) (fun i=>[(1, .row 62 17 (rss ((o.take i).filter fun r=>decide (trOf r=t)))),(0, .box 111 (tkCs t))]) (fun i=>o.length - i) 0 (Nat.zero_le _) (by exact Qx J) ?_
 intro i hi
 try dsimp only at hi
 try dsimp only
 refine Qj 6 J ?_;refine Qy J (fun h=> ?_) (fun h=> ?_)
 · have e2:(i:Int).toNat=i:=Int.toNat_natCast i;have hs:=filter_take (fun r=>decide (trOf r=t)) (z:=rs0) (i:=i) (l:=o) (by omega);have hfl:=filter_len (fun r=>decide (trOf r=t)) o i;refine Qj 6 J (Q8 rs0 sRes J (by omega) ?_);refine Qq 6 J ?_;rw [e2];generalize o.getD i rs0=c at hs;generalize (o.take i).filter (fun r=>decide (trOf r=t))=out at hs hfl ⊢;refine XY 4 0x8003412220 J ?_;refine Qq 2 J (Zy (gT J) (TraceOf_ok c) J J J J (eqTk (trOf c) t J J J J J (Qz (Qt ?_))));refine Qy J (fun h2=> ?_) (fun h2=> ?_)
   · rw [if_pos (decide_eq_true h2)] at hs;refine Qj 3 J (Zv (n:=17) J J sRes J J (by decide) J ?_);refine QJ out.length (rss (out++ [c])) J J J J sRes (rss_len out) J (by omega) (by omega) (rss_snoc out c) J ?_;refine QZ 8 J (by omega) ?_;refine Qc 2 (Qk (i+1) (by omega) (by omega) (by rw [hs];exact Qx J))
   · rw [if_neg (by rw [decide_eq_false h2];decide)] at hs;refine Xz 7 J (by omega) ?_;refine Qc 2 (Qk (i+1) (by omega) (by omega) (by rw [hs];exact Qx J))
 · have hi' :i=o.length:=by omega
   rw [hi',List.take_length];refine Qj 9 J ?_;refine Fin.retF J J J J
end Go.Proofs.YtfimckpnnbibcaaGreat
namespace Go.Proofs.YtfimckpnnbibcaaGreat
open Go.Limbs Go.Own Go.Proofs.Tryz
attribute [local irreducible] Go.Own.Fin Ok OkB OkF OkL OkM OkN OkT Ops St
abbrev Stm := Tk × Int
abbrev stmI (s : Stm) : List Int := [s.1.va, (s.1.ds.val : Int), s.1.pr, s.2]
abbrev stmE (s : Stm) : Value := Go.Own.encI ([.i64, .u32, .i64] ++ [.i64]) (stmI s)
abbrev stmV (s : Stm) : List Value := [.int .i64 s.1.va, .int .u32 (s.1.ds.val : Int), .int .i64 s.1.pr, .int .i64 s.2]
abbrev stmCs (s : Stm) : List CT := [intC s.1.va, adrF s.1.ds, intC s.1.pr, intC s.2]
theorem stmI_inj(a b:Stm)(h:stmI a=stmI b):a=b:=by
 obtain ⟨⟨a1,a2,a3⟩,a4⟩:=a;obtain ⟨⟨b1,b2,b3⟩,b4⟩:=b;simp only [List.cons.injEq,and_true,Int.ofNat_inj,Fin.val_inj] at h;obtain ⟨h1,h2,h3,h4⟩:=h;rw [h1,h2,h3,h4]
theorem uMOwn:prog.underlying 123=some (.map 111 26):=underlying123
theorem z0Rss(w:World):(zeroValue 26).run prog w= .ok (.slice none 0 0) w:=ZK (by kernel_rfl) w
theorem z0Ads(w:World):(zeroValue 120).run prog w= .ok (.slice none 0 0) w:=ZK (by kernel_rfl) w
abbrev tkE (t : Tk) : Value := Go.Own.encI [.i64, .u32, .i64] (tkI t)
abbrev tkVs (t : Tk) : List Value := [.int .i64 t.va, .int .u32 (t.ds.val : Int), .int .i64 t.pr]
abbrev OwM := List (Tk × List Rs)
def owF (l : List Rs) : OwM := (trsF l).foldl (fun m t => ins m t (ofF l t)) []
abbrev owM (m : OwM) : List (Value × CT) := kvs tkE rssC m
abbrev adsC (l : List (Fin 4294967296)) : CT := .fr (sliceT 1 (l.map fun x => [adrF x]))
abbrev KnM := List (Stm × List (Fin 4294967296))
abbrev knM (m : KnM) : List (Value × CT) := kvs stmE adsC m
theorem owF_look(l:List Rs)(t:Tk):(look1 (owF l) t).getD []=ofF l t:=by
 have key:∀(q:List Tk) (m:OwM),look1 (q.foldl (fun m t=>ins m t (ofF l t)) m) t=if t∈q then some (ofF l t) else look1 m t:=by
  intro q
  induction q with
  |nil=>intro m;rw [if_neg (by simp)];rfl
  |cons x q ih=>
   intro m;rw [List.foldl_cons,ih,look1_ins];by_cases h:t∈q
   · rw [if_pos h,if_pos (List.mem_cons_of_mem _ h)]
   · rw [if_neg h];by_cases e:t=x
     · subst e;rw [if_pos rfl,if_pos (List.mem_cons_self ..)]
     · rw [if_neg e,if_neg (fun hm=>(List.mem_cons.1 hm).elim e h)]
 unfold owF;rw [key];by_cases h:t∈trsF l
 · rw [if_pos h];rfl
 · rw [if_neg h];show []=ofF l t;unfold ofF
   symm
   refine List.filter_eq_nil_iff.2 fun r hr=> ?_
   intro he
   refine h ?_
   have hm:=((Yt ordR (l.filter okR)).2 r).1 hr;exact ((Yt ordT ((l.filter okR).map trOf)).2 t).2 (List.mem_map.2 ⟨r,hm,of_decide_eq_true he⟩)
def knOk (l : List Rs) (m : KnM) : Prop := ∀ s p, look1 m s = some p → p = pathF (ofF l s.1) s.2
end Go.Proofs.YtfimckpnnbibcaaGreat
namespace Go.Proofs.YtfimckpnnbibcaaGreat
open Go.Own Go.Limbs Go.Shelf Go.Proofs.Tryz
open Go.Sort hiding Ok
def cmpW (a b : Wr) : Int := cmpL (wrI a) (wrI b)
theorem ordW:Ord cmpW where
 anti a b:=cmpL_anti _ _
 eq0 a b h:=wrI_inj a b (cmpL_eq (xs:=wrI a) (ys:=wrI b) rfl h)
 trans a b c:=cmpL_trans (xs:=wrI a) (ys:=wrI b) (zs:=wrI c) rfl rfl
abbrev wr2 (x : Wr) : List Value := [.int .u32 x.1.val, .int .u32 x.2.val]
theorem one_two(x:Wr):∀u∈wr2 x,u.oneCell' =true:=fun u hu=>by
 rcases List.mem_cons.1 hu with rfl|hu
 · rfl
 · rcases List.mem_cons.1 hu with rfl|hu
   · rfl
   · cases hu
end Go.Proofs.YtfimckpnnbibcaaGreat
namespace Go.Proofs.YtfimckpnnbibcaaGreat
open Go.Limbs Go.Own Go.Proofs.Tryz
def posD (out : List Wr) (t : Wr) : Nat := (out.takeWhile fun x => decide (cmpW x t < 0)).length
theorem posD_le(out:List Wr)(t:Wr):posD out t<=out.length:=by
 unfold posD;exact (List.takeWhile_sublist _).length_le
theorem posD_cons(x:Wr)(out:List Wr)(t:Wr):posD (x::out) t=if cmpW x t<0 then posD out t+1 else 0:=by
 unfold posD;rw [List.takeWhile_cons];by_cases h:cmpW x t<0
 · rw [decide_eq_true h,if_pos J,if_pos h];rfl
 · rw [decide_eq_false h,if_neg h];rfl
theorem posD_lt{t:Wr}:∀{out:List Wr},Up cmpW out ->∀{h:Nat},h<out.length ->(cmpW (out.getD h wr0) t<0↔h<posD out t)
 | [],_,_,hh=>by cases hh
 |x::out,hu,h,hh=>by
  obtain ⟨h1,h2⟩:=List.pairwise_cons.1 hu
  rw [posD_cons]
  cases h with
  |zero=>
   show cmpW x t<0↔_
   split
   · rename_i hc;exact ⟨fun _=>Nat.succ_pos _,fun _=>hc⟩
   · rename_i hc;exact ⟨fun h=>absurd h hc,fun h=>absurd h (Nat.lt_irrefl _)⟩
  |succ h=>
   have hh:h<out.length:=Nat.lt_of_succ_lt_succ hh
   show cmpW (out.getD h wr0) t<0↔_
   split
   · rw [posD_lt h2 hh];omega
   · rename_i hc
     have hm:out.getD h wr0∈out:=by rw [List.getD_eq_getElem?_getD,List.getElem?_eq_getElem hh];exact List.getElem_mem hh
     exact ⟨fun h3=>absurd (ordW.trans _ _ _ (h1 _ hm) h3) hc,fun h3=>absurd h3 (Nat.not_lt_zero _)⟩
theorem posD_at{t:Wr}{out:List Wr}(hu:Up cmpW out):t∈out↔posD out t<out.length/\ out.getD (posD out t) wr0=t:=by
 constructor
 · intro h;obtain ⟨i,hi,e⟩:=List.getElem_of_mem h
   have ei:out.getD i wr0=t:=by rw [List.getD_eq_getElem?_getD,List.getElem?_eq_getElem hi];exact e
   have h1:=posD_lt (t:=t) hu hi;rw [ei,ordW.self] at h1
   have h2:¬i<posD out t:=fun h=>absurd (h1.2 h) (by decide)
   have h3:¬posD out t<i:=fun h=>by
    have hp:posD out t<out.length:=by omega
    have h4:=posD_lt (t:=t) hu hp;have h5:=List.pairwise_iff_getElem.1 hu _ _ hp hi h;rw [e] at h5;rw [List.getD_eq_getElem?_getD,List.getElem?_eq_getElem hp] at h4;exact absurd (h4.1 h5) (Nat.lt_irrefl _)
   have:posD out t=i:=by omega
   rw [this];exact ⟨hi,ei⟩
 · rintro ⟨h1,h2⟩
   rw [<- h2,List.getD_eq_getElem?_getD,List.getElem?_eq_getElem h1];exact List.getElem_mem h1
end Go.Proofs.YtfimckpnnbibcaaGreat
namespace Go.Own
variable {X : Ctx} {L : AL} {B : BL} {ops : Array Oper} {K : Act → World → Prop} {r : Pl} {k : Kd}
  {x y z : Operand} {d : Nat} {t t2 t' : TypeId} {pos : String} {af : Array Edge} {g : Option (Nat × Bool)}
theorem Q5{el n bytes e:Nat}{v0:Value}{zv:Value}{kk:IntKind}{j:Int}{cs:List CT}(i m:Nat)(hg:gd ops L g=some true)(hx:ev L x=some (.ct (.ex v0)))(hi:bget B i=some (.rowx v0 e n cs))(hl:cs.length=m*n)(hy:ev L y=some (.ct (.ex (.int kk j))))(hT:SlcT X.P t el n bytes zv)(h0:0<=j)(hj:j<m)
  (hn:Nat.blt d X.n=true) (h:Ops X ops r ((d, .loc i (j.toNat*n))::L) B K):Ops X ops (.cons ⟨some d, .indexAddr t x y,t',pos,af,g⟩ k r) L B K:=
 XW (s:= .loc i (j.toNat*n)) hg rfl hn (fun a ρ w hI=>by
  have h1:a.eval x=ρ i:=by
   have:a.eval x=v0:=hI.evx hx;rw [this];exact (hI.ent i _ hi).1.1.symm
  obtain ⟨nf,hi2,hs,_⟩:=hT.inf;obtain ⟨n',vs,how,hc⟩:=(hI.ent i _ hi).1.2;have hl' :=hc.length;rw [how.1,hl] at hl';have:n' =m:=Nat.eq_of_mul_eq_mul_right hT.pos hl';subst this;rcases how.2 with ⟨h2,h3⟩|⟨gb,cap,cur,h2,_⟩
  · omega
  · refine ⟨.pointer (some ⟨gb,j.toNat*n,none⟩),fun w' _=> ?_,gb,by rw [h2];rfl,rfl⟩;show (do pure (Next.value (<- Instr.indexAt t (a.eval x) (a.eval y))):Sem Next).run X.P w' =_;rw [h1,h2,hI.evx hy]
    refine X9 ?_
    rw [run_index hT.und hi2 h0 (by omega),hs,Nat.zero_add]) h
theorem ZU{el n e:Nat}{v0:Value}{cs:List CT}(i m:Nat)(hg:gd ops L g=some true)(hx:ev L x=some (.ct (.ex v0)))(hi:bget B i=some (.rowx v0 e n cs))(hp:0<n)(hl:cs.length=m*n)(hu:X.P.underlying t=some (.slice el))(hn:Nat.blt d X.n=true)(h:Ops X ops r ((d, .ct (.ex (.int .i64 m)))::L) B K):
  Ops X ops (.cons ⟨some d, .call {callee:= .builtin .len,args:= #[x],argTypes:= #[t]},t',pos,af,g⟩ k r) L B K:=
 XW (s:= .ct (.ex (.int .i64 m))) hg rfl hn (fun a ρ w hI=>by
  have h1:a.eval x=ρ i:=by
   have:a.eval x=v0:=hI.evx hx;rw [this];exact (hI.ent i _ hi).1.1.symm
  obtain ⟨ad,c,h2⟩:=row_len (hI.ent i _ hi).1.2 hp hl;refine ⟨_,fun w' _=>ZY (args:=[x]) ?_,rfl⟩;intro _;simp only [List.map_cons,List.map_nil,h1,h2]
  exact run_lenSlice hu _ _ _ _ _) h
end Go.Own
namespace Go.Proofs.YtfimckpnnbibcaaGreat
open Go.Own Go.Limbs Go.Proofs.Tryz
def linesB : Nat → List Value → List (List Int) → BL
  | _, [], _ => []
  | _, _, [] => []
  | k, h :: hl, z :: zs => (k, .rowx h 178 2 (whs z)) :: linesB (k + 1) hl zs
theorem Zo:∀(k:Nat) (hl:List Value) (zs:List (List Int)) (j:Nat),j<k ->bget (linesB k hl zs) j=none
 |_,[],_,_,_=>by simp [linesB,bget]
 |_,_::_,[],_,_=>by simp [linesB,bget]
 |k,h::hl,z::zs,j,hj=>by
  rw [linesB,QX _ _ (by omega)];exact Zo (k+1) hl zs j (by omega)
theorem Qs:∀{k:Nat} {hl:List Value} {zs:List (List Int)} {i:Nat},i<hl.length ->i<zs.length ->bget (linesB k hl zs) (i+k)=some (.rowx (hl.getD i default) 178 2 (whs (zs.getD i [])))
 |_,[],_,_,h,_=>by simp at h
 |_,_::_,[],_,_,h=>by simp at h
 |k,h::hl,z::zs,0,_,_=>by rw [linesB,Nat.zero_add,QU];rfl
 |k,h::hl,z::zs,i+1,h1,h2=>by
  rw [linesB,QX _ _ (by omega),show i+1+k=i+(k+1) by omega,Qs (by simpa using h1) (by simpa using h2)]
  simp
theorem lines_ge:∀{k:Nat} {hl:List Value} {zs:List (List Int)} {i:Nat},(hl.length<=i \/zs.length<=i) ->bget (linesB k hl zs) (i+k)=none
 |_,[],_,_,_=>by simp [linesB,bget]
 |_,_::_,[],_,_=>by simp [linesB,bget]
 |k,h::hl,z::zs,0,h1=>by simp at h1
 |k,h::hl,z::zs,i+1,h1=>by
  rw [linesB,QX _ _ (by omega),show i+1+k=i+(k+1) by omega]
  exact lines_ge (by simpa using h1)
theorem lines_set:∀{k:Nat} {hl:List Value} {zs:List (List Int)} {i:Nat} (y:List Int),i<hl.length ->i<zs.length ->
  bset (linesB k hl zs) (i+k) (.rowx (hl.getD i default) 178 2 (whs y))=linesB k hl (zs.set i y)
 |_,[],_,_,_,h,_=>by simp at h
 |_,_::_,[],_,_,_,h=>by simp at h
 |k,h::hl,z::zs,0,y,_,_=>by simp [linesB,bset]
 |k,h::hl,z::zs,i+1,y,h1,h2=>by
  have:=lines_set (k:=k+1) (hl:=hl) (zs:=zs) (i:=i) y (by simpa using h1) (by simpa using h2)
  rw [show i+(k+1)=i+1+k by omega] at this
  have hne:Nat.beq k (i+1+k)=false:=beq_ne (by omega)
  simp only [linesB,bset,hne,List.set_cons_succ,List.getD_cons_succ]
  rw [this]
theorem YQ{j i:Nat}{e e' :Ent}{B:BL}(h:Nat.beq j i=false):bset ((j,e)::B) i e' =(j,e)::bset B i e' :=by simp [bset,h]
structure Tv where
  hR : Value
  hB : Value
  hC : Value
  hl : List Value
  rows : List (List Int)
  bas : List Int
  col : List Int
  den : Int
abbrev tabCs (T : Tv) : List CT := [.ex T.hR, .ex T.hB, .ex T.hC, boolC (decide (T.den < 0)), natC T.den.natAbs]
def tabB (T : Tv) : BL :=
  (0, .box 182 (tabCs T)) :: (1, .rowx T.hR 179 1 (T.hl.map CT.ex)) :: (2, .rowx T.hB 3 1 (ints T.bas)) :: (3, .rowx T.hC 3 1 (ints T.col)) :: linesB 10 T.hl T.rows
structure Fit (T : Tv) : Prop where
  hl : T.hl.length = T.rows.length
  row : ∀ i, i < T.rows.length → (T.rows.getD i []).length = T.col.length + 1
  bas : T.bas.length ≤ T.rows.length
  few : T.rows.length ≤ 100
  thin : T.col.length ≤ 100
theorem Yw{hl:List Value}{i:Nat}(h:i<hl.length):(hl.map CT.ex)[i]? =some (.ex (hl.getD i default)):=by
 simp [List.getElem?_eq_getElem h,List.getD_eq_getElem?_getD]
theorem sgn_lt{z:Int}:z.sign<0↔z<0:=by
 rcases Int.lt_trichotomy z 0 with h|h|h
 · rw [Int.sign_eq_neg_one_of_neg h];omega
 · subst h;simp
 · rw [Int.sign_eq_one_of_pos h];omega
theorem sgn_le{z:Int}:z.sign<=0↔z<=0:=by
 rcases Int.lt_trichotomy z 0 with h|h|h
 · rw [Int.sign_eq_neg_one_of_neg h];omega
 · subst h;simp
 · rw [Int.sign_eq_one_of_pos h];omega
theorem sgn_eq{z:Int}:z.sign=0↔z=0:=Int.sign_eq_zero_iff_zero
def entS (gr col : List Int) : Nat → Int
  | 0 => -1
  | j + 1 => if gr.getD j 0 < 0 ∧ (entS gr col j < 0 ∨ col.getD j 0 < col.getD (entS gr col j).toNat 0) then j else entS gr col j
theorem entS_bd(gr col:List Int):∀j, -1<=entS gr col j/\ entS gr col j<j
 |0=>by simp [entS]
 |j+1=>by
  have:=entS_bd gr col j
  simp only [entS];split <;>omega
theorem tab_fx(T:Tv):∀i∈ [0],isBx (bget (tabB T) i)=true:=fun i hi=>by
 have:i=0:=by simpa using hi
 subst this;rfl
attribute [local irreducible] St Ops Go.Own.Fin Ok OkM
theorem entering_ok(T:Tv)(hF:Fit T)(gi:Nat)(hg:gi<T.rows.length):OkM prog 153 [.own 0, .ct (intC gi)] (tabB T) [0] (fun _:Unit=>True) (fun _=> .ct (intC (entS (T.rows.getD gi []) T.col T.col.length))) (fun _=>tabB T):=by
 have hrow:=hF.row gi hg;have hfew:=hF.few;have hthin:=hF.thin;have hhl:=hF.hl
 refine OkM.enter func153 J _ ntmps153 J (tab_fx T) ?_
 intro S w ρ0 hbor;simp only [tabB];refine Qj 17 J (ZU 3 T.col.length J J J (by decide) (by simp) sInts.und J ?_);refine Qq 4 J ?_
 refine QY (α:=Nat) (fun s=>s<=T.col.length)
  (fun s=>[(0, .own 0),(1, .ct (intC gi)),(5, .ct (intC (entS (T.rows.getD gi []) T.col s))),(11, .ct (.ex T.hC)),(12, .ct (intC T.col.length)),(13, .ct (intC s))])
  (fun _=>tabB T) (fun s=>T.col.length - s) 0 (Nat.zero_le _) (by exact Qx J) ?_
 intro j hj;dsimp only at hj ⊢;simp only [tabB];have hb:=entS_bd (T.rows.getD gi []) T.col j
 have es:entS (T.rows.getD gi []) T.col (j+1)=if (T.rows.getD gi []).getD j 0<0/\ (entS (T.rows.getD gi []) T.col j<0 \/T.col.getD j 0<T.col.getD (entS (T.rows.getD gi []) T.col j).toNat 0) then (j:Int) else entS (T.rows.getD gi []) T.col j:=rfl
 generalize hbest:entS (T.rows.getD gi []) T.col j=best at*;refine Qj 6 J ?_;refine Qy J (fun h=> ?_) (fun h=> ?_)
 · have k1:(j:Int).toNat*1=j:=by omega
   have k2:(j:Int).toNat*2=j*2:=by omega
   have k3:(gi:Int).toNat*1=gi:=by omega
   refine Qj 7 J (Q5 3 T.col.length J J J (by simp) J sInts (by omega) (by omega) J ?_);rw [k1]
   refine QK J J J J (XK (by omega)) lInt J ?_;refine Qq 11 J (Q5 1 T.rows.length J J J (by simp [hhl]) J sMat (by omega) (by omega) J ?_);rw [k3];refine QK J J J J (Yw (by omega)) lWhs J ?_;refine Qq 1 J (Q5 (gi+10) (T.col.length+1) J J (Qs (by omega) hg) (by rw [XV,hrow]) J sWhs (by omega) (by omega) J ?_);rw [k2];refine ldWh J J J (Qs (by omega) hg) J (by omega) lWh J ?_;refine Qv (gT J) (sign_ok _) J (Qq 2 J ?_);have sl:=sgn_lt (z:=(T.rows.getD gi []).getD j 0);generalize (T.rows.getD gi []).getD j 0=zz at*;refine QQ 30 J (fun h1=> ?_) (fun h1=> ?_)
   · refine Qq 3 J (QQ 33 J (fun h2=> ?_) (fun h2=> ?_))
     · refine QZ 24 J (by omega) ?_;refine Qk (j+1) (by omega) (by omega) (by exact QW J ⟨rfl,rfl,by rw [es,if_pos ⟨sl.1 h1, .inl h2⟩];rfl,rfl,rfl,by simp only [Int.natCast_add];rfl,trivial⟩)
     · refine Qq 6 J (Q5 3 T.col.length J J J (by simp) J sInts (by omega) (by omega) J ?_);rw [show best.toNat*1=best.toNat by omega]
       refine QK J J J J (XK (by omega)) lInt J ?_;refine Qq 5 J ?_;refine Qy J (fun h3=> ?_) (fun h3=> ?_)
       · refine Xz 10 J (by omega) ?_;refine Qk (j+1) (by omega) (by omega) (by exact QW J ⟨rfl,rfl,by rw [es,if_pos ⟨sl.1 h1, .inr h3⟩];rfl,rfl,rfl,by simp only [Int.natCast_add];rfl,trivial⟩)
       · refine Xz 7 J (by omega) ?_;refine Qk (j+1) (by omega) (by omega) (by exact QW J ⟨rfl,rfl,by rw [es,if_neg (fun h=>h.2.elim h2 h3)];rfl,rfl,rfl,by simp only [Int.natCast_add];rfl,trivial⟩)
   · refine QZ 24 J (by omega) ?_;refine Qk (j+1) (by omega) (by omega) (by exact QW J ⟨rfl,rfl,by rw [es,if_neg (fun h=>h1 (sl.2 h.1))];rfl,rfl,rfl,by simp only [Int.natCast_add];rfl,trivial⟩)
 · have hjn:j=T.col.length:=by omega
   subst hjn;refine Qj 9 J ?_;refine Yn () [_] rfl (Q4 J Q3) (by rw [hbest];rfl) (fun _=>rfl) trivial
end Go.Proofs.YtfimckpnnbibcaaGreat
namespace Go.Proofs.YtfimckpnnbibcaaGreat
open Go.Limbs Go.Own Go.Proofs.Tryz
attribute [local irreducible] Go.Own.Fin Ok OkM Ops St
abbrev Tv.at (T : Tv) (i j : Nat) : Int := (T.rows.getD i []).getD j 0
def levS (T : Tv) (s : Nat) : Nat → Int
  | 0 => -1
  | i + 1 => if T.at i s ≤ 0 then levS T s i else if levS T s i < 0 then i else
      if T.at i T.col.length * T.at (levS T s i).toNat s + -(T.at (levS T s i).toNat T.col.length * T.at i s) < 0 ∨ (T.at i T.col.length * T.at (levS T s i).toNat s + -(T.at (levS T s i).toNat T.col.length * T.at i s) = 0 ∧ T.bas.getD i 0 < T.bas.getD (levS T s i).toNat 0) then i else levS T s i
theorem levS_bd(T:Tv)(s:Nat):∀i, -1<=levS T s i/\ levS T s i<i
 |0=>by simp [levS]
 |i+1=>by
  have:=levS_bd T s i
  simp only [levS];split
  · omega
  · split
    · omega
    · split <;>omega
def Shrt (T : Tv) : Prop := ∀ i j, (limbs (T.at i j).natAbs).length ≤ 60
theorem mul_short{a b:Int}(ha:(limbs a.natAbs).length<=60)(hb:(limbs b.natAbs).length<=60):(limbs (a*b).natAbs).length<=120:=by
 rw [Int.natAbs_mul];have:=XZ (a:=a.natAbs) (b:=b.natAbs);omega
theorem neg_short{a:Int}{k:Nat}(ha:(limbs a.natAbs).length<=k):(limbs (-a).natAbs).length<=k:=by rw [Int.natAbs_neg];exact ha
theorem leaving_ok(T:Tv)(hF:Fit T)(hS:Shrt T)(s:Nat)(hs:s<=T.col.length):OkM prog 154 [.own 0, .ct (intC s)] (tabB T) [0] (fun _:Unit=>True) (fun _=> .ct (intC (levS T s T.bas.length))) (fun _=>tabB T):=by
 have hfew:=hF.few;have hthin:=hF.thin;have hhl:=hF.hl;have hbas:=hF.bas
 refine OkM.enter func154 J _ ntmps154 J (tab_fx T) ?_
 intro S w ρ0 hbor;simp only [tabB];refine Qj 17 J (ZU 2 T.bas.length J J J (by decide) (by simp) sInts.und J ?_);refine Qq 4 J ?_
 refine QY (α:=Nat) (fun i=>i<=T.bas.length)
  (fun i=>[(0, .own 0),(1, .ct (intC s)),(5, .ct (intC (levS T s i))),(14, .ct (.ex T.hB)),(15, .ct (intC T.bas.length)),(16, .ct (intC i))])
  (fun _=>tabB T) (fun i=>T.bas.length - i) 0 (Nat.zero_le _) (by exact Qx J) ?_
 intro i hi;dsimp only at hi ⊢;simp only [tabB];have hb:=levS_bd T s i
 have es:levS T s (i+1)=if T.at i s<=0 then levS T s i else if levS T s i<0 then (i:Int) else
   if T.at i T.col.length*T.at (levS T s i).toNat s+ -(T.at (levS T s i).toNat T.col.length*T.at i s)<0 \/(T.at i T.col.length*T.at (levS T s i).toNat s+ -(T.at (levS T s i).toNat T.col.length*T.at i s)=0/\ T.bas.getD i 0<T.bas.getD (levS T s i).toNat 0) then (i:Int) else levS T s i:=rfl
 generalize hbest:levS T s i=best at*;refine Qj 6 J ?_;refine Qy J (fun h=> ?_) (fun h=> ?_)
 · have hi2:i<T.rows.length:=by omega
   have hrow:=hF.row i hi2
   have k1:(i:Int).toNat*1=i:=by omega
   have k2:(s:Int).toNat*2=s*2:=by omega
   refine Qj 7 J (Q5 2 T.bas.length J J J (by simp) J sInts (by omega) (by omega) J ?_);rw [k1]
   refine QK J J J J (XK (by omega)) lInt J ?_;refine Qq 11 J (Q5 1 T.rows.length J J J (by simp [hhl]) J sMat (by omega) (by omega) J ?_);rw [k1];refine QK J J J J (Yw (by omega)) lWhs J ?_;refine Qq 8 J (Q5 (i+10) (T.col.length+1) J J (Qs (by omega) hi2) (by rw [XV,hrow]) J sWhs (by omega) (by omega) J ?_);rw [k2];refine ldWh J J J (Qs (by omega) hi2) J (by omega) lWh J ?_;refine Qv (gT J) (sign_ok _) J (Qq 3 J ?_);refine Qy J (fun h1=> ?_) (fun h1=> ?_)
   · refine Xz 7 J (by omega) ?_;refine Qk (i+1) (by omega) (by omega) (by exact QW J ⟨rfl,rfl,by rw [es,if_pos (sgn_le.1 h1)];rfl,rfl,rfl,by simp only [Int.natCast_add];rfl,trivial⟩)
   · have h1' :¬T.at i s<=0:=fun h=>h1 (sgn_le.2 h)
     rw [if_neg h1'] at es;refine Qj 9 J ?_;refine Qy J (fun h2=> ?_) (fun h2=> ?_)
     · refine Xz 13 J (by omega) ?_;refine Qk (i+1) (by omega) (by omega) (by exact QW J ⟨rfl,rfl,by rw [es,if_pos h2];rfl,rfl,rfl,by simp only [Int.natCast_add];rfl,trivial⟩)
     · rw [if_neg h2] at es;obtain ⟨b,rfl⟩:∃b:Nat,best=b:=⟨best.toNat,by omega⟩;rw [Int.toNat_natCast] at es
       have hb2:b<T.rows.length:=by omega
       have hrowb:=hF.row b hb2
       have k3:(b:Int).toNat*1=b:=by omega
       have k4:((T.col.length:Int)).toNat*2=T.col.length*2:=by omega
       have s1:=hS i T.col.length;have s2:=hS b s;have s3:=hS b T.col.length;have s4:=hS i s;refine Qj 5 J (ZU (i+10) (T.col.length+1) J J (Qs (by omega) hi2) (by decide) (by rw [XV,hrow]) sWhs.und J ?_);refine QZ 5 J (by omega) ?_;rw [show (((T.col.length+1:Nat):Int) - 1)=(T.col.length:Int) by omega];refine St.draw mixed 34 (.p 0 (.p 1 (.p 2 (.p 4 (.p 5 (.p 6 (.p 8 (.p 11 (.p 15 (.p 16 (.p 17 (.p 19 (.p 22 (.p 25 (.p 26 (.p 27 (.f 3 (.f 7 (.p 9 (.f 10 (.p 12 (.f 13 (.f 18 (.p 20 (.f 21 (.p 23 (.f 24 (.f 28 (.m 14 (.m 29 (.m 30 (.m 31 (.m 32 (.p 33 .done)))))))))))))))))))))))))))))))))) (by kernel_rfl) ?_;refine Qq 2 J (Q5 (i+10) (T.col.length+1) J J (Qs (by omega) hi2) (by rw [XV,hrow]) J sWhs (by omega) (by omega) J ?_);rw [k4];refine Qq 12 J (Q5 (i+10) (T.col.length+1) J J (Qs (by omega) hi2) (by rw [XV,hrow]) J sWhs (by omega) (by omega) J ?_);rw [k2];refine ldWh J J J (Qs (by omega) hi2) J (by omega) lWh J ?_;refine Qq 1 J (Q5 1 T.rows.length J J J (by simp [hhl]) J sMat (by omega) (by omega) J ?_);rw [k3];refine QK J J J J (Yw (by omega)) lWhs J ?_;refine Q5 (b+10) (T.col.length+1) J J (Qs (by omega) hb2) (by rw [XV,hrowb]) J sWhs (by omega) (by omega) J ?_
       rw [k2]
       refine ldWh J J J (Qs (by omega) hb2) J (by omega) lWh J ?_;refine Qq 1 J (Q5 1 T.rows.length J J J (by simp [hhl]) J sMat (by omega) (by omega) J ?_);rw [k3];refine QK J J J J (Yw (by omega)) lWhs J ?_;refine Q5 (b+10) (T.col.length+1) J J (Qs (by omega) hb2) (by rw [XV,hrowb]) J sWhs (by omega) (by omega) J ?_
       rw [k4]
       refine ldWh J J J (Qs (by omega) hb2) J (by omega) lWh J ?_;refine ldWh J J J (Qs (by omega) hi2) J (by omega) lWh J ?_;refine Qv (gT J) (times_ok (T.at i T.col.length) (T.at b s) (by omega)) J ?_;refine Qv (gT J) (times_ok (T.at b T.col.length) (T.at i s) (by omega)) J ?_;refine Qv (gT J) (minus_ok _) J ?_
       have m1:=mul_short s1 s2;have m2:=neg_short (mul_short s3 s4)
       refine Qv (gT J) (plus_ok _ _ (by omega) (by omega)) J ?_
       have q1:=sgn_lt (z:=T.at i T.col.length*T.at b s+ -(T.at b T.col.length*T.at i s));have q2:=sgn_eq (z:=T.at i T.col.length*T.at b s+ -(T.at b T.col.length*T.at i s));generalize T.at i T.col.length*T.at b s+ -(T.at b T.col.length*T.at i s)=dd at*;refine Qv (gT J) (sign_ok dd) J (Qq 8 J (QQ 75 J (fun h3=> ?_) (fun h3=> ?_)))
       · refine QZ 27 J (by omega) ?_;refine Qk (i+1) (by omega) (by omega) (by exact QW J ⟨rfl,rfl,by rw [es,if_pos (.inl (q1.1 h3))];rfl,rfl,rfl,by simp only [Int.natCast_add];rfl,trivial⟩)
       · refine Qq 3 J (QQ 78 J (fun h4=> ?_) (fun h4=> ?_))
         · refine Qq 6 J (Q5 2 T.bas.length J J J (by simp) J sInts (by omega) (by omega) J ?_);rw [k3]
           refine QK J J J J (XK (by omega)) lInt J ?_;refine Qq 5 J ?_;refine Qy J (fun h5=> ?_) (fun h5=> ?_)
           · refine Xz 10 J (by omega) ?_;refine Qk (i+1) (by omega) (by omega) (by exact QW J ⟨rfl,rfl,by rw [es,if_pos (.inr ⟨q2.1 h4,h5⟩)];rfl,rfl,rfl,by simp only [Int.natCast_add];rfl,trivial⟩)
           · refine Xz 7 J (by omega) ?_;refine Qk (i+1) (by omega) (by omega) (by exact QW J ⟨rfl,rfl,by rw [es,if_neg (fun h=>h.elim (fun h=>h3 (q1.2 h)) (fun h=>h5 h.2))];rfl,rfl,rfl,by simp only [Int.natCast_add];rfl,trivial⟩)
         · refine QZ 21 J (by omega) ?_;refine Qk (i+1) (by omega) (by omega) (by exact QW J ⟨rfl,rfl,by rw [es,if_neg (fun h=>h.elim (fun h=>h3 (q1.2 h)) (fun h=>h4 (q2.2 h.1)))];rfl,rfl,rfl,by simp only [Int.natCast_add];rfl,trivial⟩)
 · have hjn:i=T.bas.length:=by omega
   subst hjn;refine Qj 9 J ?_;refine Yn () [_] rfl (Q4 J Q3) (by rw [hbest];rfl) (fun _=>rfl) trivial
end Go.Proofs.YtfimckpnnbibcaaGreat
