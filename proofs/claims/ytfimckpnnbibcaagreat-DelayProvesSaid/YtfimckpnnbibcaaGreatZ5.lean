/- The proof that DelayProves holds for every input, without conditions: part 5 of 7. -/
import Derived.Test.YtfimckpnnbibcaaGreatZ4
set_option maxHeartbeats 32000000
set_option maxRecDepth 100000
namespace Go.Proofs.YtfimckpnnbibcaaGreat
open Go.Limbs Go.Own Go.Proofs.Tryz
attribute [local irreducible] Go.Own.Fin Ok Ops St
structure SzQ (q : Rat) : Prop where
  n : (limbs (ofQ q).num).length ≤ 64
  d : (limbs (ofQ q).den).length ≤ 64
def colQ (rs : List Rw) (ys : List Fr) (j : Nat) : Rat := vsum (rs.map fun r => r.cs.getD j 0) ys
def bsQ (rs : List Rw) (ys : List Fr) : Rat := vsum (rs.map fun r => r.b) ys
def colsQ (rs : List Rw) (ys : List Fr) (n : Nat) : List Rat := (List.range n).map (colQ rs ys)
abbrev ratsC (qs : List Rat) : CT := .fr (sliceT 3 (qs.map fun q => frCs (ofQ q)))
def rts (qs : List Rat) : List CT := (qs.map fun q => frCs (ofQ q)).flatten
theorem rts_len(qs:List Rat):(rts qs).length=qs.length*3:=by
 unfold rts;rw [Xe (k:=3) (fun e he=>by obtain ⟨m,_,rfl⟩:=List.mem_map.mp he;rfl)];simp
theorem rts_snoc(qs:List Rat)(q:Rat):rts (qs++ [q])=rts qs++frCs (ofQ q):=by simp [rts]
theorem rts_frozen(e:Nat)(qs:List Rat):(Ent.row e 3 (rts qs)).frozen (.fr (sliceT 3 (qs.map fun q=>frCs (ofQ q)))):=
 ⟨_,rfl,fun e he=>by obtain ⟨m,_,rfl⟩:=List.mem_map.mp he;rfl,by decide,rfl⟩
theorem multipliers1_V(f:Fr)(h:VF f):Ok prog 163 [fracC f] (boolC f.neg):=by
 refine Ok.enter func163 J _ ntmps163 J ?_
 intro S w;refine Qj 9 J (Qv (gT J) (FValid_V f h) J (Qq 9 J ?_));refine Qw J J
theorem less_q(a b:Rat)(ha:SzQ a)(hb:SzQ b):Ok prog 111 [ratC a,ratC b] (boolC (decide (cmpQ a b<0))):=by
 refine Ok.enter func111 J _ ntmps111 J ?_
 intro S w;refine Qj 11 J (Qv (gT J) (FCompare_q a b (by have:=ha.n;omega) (by have:=ha.d;omega) (by have:=hb.n;omega) (by have:=hb.d;omega)) J ?_);refine Qq 15 J ?_;refine Qw J J
theorem SzQ.int{b:Int}(h:b.natAbs<=4503599627370496):SzQ (b:Rat):=⟨by have:=(int_lens h).1;omega,by have:=(int_lens h).2;omega⟩
def covQ (os : List Rat) (c : List Int) : Bool := decide (c.length ≤ os.length) && (List.range os.length).all fun j => !decide (cmpQ (os.getD j 0) (c.getD j 0 : Rat) < 0)
theorem covers_q(os:List Rat)(c:List Int)(hl:os.length<=64)(hlc:c.length<=64)(ho:∀y∈os,SzQ y)(hc:∀y∈c,y.natAbs<=4503599627370496):Ok prog 110 [ratsC os,intsC c] (boolC (covQ os c)):=by
 refine Ok.enter func110 J _ ntmps110 J ?_
 intro S w;refine Qj 9 J (QV sInts.und J (Qq 1 J (QV sFracs.und J (Qq 3 J ?_))));refine Qy J (fun h=> ?_) (fun h=> ?_)
 · refine Qj 6 J ?_;refine Qw J (by unfold covQ;rw [decide_eq_false (show ¬c.length<=os.length by omega)];rfl)
 have hle:c.length<=os.length:=by omega
 clear h;refine Qj 6 J (QV sFracs.und J (Qq 4 J ?_))
 refine QY (α:=Nat) (fun i=>i<=os.length/\ ∀j,j<i ->¬cmpQ (os.getD j 0) (c.getD j 0:Rat)<0)
  (fun i=>[(1, .ct (intsC c)),(15, .ct (ratsC os)),(16, .ct (intC os.length)),(17, .ct (intC i))]) (fun _=>[]) (fun i=>os.length - i) 0 ⟨Nat.zero_le _,fun j h=>absurd h (Nat.not_lt_zero j)⟩ (by exact Qx J) ?_
 intro i ⟨hi,hj⟩;dsimp only at hi hj ⊢;refine Qj 6 J ?_;refine Qy J (fun h=> ?_) (fun h=> ?_)
 · have e2:(i:Int).toNat=i:=Int.toNat_natCast i
   have hlt:i<os.length:=by omega
   have b0:=ho (os.getD i 0) (XX hlt)
   have b1:(c.getD i 0).natAbs<=4503599627370496:=by
    rcases Nat.lt_or_ge i c.length with h|h
    · exact hc _ (XX h)
    · rw [List.getD_eq_getElem?_getD,List.getElem?_eq_none (by omega)];decide
   have hbad:cmpQ (os.getD i 0) (c.getD i 0:Rat)<0 ->covQ os c=false:=fun hgt=>by
    unfold covQ;rw [List.all_eq_false.mpr ⟨i,List.mem_range.mpr hlt,by rw [decide_eq_true hgt];decide⟩,Bool.and_false]
   have hgood:¬(cmpQ (os.getD i 0) (c.getD i 0:Rat)<0) ->∀j,j<i+1 ->¬cmpQ (os.getD j 0) (c.getD j 0:Rat)<0:=fun hng j hj' =>by
    rcases Nat.lt_or_ge j i with h3|h3
    · exact hj j h3
    · have:j=i:=by omega
      rw [this];exact hng
   refine Qj 7 J (Q8 0 sFracs J (by omega) ?_);refine Qq 16 J (QV sInts.und J (Qq 3 J ?_));rw [e2];refine Qy J (fun h3=> ?_) (fun h3=> ?_)
   · refine Qj 3 J (Q8 0 sInts J (by omega) ?_);refine Qq 7 J ?_;rw [e2]
     refine Qv (gT J) (From_int (c.getD i 0) (by omega) (by omega)) J ?_;refine Qq 12 J (Qv (gT J) (less_q (os.getD i 0) (c.getD i 0:Rat) b0 (SzQ.int b1)) J (Qq 2 J ?_));refine Qy J (fun h4=> ?_) (fun h4=> ?_)
     · refine Qj 6 J ?_;refine Qw J (by rw [hbad h4];rfl)
     · refine Xz 7 J (by omega) ?_;refine Qc 1 (Qc 0 ?_);refine Qk (i+1) (by omega) ⟨by omega,hgood h4⟩ (by exact Qx J)
   · have ec:c.getD i 0=0:=by rw [List.getD_eq_getElem?_getD,List.getElem?_eq_none (by omega)];rfl
     refine Qj 5 J (Qv (gT J) (From_int 0 (by omega) (by omega)) J ?_);refine Qq 12 J (Qv (gT J) (less_q (os.getD i 0) ((0:Int):Rat) b0 (SzQ.int (by decide))) J ?_);refine Qq 2 J ?_;refine Qy J (fun h4=> ?_) (fun h4=> ?_)
     · refine Qj 6 J ?_;refine Qw J (by rw [hbad (by rw [ec];exact h4)];rfl)
     · refine Xz 7 J (by omega) ?_;refine Qc 1 (Qc 0 ?_);refine Qk (i+1) (by omega) ⟨by omega,hgood (by rw [ec];exact h4)⟩ (by exact Qx J)
 · have hi' :i=os.length:=by omega
   refine Qj 8 J ?_
   refine X5 [_] rfl (Q4 J Q3) (by
    unfold covQ
    rw [decide_eq_true hle,List.all_eq_true.mpr (fun j hj2=>by rw [decide_eq_false (hj j (by have:=List.mem_range.mp hj2;omega))];rfl)];rfl) J
theorem SzQ.vf{q:Rat}(h:SzQ q):VF (ofQ q):=VF.q q h.n h.d
theorem colsQ_len(rs:List Rw)(ys:List Fr)(n:Nat):(colsQ rs ys n).length=n:=by simp [colsQ]
open Go.Det
theorem ptl_mem{n:Nat}{X:Nat ->Int}{D:Int}{f:Fr}(h:f∈ptl n X D):∃k,k<n/\ f=ofQ (shq (X k) D):=by
 obtain ⟨k,hk,rfl⟩:=List.mem_map.1 h;exact ⟨k,List.mem_range.1 hk,rfl⟩
theorem ofQ_neg0{q:Rat}(h:0<=q.num):(ofQ q).neg=false:=decide_eq_false (by omega)
theorem getD_mapZ{α:Type}(f:α ->Int)(z:α){xs:List α}{k:Nat}(h:k<xs.length):(xs.map f).getD k 0=f (xs.getD k z):=by
 simp [List.getD_eq_getElem?_getD,List.getElem?_map,List.getElem?_eq_getElem h]
structure F6 (f : Fr) : Prop where
  num : f.num < 1073741824 ^ 6
  den : f.den < 1073741824 ^ 6
  pos : 0 < f.den
  neg : f.neg = true → f.num ≠ 0
structure F9 (f : Fr) : Prop where
  num : f.num < 1073741824 ^ 9
  den : f.den < 1073741824 ^ 9
  pos : 0 < f.den
  neg : f.neg = true → f.num ≠ 0
theorem prod_mk(c:Int)(f:Fr)(h:0<f.den):(c:Rat)*qv f=mkRat (c*sg f.neg f.num) f.den:=by
 have e:(c:Rat)=mkRat c 1:=(Rat.mkRat_one c).symm;unfold qv;rw [e,Rat.mkRat_mul_mkRat,Nat.one_mul]
theorem sg_abs(n:Bool)(a:Nat):(sg n a).natAbs=a:=natAbs_sg n a
theorem mk_le(N:Int)(P:Nat)(hP:0<P):(ofQ (mkRat N P)).num<=N.natAbs/\ (ofQ (mkRat N P)).den<=P:=by
 have h:=redF_q (decide (N<0)) N.natAbs P hP;rw [sg_natAbs] at h;rw [<- h];exact ⟨Nat.div_le_self _ _,Nat.div_le_self _ _⟩
theorem F9.shqb{a D:Int}(hD:0<D)(h1:D.natAbs<1073741824 ^ 9)(h2:a.natAbs<1073741824 ^ 9):F9 (ofQ (shq a D)):=by
 obtain ⟨l1,l2⟩:=mk_le a D.natAbs (by omega)
 exact ⟨Nat.lt_of_le_of_lt l1 (by omega),Nat.lt_of_le_of_lt l2 (by omega),Zj _,fun h=>by
  have:(Go.Proofs.YtfimckpnnbibcaaGreat.shq a D).num<0:=of_decide_eq_true h;show (Go.Proofs.YtfimckpnnbibcaaGreat.shq a D).num.natAbs≠0
  omega⟩
section
variable {n : Nat} {rs : List Rw} {D : Int} {X : Nat → Int}
theorem ptl_nn{k:Nat}(hD:0<D)(h:∀v,v<k ->0<=X v):∀f∈ptl k X D,f.neg=false:=fun f hf=>by
 obtain ⟨v,hv,rfl⟩:=ptl_mem hf
 exact ofQ_neg0 ((shq_num_sign hD).1 (h v hv))
end
theorem shq_int{b D:Int}(hD:0<D):shq (D*b) D=(b:Rat):=Rat.le_antisymm (shq_le_int hD (Int.le_refl _)) (int_le_shq hD (Int.le_refl _))
end Go.Proofs.YtfimckpnnbibcaaGreat
namespace Go.Own
open Go.RowKit
variable {X : Ctx} {L : AL} {B : BL} {ops : Array Oper} {K : Act → World → Prop}
theorem Fin.linkX(dd i:Nat){v:Value}{el n:Nat}{cs:List CT}(hd:look L dd=some (.ct (.ex v)))(hi:bget B i=some (.rowx v el n cs))(h:Fin X ((dd, .own i)::L) B K):Fin X L B K:=fun a ρ w hI=>by
 have h1:a.tmps.getD dd undef=v:=hI.slot dd _ hd
 obtain ⟨h2,_⟩:=(hI.ent i _ hi).1
 exact h a ρ w (hI.slotx (s:= .own i) (h1.trans h2.symm))
theorem Ops.linkX{l:Pl}(dd i:Nat){v:Value}{el n:Nat}{cs:List CT}(hd:look L dd=some (.ct (.ex v)))(hi:bget B i=some (.rowx v el n cs))(h:Ops X ops l ((dd, .own i)::L) B K):Ops X ops l L B K:=Fin.linkX dd i hd hi h
end Go.Own
namespace Go.Proofs.YtfimckpnnbibcaaGreat
open Go.Own Go.Proofs.Tryz
attribute [local irreducible] St Ops Go.Own.Fin Ok OkB OkN OkT OkL OkF wpR
abbrev Ad := Fin 4294967296
theorem sAdrs:SlcT prog 120 40 1 4 (.int .u32 0):=SlcT.of underlying120 (by kernel_rfl) rfl (by decide)
theorem sPths:SlcT prog 112 120 1 24 (.slice none 0 0):=SlcT.of underlying112 (by kernel_rfl) rfl (by decide)
theorem lAdrs:Ld1 prog 120:=Ld1.of _ underlying120 rfl
theorem zPths:(prog.info? 112).map (·.size)=some 1:=by kernel_rfl
abbrev zNet : Value := .agg #[.int .i64 0, .int .u32 0, .int .i64 0, .slice none 0 0, .int .u32 0]
theorem sNets:SlcT prog 116 114 5 56 zNet:=SlcT.of underlying116 (by kernel_rfl) rfl (by decide)
theorem lNet:LdN prog 114 5:=LdN.of _ underlying114 rfl (by kernel_rfl)
theorem fH1:fldInfo prog 114 1=some (3,some 1):=by kernel_rfl
abbrev adrsC (p : List Ad) : CT := .fr (sliceT 1 (p.map fun x => [adrF x]))
def adrs (p : List Ad) : List CT := p.map adrF
theorem adrs_frozen(e:Nat)(p:List Ad):(Ent.row e 1 (adrs p)).frozen (.fr (sliceT 1 (p.map fun x=>[adrF x]))):=
 ⟨p.map fun x=>[adrF x],(flat_one adrF p).symm,by simp,by decide,rfl⟩
abbrev pthsC (ps : List (List Ad)) : CT := .fr (sliceT 1 (ps.map fun p => [adrsC p]))
def pths (ps : List (List Ad)) : List CT := ps.map adrsC
theorem pths_len(ps:List (List Ad)):(pths ps).length=ps.length*1:=by simp [pths]
theorem pths_frozen(e:Nat)(ps:List (List Ad)):(Ent.row e 1 (pths ps)).frozen (.fr (sliceT 1 (ps.map fun p=>[adrsC p]))):=
 ⟨ps.map fun x=>[adrsC x],(flat_one adrsC ps).symm,by simp,by decide,rfl⟩
theorem pths_at{ps:List (List Ad)}{j:Int}(h0:0<=j)(h:j<(ps.length:Int)):(ps.map fun x=>[adrsC x])[j.toNat]? =some [adrsC (ps.getD j.toNat [])]:=by
 have hl:j.toNat<ps.length:=by omega
 rw [List.getElem?_map,List.getElem?_eq_getElem hl,List.getD_eq_getElem?_getD,List.getElem?_eq_getElem hl];rfl
theorem pths_get{ps:List (List Ad)}(h:0<ps.length):(pths ps)[0]? =some (adrsC (ps.getD 0 [])):=by
 cases ps with
 |nil=>simp at h
 |cons p q=>rfl
structure Nt where
  va : Int
  ds : Ad
  pr : Int
  ps : List (List Ad)
  la : Ad
abbrev ntCs (q : Nt) : List CT := [intC q.va, adrF q.ds, intC q.pr, pthsC q.ps, adrF q.la]
structure NtIn (q : Nt) : Prop where
  v0 : 0 ≤ q.va
  v1 : q.va < 2
  d0 : q.ds ≠ 0
  p0 : q.pr = 17 ∨ q.pr = 1 ∨ q.pr = 6
  a0 : q.la ≠ 0
  l0 : 1 ≤ q.ps.length
  l1 : q.ps.length ≤ 3
  pl : ∀ p ∈ q.ps, 1 ≤ p.length ∧ p.length ≤ 3
def nts (l : List Nt) : List CT := (l.map ntCs).flatten
theorem nts_len(l:List Nt):(nts l).length=l.length*5:=el_len (f:=ntCs) (n:=5) (fun _=>rfl) l
theorem mem_snocG{α:Type}{P:α ->Prop}{xs:List α}{x:α}(h:∀y∈xs,P y)(hx:P x):∀y∈xs++ [x],P y:=fun y hy=>by
 rcases List.mem_append.1 hy with h1|h1
 · exact h y h1
 · rcases List.mem_singleton.1 h1 with rfl;exact hx
theorem dAddr_ok(bs:List Int)(p:Nat)(hb:Bytes bs):OkB prog 85 109 (codes bs p) [] (fun q:Ad × Nat=>q.1≠0) (fun q=>adrF q.1) (fun q=>codes bs q.2):=
 (Address_ok bs p hb).weak fun q hq=>⟨(⟨q.1.toNat,by omega⟩,q.2),fun h=>by
  have h:=congrArg _root_.Fin.val h
  have h0:((0:Ad).val)=0:=rfl
  rw [h0] at h
  dsimp only at h
  omega,by
  show adrC q.1=adrC ((q.1.toNat:Nat):Int)
  rw [Int.toNat_of_nonneg (by omega)],rfl⟩
theorem scene_ok(bs:List Int)(p:Nat)(hb:Bytes bs):OkB prog 43 109 (codes bs p) [] (fun q:Nt × Nat=>NtIn q.1) (fun q=> .agg (ntCs q.1)) (fun q=>codes bs q.2):=by
 refine OkB.enter func43 J _ ntmps43 J ?_
 intro S w g;refine Qj 8 J (Xy (gT J) (Trace_ok bs p hb) J J J J J (fun q hq=> ?_));obtain ⟨va,ds,pr,p1⟩:=q;dsimp only at hq ⊢;refine Qq 18 J (Xy (gT J) (BoolB_ok bs p1 4 (by decide) (by decide) hb) J J J J J (fun q _=> ?_));obtain ⟨b1,p2⟩:=q;dsimp only;refine Qq 2 J ?_;refine X4 (α:=Ad × Nat) (fun x=>x.1≠0) (fun _=>[(0, .own 0),(2, .own 1),(3, .own 2)]) (fun x=>[(2, .box 114 [intC va,adrF ds,intC pr, .ex (.slice none 0 0),adrF x.1]),(1, .box 114 (zNet.cells.toList.map CT.ex)),(0, .box 109 (codes bs x.2))]) (fun x hla=> ?_) (fun KK hN=> ?_);rotate_left
 · refine Xx J (fun _=> ?_) (fun _=> ?_)
   · refine Qj 2 J (Xy (gT J) (dAddr_ok bs p2 hb) J J J J J (fun q hla=> ?_));obtain ⟨a,p3⟩:=q;dsimp only at hla ⊢;refine Qq 3 J ?_;exact Q7 hN (a,p3) hla (by exact Qx J)
   · refine Qj 1 J ?_
     exact Q7 hN (ds,p2) hq.2.1 (by exact Qx J)
 obtain ⟨la,p4⟩:=x;dsimp only at hla ⊢;refine Qj 3 J (Xy goNext (Next_ok bs p4 3 (by decide) (by decide) hb) J J J J J (fun q hq2=> ?_));obtain ⟨lo,p5⟩:=q;dsimp only at hq2 ⊢
 refine QZ 11 J (by omega) ?_;refine St.nilX 3 120 1 J J ?_
 refine QY (α:=Int × List (List Ad) × Value × Nat) (fun x=>x.1=x.2.1.length/\ x.2.1.length<=3/\ (∀q∈x.2.1,1<=q.length/\ q.length<=3)/\ x.2.2.1.oneCell' =true)
  (fun x=>[(0, .own 0),(2, .own 1),(3, .own 2),(4, .ct (intC (1+lo))),(5, .ct (intC x.1))])
  (fun x=>[(3, .rowx x.2.2.1 120 1 (pths x.2.1)),(2, .box 114 [intC va,adrF ds,intC pr, .ex x.2.2.1,adrF la]),(1, .box 114 (zNet.cells.toList.map CT.ex)),(0, .box 109 (codes bs x.2.2.2))])
  (fun x=>3 - x.2.1.length) (0,[], .slice none 0 0,p5) ⟨rfl,by simp,by simp,rfl⟩ (by exact Qx J) ?_
 rintro ⟨f,ps,v,p6⟩ ⟨hf,hfl,hps,hv⟩
 dsimp only at hf hfl hps hv ⊢;refine Qj 5 J (Xy goNext (Next_ok bs p6 3 (by decide) (by decide) hb) J J J J J (fun q hq3=> ?_));obtain ⟨x,p7⟩:=q;dsimp only at hq3 ⊢
 refine QZ 4 J (by omega) ?_;refine Qy J (fun hk=> ?_) (fun hk=> ?_)
 · refine Qj 16 J (Xo 6 4 40 1 J J J ?_)
   refine QY (α:=Int × List Ad × Nat) (fun x=>0<=x.1/\ x.2.1.length=x.1/\ x.1<=1+lo)
    (fun x=>[(0, .own 0),(2, .own 1),(3, .own 2),(4, .ct (intC (1+lo))),(5, .ct (intC f)),(6, .own 4),(7, .ct (intC x.1))])
    (fun x=>[(4, .row 40 1 (adrs x.2.1)),(3, .rowx v 120 1 (pths ps)),(2, .box 114 [intC va,adrF ds,intC pr, .ex v,adrF la]),(1, .box 114 (zNet.cells.toList.map CT.ex)),(0, .box 109 (codes bs x.2.2))])
    (fun x=>(1+lo - x.1).toNat) (0,[],p7) ⟨by dsimp only;omega,rfl,by dsimp only;omega⟩ (by exact Qx J) ?_
   rintro ⟨i,pp,p8⟩ ⟨hi0,hil,hi1⟩
   dsimp only at hi0 hil hi1 ⊢;refine Qj 8 J ?_;refine Qy J (fun hi=> ?_) (fun hi=> ?_)
   · refine Qj 7 J (Xy (gT J) (dAddr_ok bs p8 hb) J J J J J (fun q _=> ?_));obtain ⟨a0,p9⟩:=q;dsimp only;refine Qq 7 J (Xy (gT J) (BoolB_ok bs p9 6 (by decide) (by decide) hb) J J J J J (fun q _=> ?_));obtain ⟨b2,p10⟩:=q;dsimp only;refine Qq 2 J ?_
     refine X4 (α:=Ad) (fun _=>True) (fun a=>[(0, .own 0),(2, .own 1),(3, .own 2),(4, .ct (intC (1+lo))),(5, .ct (intC f)),(6, .own 4),(7, .ct (intC i)),(8, .ct (adrF a))])
      (fun _=>[(4, .row 40 1 (adrs pp)),(3, .rowx v 120 1 (pths ps)),(2, .box 114 [intC va,adrF ds,intC pr, .ex v,adrF la]),(1, .box 114 (zNet.cells.toList.map CT.ex)),(0, .box 109 (codes bs p10))]) (fun a _=> ?_) (fun KK hN=> ?_)
     rotate_left
     · refine Xx J (fun _=> ?_) (fun _=> ?_)
       · refine Qj 3 J ?_;exact Q7 hN 0 trivial (by exact Qx J)
       · refine Qj 1 J ?_
         exact Q7 hN a0 trivial (by exact Qx J)
     refine Qj 6 J (QQ 42 (p:=0<f) J (fun h0=> ?_) (fun h0=> ?_))
     · have hp0:0<ps.length:=by omega
       refine Qq 3 J (Ops.linkX 45 3 J J (Ops.idxX ps.length J J J (pths_len ps) J sPths (by decide) (by omega) J ?_));refine QK J J J J (pths_get hp0) lAdrs J (QV sAdrs.und J (Qq 3 J (QQ 51 (p:=i<((ps.getD 0 []).length:Int)) J (fun h1=> ?_) (fun h1=> ?_))))
       · refine Qq 1 J (Xy (gT J) (BoolB_ok bs p10 3 (by decide) (by decide) hb) J J J J J (fun q _=> ?_));obtain ⟨b3,p11⟩:=q;dsimp only;refine Qq 4 J ?_;refine Xx J (fun _=> ?_) (fun _=> ?_)
         · refine Qj 3 J (Ops.linkX 57 3 J J (Ops.idxX ps.length J J J (pths_len ps) J sPths (by decide) (by omega) J ?_));refine QK J J J J (pths_get hp0) lAdrs J (Qq 1 J (Q8 0 sAdrs J (by omega) ?_));refine Qq 7 J (Qo J J sAdrs J J J (QJ pp.length (adrs (pp++ [(ps.getD 0 []).getD i.toNat 0])) J J J J sAdrs (by simp [adrs]) J (by omega) (by omega) (by simp [adrs]) J ?_));refine QZ 9 J (by omega) ?_;refine Qk (i+1,pp++ [(ps.getD 0 []).getD i.toNat 0],p11) (by dsimp only;omega) ⟨by dsimp only;omega,by simp;omega,by dsimp only;omega⟩ (by exact Qx J)
         · refine Qj 5 J (Qo J J sAdrs J J J (QJ pp.length (adrs (pp++ [a])) J J J J sAdrs (by simp [adrs]) J (by omega) (by omega) (by simp [adrs]) J ?_));refine QZ 9 J (by omega) ?_;refine Qk (i+1,pp++ [a],p11) (by dsimp only;omega) ⟨by dsimp only;omega,by simp;omega,by dsimp only;omega⟩ (by exact Qx J)
       · refine Qq 12 J (Qo J J sAdrs J J J (QJ pp.length (adrs (pp++ [a])) J J J J sAdrs (by simp [adrs]) J (by omega) (by omega) (by simp [adrs]) J ?_));refine QZ 9 J (by omega) ?_;refine Qk (i+1,pp++ [a],p10) (by dsimp only;omega) ⟨by dsimp only;omega,by simp;omega,by dsimp only;omega⟩ (by exact Qx J)
     · refine Qq 21 J (Qo J J sAdrs J J J (QJ pp.length (adrs (pp++ [a])) J J J J sAdrs (by simp [adrs]) J (by omega) (by omega) (by simp [adrs]) J ?_));refine QZ 9 J (by omega) ?_;refine Qk (i+1,pp++ [a],p10) (by dsimp only;omega) ⟨by dsimp only;omega,by simp;omega,by dsimp only;omega⟩ (by exact Qx J)
   · refine St.frz 4 _ J (adrs_frozen _ _) (Jj J) (Qj 6 J (Qo J J sPths J J J (Qp 68 3 J J (QJ ps.length (pths (ps++ [pp])) J J J J sPths (pths_len ps) J (by omega) (by omega) (by simp [pths]) J ?_))));refine Qq 1 J (Ops.name 71 3 J J (fun v' hv' => ?_));refine Qa (c:= .ex v') J J J J hv' zPths (Nat.le_of_ble_eq_true J) (QZ 8 J (by omega) ?_);refine Qk (f+1,ps++ [pp],v',p8) (by simp;omega) ⟨by simp;omega,by simp;omega,mem_snocG hps (by omega),hv'⟩ (by exact Qx J)
 · refine St.frzX 3 2 3 _ J J J (pths_frozen _ _) (Jj J) (Qj 9 J ?_);refine Fin.endB (⟨va,ds,pr,ps,la⟩,p7) [_] rfl (Qi (n:=5) J J lNet J Q3) J J ⟨hq.1.1,hq.1.2,hq.2.1,hq.2.2,hla,by dsimp only;omega,hfl,hps⟩
end Go.Proofs.YtfimckpnnbibcaaGreat
namespace Go.Proofs.YtfimckpnnbibcaaGreat
open Go.Limbs Go.Own Go.Proofs.Tryz
attribute [local irreducible] Go.Own.Fin Ok OkB OkF OkL OkN OkT Ops St
abbrev spE (s : Sp) : Value := Go.Own.encI [.i64, .i64] [s.1, s.2]
theorem eqSp:EqS prog 195 [.i64, .i64]:=⟨by kernel_rfl,by kernel_rfl,by kernel_rfl,by kernel_rfl⟩
theorem Zq:KeyT prog 195 spE:=eqSp.flat.key (fun s:Sp=>[s.1,s.2]) (fun _=>rfl) (fun a b h=>by
 obtain ⟨a1,a2⟩:=a;obtain ⟨b1,b2⟩:=b
 simp only [List.cons.injEq,and_true] at h
 rw [h.1,h.2])
theorem uMAd:prog.underlying 188=some (.map 195 40):=underlying188
theorem uMSt:prog.underlying 189=some (.map 195 3):=underlying189
theorem lMAd:Ld1 prog 188:=Ld1.of _ underlying188 rfl
theorem lMSt:Ld1 prog 189:=Ld1.of _ underlying189 rfl
theorem fV0:fldInfo prog 191 0=some (0,some 1):=by kernel_rfl
theorem fV1:fldInfo prog 191 1=some (1,some 1):=by kernel_rfl
theorem fV2:fldInfo prog 191 2=some (2,some 1):=by kernel_rfl
theorem lView:LdN prog 191 3:=LdN.of _ underlying191 rfl (by kernel_rfl)
theorem szView:(prog.info? 191).map (·.size)=some 3:=by kernel_rfl
theorem zvView:(prog.info? 191).map (·.zero)=some (some (.agg #[.int .i64 0, .map none, .map none])):=by kernel_rfl
theorem bView:bInfo prog 191=some (.agg #[.int .i64 0, .map none, .map none],[(0,some 1),(1,some 1),(2,some 1)]):=by kernel_rfl
theorem JY:LdN prog 195 2:=LdN.of _ underlying195 rfl (by kernel_rfl)
theorem szSpot:(prog.info? 195).map (·.size)=some 2:=by kernel_rfl
theorem zvSpot:(prog.info? 195).map (·.zero)=some (some (.agg #[.int .i64 0, .int .i64 0])):=by kernel_rfl
theorem bSpot:bInfo prog 195=some (.agg #[.int .i64 0, .int .i64 0],[(0,some 1),(1,some 1)]):=by kernel_rfl
theorem z0Int(w:World):(zeroValue 3).run prog w= .ok (.int .i64 0) w:=ZK (by kernel_rfl) w
theorem z0Adr(w:World):(zeroValue 40).run prog w= .ok (.int .u32 0) w:=ZK (by kernel_rfl) w
abbrev adM (m : AdM) : List (Value × CT) := kvs spE adrF m
abbrev stM (m : StM) : List (Value × CT) := kvs spE intC m
abbrev viewC (e : Int) (m : AdM × StM) : CT := .agg [intC e, .fr (mapT (adM m.1)), .fr (mapT (stM m.2))]
theorem Has_ok(e fl tt:Int)(m:AdM × StM):Ok prog 103 [viewC e m,intC fl,intC tt] (boolC (hasS m.2 fl tt)):=by
 have e0:hasS m.2 fl tt=(decide ((look1 m.2 (fl,tt)).getD 0=2)||decide ((look1 m.2 (fl,tt)).getD 0=1)):=rfl
 refine Ok.enter func103 J _ ntmps103 J ?_
 intro S w;refine Qj 13 J (Ops.lookF (cv:=intC) (enc:=spE) 0 (fl,tt) J J J (KeyIs.agg (us:=[.int .i64 fl, .int .i64 tt]) J) uMSt z0Int (fun _ _=>rfl) Zq J ?_);generalize (look1 m.2 (fl,tt)).getD 0=q at e0;refine Qq 8 J (QQ 16 (p:=q=2) J (fun h=> ?_) (fun h=> ?_))
 · refine Qq 7 J ?_;refine Qw J (by rw [e0,decide_eq_true h,Bool.true_or];rfl)
 · refine Qq 7 J ?_;refine Qw J (by rw [e0,decide_eq_false h,Bool.false_or];rfl)
theorem Look_ok(l:List Rs)(hl:l.length<=100000):Ok prog 102 [rssC l] (viewC (endF l) (lookG l)):=by
 have hE:=End_ok l hl;have e0:lookG l=l.foldl (lookS (endF l)) ([],[]):=rfl;rw [e0];clear e0;generalize endF l=e at hE ⊢
 refine Ok.enter func102 J _ ntmps102 J ?_
 intro S w;refine Xc (XJ ?_);refine Xh 0 J J zvView J J J (Qz (Qt (Xc ?_)));refine XJ (Qg J J J (Zy (gT J) hE J J J J (Ops.mkMap 8 J J J J J (fun v1 hv1=> ?_))));refine Ops.mkMap 9 J J J J J (fun v2 hv2=> ?_);refine Yf J bView J (.one J J J J (.one J J hv1 J (.one J J hv2 J .nil))) J (Xh 1 J J zvView J J J (Zu 3 J J J J (by show (true&&(Value.oneCell' v1&&(Value.oneCell' v2&&true)))=true;rw [hv1,hv2];rfl) szView J J ?_));refine Qz (Qt (Xc (Xc ?_)));refine XJ (Qg J J J (Ops.lenF J J sRes.und (List.length_map ..) J (Qg J J J (Qz (Qt (St.block ?_))))))
 refine St.loop (α:=Nat) (fun i=>i<=l.length)
  (fun i=>[(2, .own 0),(3, .own 1),(13, .ct (rssC l)),(14, .ct (intC l.length)),(15, .ct (intC i))])
  (fun i=>[(1, .box 191 [intC e, .ex v1, .ex v2]),(9, .mpx v2 (stM ((l.take i).foldl (lookS e) ([],[])).2)),(8, .mpx v1 (adM ((l.take i).foldl (lookS e) ([],[])).1)),(0, .box 191 [intC 0, .ex (.map none), .ex (.map none)])])
  (fun i=>l.length - i) 0 (Nat.zero_le _) (by exact QW J ⟨rfl,rfl,rfl,rfl,rfl,trivial⟩) ?_
 intro i hi
 try dsimp only at hi ⊢
 refine Xc (XJ ?_);refine Qh ilss J J J J (Qz (Qt (Xc ?_)));refine Qy J (fun h=> ?_) (fun h=> ?_)
 · have e2:(i:Int).toNat=i:=Int.toNat_natCast i;have hs:=foldl_take (lookS e) ([],[]) (z:=rs0) (l:=l) (i:=i) (by omega);generalize (l.take i).foldl (lookS e) ([],[])=m at hs ⊢
   have next:∀m' :AdM × StM,lookS e m (l.getD i rs0)=m' ->(l.take (i+1)).foldl (lookS e) ([],[])=m' :=fun m' h=>by rw [hs,h]
   clear hs;refine St.skip (Qt (Xc ?_))
   refine St.cutN (α:=AdM × StM) (fun q=>lookS e m (l.getD i rs0)=q) (fun _=>[(2, .own 0),(3, .own 1),(13, .ct (rssC l)),(14, .ct (intC l.length)),(15, .ct (intC i))])
    (fun q=>[(1, .box 191 [intC e, .ex v1, .ex v2]),(9, .mpx v2 (stM q.2)),(8, .mpx v1 (adM q.1)),(0, .box 191 [intC 0, .ex (.map none), .ex (.map none)])]) (fun q hq=> ?_) (fun KN hM=> ?_)
   · have en:=next q hq;refine XJ (Qh (iadd (by omega) (by omega)) J J J J ?_);refine Qg J J J (Qz (Fin.thenN ?_));refine Qk (i+1) (by omega) (by omega) (by rw [en];exact QW J ⟨rfl,rfl,rfl,rfl,by simp only [Int.natCast_add];rfl,trivial⟩)
   clear next;refine St.block (Xc (XJ (Ops.idxF J J J sRes (by omega) (rss_at (by omega) (by omega)) J ?_)));rw [e2];generalize l.getD i rs0=c at hM ⊢;refine Ops.ldNF (n:=17) J J J lRes J J (Xh 2 J J zvRes J J J (Zu 17 J J J J J szRes J J (Qz (Qt ?_))));have hU:=Usable_ok c
   have es:lookS e m c=if usR c=false \/(0<e/\ e<c.tt) then m
    else if c.an=false then (m.1,ins m.2 (c.fl,c.tt) (max ((look1 m.2 (c.fl,c.tt)).getD 0) 1))
    else if (look1 m.2 (c.fl,c.tt)).getD 0<=1 then (ins m.1 (c.fl,c.tt) c.fr,ins m.2 (c.fl,c.tt) 2)
    else if (look1 m.2 (c.fl,c.tt)).getD 0=2/\ (look1 m.1 (c.fl,c.tt)).getD 0≠c.fr then (ins m.1 (c.fl,c.tt) 0,ins m.2 (c.fl,c.tt) 3)
    else m:=rfl
   generalize usR c=ub at hU es;refine Xc (Xc ?_)
   refine St.cutN (α:=Bool) (fun b=>b=true↔(ub=false \/(0<e/\ e<c.tt)))
    (fun b=>[(2, .own 0),(3, .own 1),(5, .own 2),(13, .ct (rssC l)),(14, .ct (intC l.length)),(15, .ct (intC i)),(33, .ct (boolC b))])
    (fun _=>[(2, .box 62 (rsCs c)),(1, .box 191 [intC e, .ex v1, .ex v2]),(9, .mpx v2 (stM m.2)),(8, .mpx v1 (adM m.1)),(0, .box 191 [intC 0, .ex (.map none), .ex (.map none)])]) (fun b hb=> ?_) (fun KK hN=> ?_)
   rotate_left
   · refine XJ (Xb (n:=17) J J J J J lRes J (Zy (gT J) hU J J J J (Ops.inot J J J (Qg J J J (Xk 22 (b:= !ub) J (fun h1=> ?_) (fun h1=> ?_))))))
     · refine Xr J J J (Xr J J J (Xr J J J (Xr J J J (Xr J J J (Xr J J J (Xr J J J (Xr J J J (Xr J J J (Xr J J J (Y0 J J J J (Qz ?_)))))))))));exact Q7 hN true (iff_of_true J (.inl (by simpa using h1))) (by exact QW J ⟨rfl,rfl,rfl,rfl,rfl,rfl,rfl,trivial⟩)
     · have hub:ub=true:=by simpa using h1
       refine Z1 J J J fV0 J (QK J J J J J lInt J (Qh igtr J J J J (Qg J J J (QQ 26 (p:=0<e) J (fun h3=> ?_) (fun h3=> ?_)))))
       · refine Z1 J J J fS7 J (QK J J J J J lInt J (Z1 J J J fV0 J (QK J J J J J lInt J (Qh igtr J J J J (Y0 J J J J (Ops.pickF J J J J (Qz ?_)))))));exact Q7 hN (decide (e<c.tt)) (by rw [decide_eq_true_iff];constructor;exact fun h=> .inr ⟨h3,h⟩;exact fun h=>h.elim (fun h=>by rw [hub] at h;cases h) (·.2)) (by exact QW J ⟨rfl,rfl,rfl,rfl,rfl,rfl,rfl,trivial⟩)
       · refine Xr J J J (Xr J J J (Xr J J J (Xr J J J (Xr J J J (Ops.pickF J J J J (Ops.pickF J J J J (Qz ?_)))))));exact Q7 hN false (iff_of_false (by decide) (fun h=>h.elim (fun h=>by rw [hub] at h;cases h) (fun h=>h3 h.1))) (by exact QW J ⟨rfl,rfl,rfl,rfl,rfl,rfl,rfl,trivial⟩)
   cases b with
   |true=>
    have es:lookS e m c=m:=by rw [es,if_pos (hb.1 J)]
    refine St.condT J (St.exit (Fin.thenExit (Fin.blockE ?_)));exact Q7 hM _ es (Q1 2 (by exact QW J ⟨rfl,rfl,rfl,rfl,rfl,trivial⟩))
   |false=>
    rw [if_neg (fun h=>by have:=hb.2 h;cases this)] at es;refine St.condF J (St.skip (Qt (Xc (XJ ?_))));refine Z1 J J J fS6 J (QK J J J J J lInt J (Z1 J J J fS7 J (QK J J J J J lInt J (Yf J bSpot J (.one J J J J (.one J J J J .nil)) J (Xh 3 J J zvSpot J J J (Zu 2 J J J J J szSpot J J (Qz (Qt (Xc ?_)))))))));refine XJ (Z1 J J J fV2 J (QK J J J J J lMSt J (Xb (n:=2) J J J J J JY J (Ops.lookM (i:=9) (cv:=intC) (enc:=spE) 0 (c.fl,c.tt) J J J J (KeyIs.agg (us:=[.int .i64 c.fl, .int .i64 c.tt]) J) uMSt z0Int (fun _ _=>rfl) Zq J ?_))));generalize (look1 m.2 (c.fl,c.tt)).getD 0=kn at es ⊢;refine Xa J J J (Qz (Qt (St.block (Xc ?_))));refine XJ (Z1 J J J fS8 J (QK J J J J J lBool1 J (Ops.inot J J J (Xa J J J (Qz (Qt ?_))))));refine Xx J (fun h1=> ?_) (fun h1=> ?_)
    · have h1' :c.an=false:=by simpa using h1
      rw [if_pos h1'] at es;refine XJ (Z1 J J J fV2 J (QK J J J J J lMSt J (Xb (n:=2) J J J J J JY J (Qg J J J (Ops.max2 J J J J (Xq (i:=9) (enc:=spE) (cv:=intC) (c.fl,c.tt) (max kn 1) J J J (KeyIs.agg (us:=[.int .i64 c.fl, .int .i64 c.tt]) J) J uMSt Zq (Qz (Qd (Qd ?_)))))))));exact Q7 hM _ es (Q1 3 (Q1 2 (by exact QW J ⟨rfl,rfl,rfl,rfl,rfl,trivial⟩)))
    · have h1' :c.an=true:=by simpa using h1
      rw [if_neg (fun h=>by rw [h1'] at h;cases h)] at es;refine Xc (XJ ?_);refine Qg J J J (Qh ileq J J J J (Xa J J J (Qz (Qt ?_))));refine Qy J (fun h2=> ?_) (fun h2=> ?_)
      · rw [if_pos h2] at es;refine St.drawQ mixed [9,10] (.p 0 (.p 3 (.p 6 (.p 7 (.f 1 (.f 2 (.m 4 (.m 5 (.m 8 (.a 9 (.a 10 .done .non) .non) (.a 9 (.f 8 (.a 10 .done .non)) .non)) (.m 8 (.m 5 (.a 9 (.a 10 .done .non) .non) (.a 9 (.f 5 (.a 10 .done .non)) .non)) (.a 9 (.f 5 (.f 8 (.a 10 .done .non))) .non))) (.m 5 (.m 4 (.m 8 (.a 9 (.a 10 .done .non) .non) (.a 9 (.f 8 (.a 10 .done .non)) .non)) (.m 8 (.m 4 (.a 9 (.a 10 .done .non) .non) (.a 9 (.f 4 (.a 10 .done .non)) .non)) (.a 9 (.f 4 (.f 8 (.a 10 .done .non))) .non))) (.m 8 (.m 4 (.m 5 (.a 9 (.a 10 .done .non) .non) (.a 9 (.f 5 (.a 10 .done .non)) .non)) (.m 5 (.m 4 (.a 9 (.a 10 .done .non) .non) (.a 9 (.f 4 (.a 10 .done .non)) .non)) (.a 9 (.f 4 (.f 5 (.a 10 .done .non))) .non))) (.a 9 (.f 4 (.f 5 (.f 8 (.a 10 .done .non)))) .non)))))))))) (by kernel_rfl) (fun K hK=> ?_);refine X7 (Z1 J J J fV2 J (Qz (X7 (Z1 J J J fV1 J (Qz (X7 (Z1 J J J fS11 J (Qz (X7 (Ops.fldA J J fN0 J (Qz (Xt (QK J J J J J lMSt J (Qz (Xt (Xb (n:=2) J J J J J JY J (Qz (Ql ?_ ?_))))))))))))))))))
        · refine QK J J J J J lMAd J (Qz (Ql ?_ ?_))
          · refine Xb (n:=2) J J J J J JY J (Qz (Ql ?_ ?_))
            · refine QK J J J J J lAddr J (Qz (Q0 ?_ Qu));refine Xq (i:=9) (enc:=spE) (cv:=intC) (c.fl,c.tt) 2 J J J (KeyIs.agg (us:=[.int .i64 c.fl, .int .i64 c.tt]) J) J uMSt Zq (Qz (Q0 ?_ Qu));refine Xq (i:=8) (enc:=spE) (cv:=adrF) (c.fl,c.tt) c.fr J J J (KeyIs.agg (us:=[.int .i64 c.fl, .int .i64 c.tt]) J) J uMAd Zq (Qz (Qb (hK _ _ ?_)));refine Qd (Qd ?_);exact Q7 hM _ es (Q1 3 (Q1 2 (by exact QW J ⟨rfl,rfl,rfl,rfl,rfl,trivial⟩)))
            refine Q0 ?_ Qu
            refine Xq (i:=9) (enc:=spE) (cv:=intC) (c.fl,c.tt) 2 J J J (KeyIs.agg (us:=[.int .i64 c.fl, .int .i64 c.tt]) J) J uMSt Zq (Qz (Xt (QK J J J J J lAddr J (Qz (Q0 ?_ Qu)))));refine Xq (i:=8) (enc:=spE) (cv:=adrF) (c.fl,c.tt) c.fr J J J (KeyIs.agg (us:=[.int .i64 c.fl, .int .i64 c.tt]) J) J uMAd Zq (Qz (Qb (hK _ _ ?_)));refine Qd (Qd ?_);exact Q7 hM _ es (Q1 3 (Q1 2 (by exact QW J ⟨rfl,rfl,rfl,rfl,rfl,trivial⟩)))
          refine Ql ?_ ?_
          · refine QK J J J J J lAddr J (Qz (Ql ?_ ?_))
            · refine Xb (n:=2) J J J J J JY J (Qz (Q0 ?_ Qu));refine Xq (i:=9) (enc:=spE) (cv:=intC) (c.fl,c.tt) 2 J J J (KeyIs.agg (us:=[.int .i64 c.fl, .int .i64 c.tt]) J) J uMSt Zq (Qz (Q0 ?_ Qu));refine Xq (i:=8) (enc:=spE) (cv:=adrF) (c.fl,c.tt) c.fr J J J (KeyIs.agg (us:=[.int .i64 c.fl, .int .i64 c.tt]) J) J uMAd Zq (Qz (Qb (hK _ _ ?_)));refine Qd (Qd ?_);exact Q7 hM _ es (Q1 3 (Q1 2 (by exact QW J ⟨rfl,rfl,rfl,rfl,rfl,trivial⟩)))
            refine Q0 ?_ Qu
            refine Xq (i:=9) (enc:=spE) (cv:=intC) (c.fl,c.tt) 2 J J J (KeyIs.agg (us:=[.int .i64 c.fl, .int .i64 c.tt]) J) J uMSt Zq (Qz (Xt (Xb (n:=2) J J J J J JY J (Qz (Q0 ?_ Qu)))));refine Xq (i:=8) (enc:=spE) (cv:=adrF) (c.fl,c.tt) c.fr J J J (KeyIs.agg (us:=[.int .i64 c.fl, .int .i64 c.tt]) J) J uMAd Zq (Qz (Qb (hK _ _ ?_)));refine Qd (Qd ?_);exact Q7 hM _ es (Q1 3 (Q1 2 (by exact QW J ⟨rfl,rfl,rfl,rfl,rfl,trivial⟩)))
          refine Q0 ?_ Qu
          refine Xq (i:=9) (enc:=spE) (cv:=intC) (c.fl,c.tt) 2 J J J (KeyIs.agg (us:=[.int .i64 c.fl, .int .i64 c.tt]) J) J uMSt Zq (Qz (Xt (Xb (n:=2) J J J J J JY J (Qz (Xt (QK J J J J J lAddr J (Qz (Q0 ?_ Qu))))))));refine Xq (i:=8) (enc:=spE) (cv:=adrF) (c.fl,c.tt) c.fr J J J (KeyIs.agg (us:=[.int .i64 c.fl, .int .i64 c.tt]) J) J uMAd Zq (Qz (Qb (hK _ _ ?_)));refine Qd (Qd ?_);exact Q7 hM _ es (Q1 3 (Q1 2 (by exact QW J ⟨rfl,rfl,rfl,rfl,rfl,trivial⟩)))
        refine Ql ?_ ?_
        · refine Xb (n:=2) J J J J J JY J (Qz (Ql ?_ ?_))
          · refine QK J J J J J lMAd J (Qz (Ql ?_ ?_))
            · refine QK J J J J J lAddr J (Qz (Q0 ?_ Qu));refine Xq (i:=9) (enc:=spE) (cv:=intC) (c.fl,c.tt) 2 J J J (KeyIs.agg (us:=[.int .i64 c.fl, .int .i64 c.tt]) J) J uMSt Zq (Qz (Q0 ?_ Qu));refine Xq (i:=8) (enc:=spE) (cv:=adrF) (c.fl,c.tt) c.fr J J J (KeyIs.agg (us:=[.int .i64 c.fl, .int .i64 c.tt]) J) J uMAd Zq (Qz (Qb (hK _ _ ?_)));refine Qd (Qd ?_);exact Q7 hM _ es (Q1 3 (Q1 2 (by exact QW J ⟨rfl,rfl,rfl,rfl,rfl,trivial⟩)))
            refine Q0 ?_ Qu
            refine Xq (i:=9) (enc:=spE) (cv:=intC) (c.fl,c.tt) 2 J J J (KeyIs.agg (us:=[.int .i64 c.fl, .int .i64 c.tt]) J) J uMSt Zq (Qz (Xt (QK J J J J J lAddr J (Qz (Q0 ?_ Qu)))));refine Xq (i:=8) (enc:=spE) (cv:=adrF) (c.fl,c.tt) c.fr J J J (KeyIs.agg (us:=[.int .i64 c.fl, .int .i64 c.tt]) J) J uMAd Zq (Qz (Qb (hK _ _ ?_)));refine Qd (Qd ?_);exact Q7 hM _ es (Q1 3 (Q1 2 (by exact QW J ⟨rfl,rfl,rfl,rfl,rfl,trivial⟩)))
          refine Ql ?_ ?_
          · refine QK J J J J J lAddr J (Qz (Ql ?_ ?_))
            · refine QK J J J J J lMAd J (Qz (Q0 ?_ Qu));refine Xq (i:=9) (enc:=spE) (cv:=intC) (c.fl,c.tt) 2 J J J (KeyIs.agg (us:=[.int .i64 c.fl, .int .i64 c.tt]) J) J uMSt Zq (Qz (Q0 ?_ Qu));refine Xq (i:=8) (enc:=spE) (cv:=adrF) (c.fl,c.tt) c.fr J J J (KeyIs.agg (us:=[.int .i64 c.fl, .int .i64 c.tt]) J) J uMAd Zq (Qz (Qb (hK _ _ ?_)));refine Qd (Qd ?_);exact Q7 hM _ es (Q1 3 (Q1 2 (by exact QW J ⟨rfl,rfl,rfl,rfl,rfl,trivial⟩)))
            refine Q0 ?_ Qu
            refine Xq (i:=9) (enc:=spE) (cv:=intC) (c.fl,c.tt) 2 J J J (KeyIs.agg (us:=[.int .i64 c.fl, .int .i64 c.tt]) J) J uMSt Zq (Qz (Xt (QK J J J J J lMAd J (Qz (Q0 ?_ Qu)))));refine Xq (i:=8) (enc:=spE) (cv:=adrF) (c.fl,c.tt) c.fr J J J (KeyIs.agg (us:=[.int .i64 c.fl, .int .i64 c.tt]) J) J uMAd Zq (Qz (Qb (hK _ _ ?_)));refine Qd (Qd ?_);exact Q7 hM _ es (Q1 3 (Q1 2 (by exact QW J ⟨rfl,rfl,rfl,rfl,rfl,trivial⟩)))
          refine Q0 ?_ Qu
          refine Xq (i:=9) (enc:=spE) (cv:=intC) (c.fl,c.tt) 2 J J J (KeyIs.agg (us:=[.int .i64 c.fl, .int .i64 c.tt]) J) J uMSt Zq (Qz (Xt (QK J J J J J lMAd J (Qz (Xt (QK J J J J J lAddr J (Qz (Q0 ?_ Qu))))))));refine Xq (i:=8) (enc:=spE) (cv:=adrF) (c.fl,c.tt) c.fr J J J (KeyIs.agg (us:=[.int .i64 c.fl, .int .i64 c.tt]) J) J uMAd Zq (Qz (Qb (hK _ _ ?_)));refine Qd (Qd ?_);exact Q7 hM _ es (Q1 3 (Q1 2 (by exact QW J ⟨rfl,rfl,rfl,rfl,rfl,trivial⟩)))
        refine Ql ?_ ?_
        · refine QK J J J J J lAddr J (Qz (Ql ?_ ?_))
          · refine QK J J J J J lMAd J (Qz (Ql ?_ ?_))
            · refine Xb (n:=2) J J J J J JY J (Qz (Q0 ?_ Qu));refine Xq (i:=9) (enc:=spE) (cv:=intC) (c.fl,c.tt) 2 J J J (KeyIs.agg (us:=[.int .i64 c.fl, .int .i64 c.tt]) J) J uMSt Zq (Qz (Q0 ?_ Qu));refine Xq (i:=8) (enc:=spE) (cv:=adrF) (c.fl,c.tt) c.fr J J J (KeyIs.agg (us:=[.int .i64 c.fl, .int .i64 c.tt]) J) J uMAd Zq (Qz (Qb (hK _ _ ?_)));refine Qd (Qd ?_);exact Q7 hM _ es (Q1 3 (Q1 2 (by exact QW J ⟨rfl,rfl,rfl,rfl,rfl,trivial⟩)))
            refine Q0 ?_ Qu
            refine Xq (i:=9) (enc:=spE) (cv:=intC) (c.fl,c.tt) 2 J J J (KeyIs.agg (us:=[.int .i64 c.fl, .int .i64 c.tt]) J) J uMSt Zq (Qz (Xt (Xb (n:=2) J J J J J JY J (Qz (Q0 ?_ Qu)))));refine Xq (i:=8) (enc:=spE) (cv:=adrF) (c.fl,c.tt) c.fr J J J (KeyIs.agg (us:=[.int .i64 c.fl, .int .i64 c.tt]) J) J uMAd Zq (Qz (Qb (hK _ _ ?_)));refine Qd (Qd ?_);exact Q7 hM _ es (Q1 3 (Q1 2 (by exact QW J ⟨rfl,rfl,rfl,rfl,rfl,trivial⟩)))
          refine Ql ?_ ?_
          · refine Xb (n:=2) J J J J J JY J (Qz (Ql ?_ ?_))
            · refine QK J J J J J lMAd J (Qz (Q0 ?_ Qu));refine Xq (i:=9) (enc:=spE) (cv:=intC) (c.fl,c.tt) 2 J J J (KeyIs.agg (us:=[.int .i64 c.fl, .int .i64 c.tt]) J) J uMSt Zq (Qz (Q0 ?_ Qu));refine Xq (i:=8) (enc:=spE) (cv:=adrF) (c.fl,c.tt) c.fr J J J (KeyIs.agg (us:=[.int .i64 c.fl, .int .i64 c.tt]) J) J uMAd Zq (Qz (Qb (hK _ _ ?_)));refine Qd (Qd ?_);exact Q7 hM _ es (Q1 3 (Q1 2 (by exact QW J ⟨rfl,rfl,rfl,rfl,rfl,trivial⟩)))
            refine Q0 ?_ Qu
            refine Xq (i:=9) (enc:=spE) (cv:=intC) (c.fl,c.tt) 2 J J J (KeyIs.agg (us:=[.int .i64 c.fl, .int .i64 c.tt]) J) J uMSt Zq (Qz (Xt (QK J J J J J lMAd J (Qz (Q0 ?_ Qu)))));refine Xq (i:=8) (enc:=spE) (cv:=adrF) (c.fl,c.tt) c.fr J J J (KeyIs.agg (us:=[.int .i64 c.fl, .int .i64 c.tt]) J) J uMAd Zq (Qz (Qb (hK _ _ ?_)));refine Qd (Qd ?_);exact Q7 hM _ es (Q1 3 (Q1 2 (by exact QW J ⟨rfl,rfl,rfl,rfl,rfl,trivial⟩)))
          refine Q0 ?_ Qu
          refine Xq (i:=9) (enc:=spE) (cv:=intC) (c.fl,c.tt) 2 J J J (KeyIs.agg (us:=[.int .i64 c.fl, .int .i64 c.tt]) J) J uMSt Zq (Qz (Xt (QK J J J J J lMAd J (Qz (Xt (Xb (n:=2) J J J J J JY J (Qz (Q0 ?_ Qu))))))));refine Xq (i:=8) (enc:=spE) (cv:=adrF) (c.fl,c.tt) c.fr J J J (KeyIs.agg (us:=[.int .i64 c.fl, .int .i64 c.tt]) J) J uMAd Zq (Qz (Qb (hK _ _ ?_)));refine Qd (Qd ?_);exact Q7 hM _ es (Q1 3 (Q1 2 (by exact QW J ⟨rfl,rfl,rfl,rfl,rfl,trivial⟩)))
        refine Q0 ?_ Qu
        refine Xq (i:=9) (enc:=spE) (cv:=intC) (c.fl,c.tt) 2 J J J (KeyIs.agg (us:=[.int .i64 c.fl, .int .i64 c.tt]) J) J uMSt Zq (Qz (Xt (QK J J J J J lMAd J (Qz (Xt (Xb (n:=2) J J J J J JY J (Qz (Xt (QK J J J J J lAddr J (Qz (Q0 ?_ Qu)))))))))));refine Xq (i:=8) (enc:=spE) (cv:=adrF) (c.fl,c.tt) c.fr J J J (KeyIs.agg (us:=[.int .i64 c.fl, .int .i64 c.tt]) J) J uMAd Zq (Qz (Qb (hK _ _ ?_)));refine Qd (Qd ?_);exact Q7 hM _ es (Q1 3 (Q1 2 (by exact QW J ⟨rfl,rfl,rfl,rfl,rfl,trivial⟩)))
      · rw [if_neg h2] at es;refine Xc (St.draw mixed 13 (.p 0 (.p 1 (.p 2 (.p 3 (.p 7 (.p 8 (.f 4 (.f 5 (.f 6 (.f 9 (.p 10 (.p 11 (.p 12 .done))))))))))))) (by kernel_rfl) ?_);refine Qg J J J (Qh ieql J J J J (Qg J J J (QQ 67 (p:=kn=2) J (fun h3=> ?_) (fun h3=> ?_))))
        · refine Z1 J J J fV1 J (Z1 J J J fS11 J (Ops.fldA J J fN0 J (QK J J J J J lMAd J (Xb (n:=2) J J J J J JY J (Ops.lookM (i:=8) (cv:=adrF) (enc:=spE) 0 (c.fl,c.tt) J J J J (KeyIs.agg (us:=[.int .i64 c.fl, .int .i64 c.tt]) J) uMAd z0Adr (fun _ _=>rfl) Zq J ?_)))));generalize (look1 m.1 (c.fl,c.tt)).getD 0=a at es ⊢;refine QK J J J J J lAddr J (Qh ineq J J J J (Y0 J J J J (Xa J J J (Qz (Qt ?_)))));refine Qy J (fun h4=> ?_) (fun h4=> ?_)
          · rw [if_pos ⟨h3,fun h=>h4 (by rw [h])⟩] at es;refine St.drawQ mixed [6,7] (.p 0 (.p 3 (.f 1 (.f 2 (.m 4 (.m 5 (.a 6 (.a 7 .done .non) .non) (.a 6 (.f 5 (.a 7 .done .non)) .non)) (.m 5 (.m 4 (.a 6 (.a 7 .done .non) .non) (.a 6 (.f 4 (.a 7 .done .non)) .non)) (.a 6 (.f 4 (.f 5 (.a 7 .done .non))) .non))))))) (by kernel_rfl) (fun K hK=> ?_);refine X7 (Z1 J J J fV2 J (Qz (X7 (Z1 J J J fV1 J (Qz (Xt (QK J J J J J lMSt J (Qz (Xt (Xb (n:=2) J J J J J JY J (Qz (Ql ?_ ?_))))))))))))
            · refine QK J J J J J lMAd J (Qz (Ql ?_ ?_))
              · refine Xb (n:=2) J J J J J JY J (Qz (Q0 ?_ Qu));refine Xq (i:=9) (enc:=spE) (cv:=intC) (c.fl,c.tt) 3 J J J (KeyIs.agg (us:=[.int .i64 c.fl, .int .i64 c.tt]) J) J uMSt Zq (Qz (Q0 ?_ Qu));refine Xq (i:=8) (enc:=spE) (cv:=adrF) (c.fl,c.tt) 0 J J J (KeyIs.agg (us:=[.int .i64 c.fl, .int .i64 c.tt]) J) J uMAd Zq (Qz (Qb (hK _ _ ?_)));refine Qd (Qd ?_);exact Q7 hM _ es (Q1 3 (Q1 2 (by exact QW J ⟨rfl,rfl,rfl,rfl,rfl,trivial⟩)))
              refine Q0 ?_ Qu
              refine Xq (i:=9) (enc:=spE) (cv:=intC) (c.fl,c.tt) 3 J J J (KeyIs.agg (us:=[.int .i64 c.fl, .int .i64 c.tt]) J) J uMSt Zq (Qz (Xt (Xb (n:=2) J J J J J JY J (Qz (Q0 ?_ Qu)))));refine Xq (i:=8) (enc:=spE) (cv:=adrF) (c.fl,c.tt) 0 J J J (KeyIs.agg (us:=[.int .i64 c.fl, .int .i64 c.tt]) J) J uMAd Zq (Qz (Qb (hK _ _ ?_)));refine Qd (Qd ?_);exact Q7 hM _ es (Q1 3 (Q1 2 (by exact QW J ⟨rfl,rfl,rfl,rfl,rfl,trivial⟩)))
            refine Ql ?_ ?_
            · refine Xb (n:=2) J J J J J JY J (Qz (Ql ?_ ?_))
              · refine QK J J J J J lMAd J (Qz (Q0 ?_ Qu));refine Xq (i:=9) (enc:=spE) (cv:=intC) (c.fl,c.tt) 3 J J J (KeyIs.agg (us:=[.int .i64 c.fl, .int .i64 c.tt]) J) J uMSt Zq (Qz (Q0 ?_ Qu));refine Xq (i:=8) (enc:=spE) (cv:=adrF) (c.fl,c.tt) 0 J J J (KeyIs.agg (us:=[.int .i64 c.fl, .int .i64 c.tt]) J) J uMAd Zq (Qz (Qb (hK _ _ ?_)));refine Qd (Qd ?_);exact Q7 hM _ es (Q1 3 (Q1 2 (by exact QW J ⟨rfl,rfl,rfl,rfl,rfl,trivial⟩)))
              refine Q0 ?_ Qu
              refine Xq (i:=9) (enc:=spE) (cv:=intC) (c.fl,c.tt) 3 J J J (KeyIs.agg (us:=[.int .i64 c.fl, .int .i64 c.tt]) J) J uMSt Zq (Qz (Xt (QK J J J J J lMAd J (Qz (Q0 ?_ Qu)))));refine Xq (i:=8) (enc:=spE) (cv:=adrF) (c.fl,c.tt) 0 J J J (KeyIs.agg (us:=[.int .i64 c.fl, .int .i64 c.tt]) J) J uMAd Zq (Qz (Qb (hK _ _ ?_)));refine Qd (Qd ?_);exact Q7 hM _ es (Q1 3 (Q1 2 (by exact QW J ⟨rfl,rfl,rfl,rfl,rfl,trivial⟩)))
            refine Q0 ?_ Qu
            refine Xq (i:=9) (enc:=spE) (cv:=intC) (c.fl,c.tt) 3 J J J (KeyIs.agg (us:=[.int .i64 c.fl, .int .i64 c.tt]) J) J uMSt Zq (Qz (Xt (QK J J J J J lMAd J (Qz (Xt (Xb (n:=2) J J J J J JY J (Qz (Q0 ?_ Qu))))))));refine Xq (i:=8) (enc:=spE) (cv:=adrF) (c.fl,c.tt) 0 J J J (KeyIs.agg (us:=[.int .i64 c.fl, .int .i64 c.tt]) J) J uMAd Zq (Qz (Qb (hK _ _ ?_)));refine Qd (Qd ?_);exact Q7 hM _ es (Q1 3 (Q1 2 (by exact QW J ⟨rfl,rfl,rfl,rfl,rfl,trivial⟩)))
          · rw [if_neg (fun h=>h.2 (Fin.ext (by omega)))] at es;refine St.skip (Qd (Qd ?_));exact Q7 hM _ es (Q1 3 (Q1 2 (by exact QW J ⟨rfl,rfl,rfl,rfl,rfl,trivial⟩)))
        · rw [if_neg (fun h=>h3 h.1)] at es;refine Xr J J J (Xr J J J (Xr J J J (Xr J J J (Xr J J J (Xr J J J (Xr J J J (Xr J J J (Ops.pickF J J J J (Xa J J J (Qz (Qt (St.condF J (St.skip (Qd (Qd ?_)))))))))))))));exact Q7 hM _ es (Q1 3 (Q1 2 (by exact QW J ⟨rfl,rfl,rfl,rfl,rfl,trivial⟩)))
 · have hi' :i=l.length:=by omega
   have el:(l.take i).foldl (lookS e) ([],[])=l.foldl (lookS e) ([],[]):=by rw [hi',List.take_length]
   rw [el]
   refine St.frzM 8 1 1 J J J (fun _ h=>h.elim) ?_
   refine St.frzM 9 1 2 J J J (fun _ h=>h.elim) ?_
   refine St.exit (Qt (Xc (XJ ?_)));refine Xb (n:=3) J J J J J lView J (Zu 3 J J J J J szView J J (Qz (Qt (St.ret ?_))));refine Fin.end [_] rfl (Qi (n:=3) J J lView J Q3) J J
theorem Path_ok(l:List Rs)(fl:Int)(hl:l.length<=100000):OkF prog 53 [rssC l,intC fl] 40 1 (adrs (pathF l fl)):=by
 have hL:=Look_ok l hl
 have hb:∀tt,hasS (lookG l).2 fl tt=true ->1<=tt/\ tt<=255:=fun tt h=>hasS_tt h
 have e0:pathF l fl=pathG (lookG l) fl 256 1:=rfl;rw [e0];clear e0;generalize endF l=e at hL;generalize lookG l=m at hL hb ⊢
 refine OkF.enter func53 J _ ntmps53 J ?_
 intro S w;refine Qj 8 J (Qv (gT J) hL J (Qq 16 J (Xo 6 1 40 1 J J J ?_)))
 refine QY (α:=List Ad) (fun pre=>pre.length<=255/\ pathG m fl 256 1=pre++pathG m fl (256 - pre.length) (pre.length+1))
  (fun pre=>[(1, .ct (intC fl)),(5, .own 0),(6, .own 1),(7, .ct (intC (pre.length+1)))])
  (fun pre=>[(1, .row 40 1 (adrs pre)),(0, .box 191 [intC e, .fr (mapT (adM m.1)), .fr (mapT (stM m.2))])]) (fun pre=>256 - pre.length) [] ⟨Nat.zero_le _,rfl⟩ (by exact Qx J) ?_
 intro pre ⟨hp,hq⟩
 try dsimp only
 have hH:=Has_ok e fl (pre.length+1) m;have hb1:=hb (pre.length+1)
 have hun:∀k,pathG m fl (k+1) (pre.length+1)=if hasS m.2 fl (pre.length+1) then (look1 m.1 (fl,(pre.length:Int)+1)).getD 0::pathG m fl k (pre.length+1+1) else []:=fun _=>rfl
 generalize hasS m.2 fl (pre.length+1)=hs at hH hb1 hun;refine Qj 6 J (Qv (gT J) hH J (Qq 2 J ?_));refine Xx J (fun h=> ?_) (fun h=> ?_)
 · have hl2:=hb1 h;obtain ⟨k,hk⟩:∃k,256 - pre.length=k+1:=⟨255 - pre.length,by omega⟩;rw [hk,hun,if_pos h] at hq;refine Qj 11 J (Ops.lookF (cv:=adrF) (enc:=spE) 0 (fl,(pre.length:Int)+1) J J J (KeyIs.agg (us:=[.int .i64 fl, .int .i64 ((pre.length:Int)+1)]) J) uMAd z0Adr (fun _ _=>rfl) Zq J ?_);generalize (look1 m.1 (fl,(pre.length:Int)+1)).getD 0=a at hq ⊢;refine Qo J J sAdrs J J J (QJ pre.length (adrs (pre++ [a])) J J J J sAdrs (by simp [adrs]) J (by omega) (by omega) (by simp [adrs]) J ?_);refine QZ 9 J (by omega) ?_;refine Qk (pre++ [a]) (by rw [List.length_append];simp;omega) ⟨by rw [List.length_append];simp;omega,?_⟩ (by exact QW J ⟨rfl,rfl,rfl,by simp only [List.length_append,List.length_cons,List.length_nil,Int.natCast_add];rfl,trivial⟩);rw [hq,List.length_append,List.append_assoc]
   have:256 - (pre.length+ [a].length)=k:=by simp;omega
   rw [this];simp
 · obtain ⟨k,hk⟩:∃k,256 - pre.length=k+1:=⟨255 - pre.length,by omega⟩;rw [hk,hun,if_neg (by rw [h];decide),List.append_nil] at hq;refine Qj 9 J ?_;refine Fin.retF J J (by rw [hq];rfl) J
abbrev esI (s : ESp) : List Int := [s.1.va, (s.1.ds.val : Int), s.1.pr, s.2.1, s.2.2]
abbrev esK : List IntKind := [.i64, .u32, .i64] ++ [.i64, .i64]
abbrev esE (s : ESp) : Value := Go.Own.encI esK (esI s)
abbrev esCs (s : ESp) : List CT := [intC s.1.va, adrF s.1.ds, intC s.1.pr, intC s.2.1, intC s.2.2]
abbrev esC (s : ESp) : CT := .agg (esCs s)
abbrev esV (s : ESp) : List Value := [.int .i64 s.1.va, .int .u32 (s.1.ds.val : Int), .int .i64 s.1.pr, .int .i64 s.2.1, .int .i64 s.2.2]
theorem eqES:EqF prog 254 111 [.i64, .u32, .i64] [.i64, .i64]:=⟨by kernel_rfl,by kernel_rfl,by kernel_rfl,by kernel_rfl,by kernel_rfl,by kernel_rfl,by kernel_rfl,by kernel_rfl⟩
theorem esI_inj(a b:ESp)(h:esI a=esI b):a=b:=by
 obtain ⟨⟨a1,a2,a3⟩,a4,a5⟩:=a;obtain ⟨⟨b1,b2,b3⟩,b4,b5⟩:=b;simp only [esI,List.cons.injEq,and_true,Int.ofNat_inj,Fin.val_inj] at h;obtain ⟨h1,h2,h3,h4,h5⟩:=h;rw [h1,h2,h3,h4,h5]
theorem keyES:KeyT prog 254 esE:=eqES.flat.key esI (fun _=>rfl) esI_inj
theorem gES:prog.eqGuardType prog.depth 254=false:=by kernel_rfl
theorem zvES:(prog.info? 254).map (·.zero)=some (some (.agg #[.int .i64 0, .int .u32 0, .int .i64 0, .int .i64 0, .int .i64 0])):=by kernel_rfl
theorem uMSeen:prog.underlying 252=some (.map 254 40):=underlying252
theorem Place_ok(r:Rs):Ok prog 184 [rsC r] (.tup [esC (plS r),boolC (plB r)]):=by
 have hT:=TraceOf_ok r;have hU:=Usable_ok r;have e0:plB r=(r.an&&usR r):=rfl;generalize usR r=ub at hU e0
 refine Ok.enter func184 J _ ntmps184 J ?_
 intro S w;refine Qj 8 J (XY 13 0x800e6d0c4b4a090641800e6d0c4b4a09480608c1252320070402 J ?_);refine Qq 6 J (Zm ?_ ?_)
 · refine Qv (gT J) hT J (Qq 3 J (Xk 13 (b:=r.an) J (fun h=> ?_) (fun h=> ?_)))
   · refine Qq 1 J (Qv (gT J) hU J (Qq 6 J ?_));refine Qw J (by rw [e0,h,Bool.true_and];rfl)
   · refine Qq 8 J ?_;refine Qw J (by rw [e0,h,Bool.false_and];rfl)
 · refine Qq 1 J (Qv (gT J) hT J (Qq 2 J (Xk 13 (b:=r.an) J (fun h=> ?_) (fun h=> ?_))))
   · refine Qq 1 J (Qv (gT J) hU J (Qq 6 J ?_));refine Qw J (by rw [e0,h,Bool.true_and];rfl)
   · refine Qq 8 J ?_;refine Qw J (by rw [e0,h,Bool.false_and];rfl)
theorem Contradict_ok(a b:Rs):Ok prog 125 [rsC a,rsC b] (boolC (conB a b)):=by
 have hA:=Place_ok a;have hB:=Place_ok b;have e0:conB a b=((plB a&&plB b)&&(decide (plS a=plS b)&&decide (a.fr≠b.fr))):=rfl;have e1:decide (esI (plS a)=esI (plS b))=decide (plS a=plS b):=decide_eq_decide.2 ⟨esI_inj _ _,fun h=>by rw [h]⟩;generalize plS a=sa at hA e0 e1;generalize plS b=sb at hB e0 e1;generalize plB a=pa at hA e0;generalize plB b=pb at hB e0
 refine Ok.enter func125 J _ ntmps125 J ?_
 intro S w;refine Qj 10 J (Qv (gT J) hA J (Qq 11 J (Qv (gT J) hB J (Qq 12 J (Xk 20 (b:=pa) J (fun h=> ?_) (fun h=> ?_))))))
 · refine Qq 3 J (Xk 23 (b:=pb) J (fun h2=> ?_) (fun h2=> ?_))
   · refine Qq 2 J (Ops.eqK (ks:=esK) (esI sa) (esI sb) J J J J J eqES.flat gES J ?_);rw [e1];refine Qq 2 J (QQ 28 (p:=sa=sb) J (fun h3=> ?_) (fun h3=> ?_))
     · refine Qq 12 J ?_;refine Qw J (by rw [e0,h,h2,decide_eq_true h3];simp only [Bool.true_and];rw [show (decide (a.fr≠b.fr))=decide (¬((a.fr.val:Int)=b.fr.val)) from decide_eq_decide.2 ⟨fun h h' =>h (Fin.ext (by omega)),fun h h' =>h (by rw [h'])⟩];rfl)
     · refine Qq 12 J ?_;refine Qw J (by rw [e0,h,h2,decide_eq_false h3];rfl)
   · refine Qq 17 J ?_;refine Qw J (by rw [e0,h,h2];rfl)
 · refine Qq 20 J ?_;refine Qw J (by rw [e0,h];rfl)
theorem drop_getD{α:Type}{l:List α}{z:α}{i:Nat}(h:i<l.length):l.drop i=l.getD i z::l.drop (i+1):=by
 rw [List.drop_eq_getElem_cons h,List.getD_eq_getElem?_getD,List.getElem?_eq_getElem h];rfl
theorem Clash_ok(l:List Rs)(hl:l.length<=100000):Ok prog 124 [rssC l] (intC (clashG [] l)):=by
 refine Ok.enter func124 J _ ntmps124 J ?_
 intro S w;refine Qj 7 J (Ops.mkMap 8 J J J J J (fun v1 hv1=> ?_));refine Qq 7 J (QV sRes.und J (Qq 4 J ?_))
 refine QY (α:=Nat × SeenM) (fun q=>q.1<=l.length/\ clashG [] l=q.1+clashG q.2 (l.drop q.1))
  (fun q=>[(3, .ct (.ex v1)),(0, .ct (rssC l)),(11, .ct (rssC l)),(12, .ct (intC l.length)),(13, .ct (intC q.1))]) (fun q=>[(8, .mpx v1 (kvs esE adrF q.2))]) (fun q=>l.length - q.1) (0,[]) ⟨Nat.zero_le _,(Nat.zero_add _).symm⟩ (by exact Qx J) ?_
 rintro ⟨i,m⟩ ⟨hi,hq⟩
 try dsimp only at hi hq ⊢
 refine Qj 6 J ?_;refine Qy J (fun h=> ?_) (fun h=> ?_)
 · have e2:(i:Int).toNat=i:=Int.toNat_natCast i;rw [drop_getD (z:=rs0) (show i<l.length by omega)] at hq;refine Qj 7 J (Q8 rs0 sRes J (by omega) ?_);refine Qq 1 J (Xh 0 J J zvRes J J J (Qq 7 J ?_));rw [e2];generalize l.getD i rs0=c at hq ⊢;have hP:=Place_ok c;simp only [clashG] at hq;generalize plS c=sc at hP hq;generalize plB c=pc at hP hq;refine Qv (gT J) hP J (Qq 3 J (Xh 3 J J zvES J J J (Qq 11 J ?_)));refine Xx J (fun h1=> ?_) (fun h1=> ?_)
   · have h1' :pc=false:=by simpa using h1
     rw [if_pos h1'] at hq;refine Xz 7 J (by omega) ?_;refine Qc 3 (Qc 0 (Qk (i+1,m) (by dsimp only;omega) ⟨by dsimp only;omega,by dsimp only;omega⟩ (by exact Qx J)))
   · have h1' :pc=true:=by simpa using h1
     rw [if_neg (by rw [h1'];decide)] at hq;refine Qj 7 J (Ops.lookM2 (i:=8) (cv:=adrF) (enc:=esE) 0 sc J J J J (KeyIs.agg (us:=esV sc) J) uMSeen z0Adr (fun _ _=>rfl) keyES J ?_);generalize (look1 m sc).isSome=b at hq ⊢;generalize (look1 m sc).getD 0=a at hq ⊢;refine Qq 11 J (Xk 32 (b:=b) J (fun h2=> ?_) (fun h2=> ?_))
     · refine Qq 8 J ?_;refine Qy J (fun h3=> ?_) (fun h3=> ?_)
       · rw [if_pos ⟨h2,fun h=>h3 (by rw [h])⟩] at hq;refine Qj 7 J ?_;refine Qw J (by rw [hq];rfl)
       · rw [if_neg (fun h=>h.2 (Fin.ext (by omega)))] at hq;refine Qj 8 J (Xq (i:=8) (enc:=esE) (cv:=adrF) sc c.fr J J J (KeyIs.agg (us:=esV sc) J) J uMSeen keyES (QZ 7 J (by omega) ?_));refine Qc 3 (Qc 0 (Qk (i+1,ins m sc c.fr) (by dsimp only;omega) ⟨by dsimp only;omega,by dsimp only;omega⟩ (by exact Qx J)))
     · rw [if_neg (fun h=>by rw [h2] at h;cases h.1)] at hq;refine Qq 17 J (Xq (i:=8) (enc:=esE) (cv:=adrF) sc c.fr J J J (KeyIs.agg (us:=esV sc) J) J uMSeen keyES (QZ 7 J (by omega) ?_));refine Qc 3 (Qc 0 (Qk (i+1,ins m sc c.fr) (by dsimp only;omega) ⟨by dsimp only;omega,by dsimp only;omega⟩ (by exact Qx J)))
 · have hi' :i=l.length:=by omega
   rw [hi',List.drop_length] at hq;simp only [clashG,Nat.add_zero] at hq;refine Qj 5 J (QV sRes.und J (Qq 4 J ?_));refine Qw J (by rw [hq];rfl)
theorem witG_loop{p:Rs ->Bool}{z:Rs}:∀(l:List Rs) (i:Nat),(∀j,j<i ->j<l.length ->p (l.getD j z)=false) ->i<=l.length ->l.findIdx? p=((l.drop i).findIdx? p).map (· +i)
 | [],i,_,h=>by
  have:i=0:=by simpa using h
  subst this;rfl
 |a::l,0,_,_=>by simp
 |a::l,i+1,h,hi=>by
  have h0:p a=false:=h 0 (Nat.succ_pos _) (Nat.succ_pos _)
  have ih:=witG_loop l i (fun j h1 h2=>h (j+1) (by omega) (by simpa using h2)) (by simpa using hi)
  rw [List.findIdx?_cons,h0,ih]
  simp only [List.drop_succ_cons,Bool.false_eq_true,if_false,Option.map_map,Function.comp_def]
  rfl
abbrev witC (o : List Rs) : List CT := match witG o with
  | some i => [ikC (idOf (o.getD i rs0)), ikC (idOf (o.getD (clashG [] o) rs0)), boolC true]
  | none => [ikC ⟨0, 0, 0⟩, ikC ⟨0, 0, 0⟩, boolC false]
theorem take_getD{l:List Rs}{z:Rs}{k i:Nat}(h:i<k):(l.take k).getD i z=l.getD i z:=by
 rw [List.getD_eq_getElem?_getD,List.getElem?_take_of_lt h,<- List.getD_eq_getElem?_getD]
theorem fidx_drop{p:Rs ->Bool}{z:Rs}{l:List Rs}{k i:Nat}(hk:k<=l.length)(hi:i<=k)(h:∀j,j<i ->p (l.getD j z)=false):(l.take k).findIdx? p=(((l.take k).drop i).findIdx? p).map (· +i):=by
 refine witG_loop (z:=z) (l.take k) i (fun j h1 h2=> ?_) (by rw [List.length_take];omega);rw [List.getD_eq_getElem?_getD,List.getElem?_take_of_lt (by rw [List.length_take] at h2;omega),<- List.getD_eq_getElem?_getD];exact h j h1
theorem Witness_ok(l:List Rs)(hl:l.length<=10000):Ok prog 81 [rssC l] (.tup (witC (sd cmpR (l.filter okR)))):=by
 have hO:=Order_ok l hl
 have hol:(sd cmpR (l.filter okR)).length<=10000:=by
  have:=sd_len cmpR (l.filter okR);have:=List.length_filter_le okR l;omega
 generalize sd cmpR (l.filter okR)=o at hO hol ⊢;have hC:=Clash_ok o (by omega);have hle:=clashG_le o []
 have ew:witG o=if clashG [] o<o.length then (o.take (clashG [] o)).findIdx? (fun a=>conB a (o.getD (clashG [] o) rs0)) else none:=rfl
 have eC:(CT.tup (witC o))= .tup (match witG o with
  |some i=>[ikC (idOf (o.getD i rs0)),ikC (idOf (o.getD (clashG [] o) rs0)),boolC true]
  |none=>[ikC ⟨0,0,0⟩,ikC ⟨0,0,0⟩,boolC false]):=rfl
 rw [eC];clear eC;generalize clashG [] o=k at hC hle ew ⊢;generalize witG o=wt at ew ⊢
 refine Ok.enter func81 J _ ntmps81 J ?_
 intro S w;refine Qj 10 J (Z7 3 (gT J) hO J J J J J J (Zw 3 _ J (rss_frozen _ _) noBor_sub (Qq 6 J (Qv (gT J) hC J (Qq 10 J ?_)))))
 refine QY (α:=Nat) (fun i=>i<=k/\ (k<o.length ->∀j,j<i ->conB (o.getD j rs0) (o.getD k rs0)=false))
  (fun i=>[(2, .own 0),(3, .own 1),(5, .ct (rssC o)),(6, .ct (intC k)),(7, .ct (intC i))]) (fun _=>[(1, .box 87 (ikCs ⟨0,0,0⟩)),(0, .box 87 (ikCs ⟨0,0,0⟩))]) (fun i=>k - i) 0 ⟨Nat.zero_le _,fun _ j hj=>by omega⟩ (by exact Qx J) ?_
 intro i ⟨hi,hq⟩
 try dsimp only
 refine Qj 7 J (QQ 15 (p:=(i:Int)<k) J (fun h=> ?_) (fun h=> ?_))
 · refine Qq 2 J (QV sRes.und J (Qq 4 J ?_));refine Qy J (fun h2=> ?_) (fun h2=> ?_)
   · have hk:k<o.length:=by omega
     rw [if_pos hk,fidx_drop (i:=i) hle hi (hq hk)] at ew;have e1:(i:Int).toNat=i:=Int.toNat_natCast i;have e2:(k:Int).toNat=k:=Int.toNat_natCast k;rw [drop_getD (z:=rs0) (show i<(o.take k).length by rw [List.length_take];omega),take_getD (by omega),List.findIdx?_cons] at ew;have hCo:=Contradict_ok (o.getD i rs0) (o.getD k rs0)
     have hn:conB (o.getD i rs0) (o.getD k rs0)=false ->∀j,j<i+1 ->conB (o.getD j rs0) (o.getD k rs0)=false:=fun h j hj=>by
      rcases Nat.lt_or_ge j i with h3|h3
      · exact hq hk j h3
      · have:j=i:=by omega
        rw [this];exact h
     generalize conB (o.getD i rs0) (o.getD k rs0)=cb at hCo hn ew;have hA:=Identity_ok (o.getD i rs0);have hB:=Identity_ok (o.getD k rs0);refine Qj 5 J (XY 9 0x80482723060504020100 J ?_);refine Qq 2 J (Q8 rs0 sRes J (by omega) ?_);refine Qq 2 J (Q8 rs0 sRes J (by omega) ?_);refine Qq 2 J ?_;rw [e1,e2];refine Qv (gT J) hCo J (Qq 2 J ?_);refine Xx J (fun h3=> ?_) (fun h3=> ?_)
     · rw [if_pos h3] at ew;simp only [Option.map_some,Nat.zero_add] at ew;refine Qj 1 J (XY 10 0x800c6b6a4944800c6b6a494808c423070605020100 J ?_);refine Qq 2 J (Q8 rs0 sRes J (by omega) ?_);refine Qq 2 J (Q8 rs0 sRes J (by omega) ?_);refine Qq 1 J ?_
       rw [e1]
       refine Zm ?_ ?_
       · refine Qv (gT J) hA J (Qq 1 J ?_);rw [e2]
         refine Qv (gT J) hB J ?_
         refine Qq 6 J ?_;refine Qw J (by rw [ew];rfl)
       · refine Qq 1 J ?_
         rw [e2]
         refine Qv (gT J) hA J ?_
         refine Qv (gT J) hB J ?_
         refine Qq 6 J ?_;refine Qw J (by rw [ew];rfl)
     · refine Xz 8 J (by omega) ?_;refine Qk (i+1) (by omega) ⟨by omega,fun _=>hn h3⟩ (by exact Qx J)
   · rw [if_neg (by omega)] at ew;refine Qj 12 J ?_;refine Qw J (by rw [ew];rfl)
 · have ew:wt=none:=by
    rw [ew];split
    · rename_i hk
      rw [fidx_drop (i:=i) hle hi (hq hk),show i=k by omega,List.drop_of_length_le (by rw [List.length_take];omega)];rfl
    · rfl
   refine Qq 20 J ?_;refine Qw J (by rw [ew];rfl)
def consB (l : List Rs) : Bool := (witG (sd cmpR (l.filter okR))).isNone
theorem Consistent_ok(l:List Rs)(hl:l.length<=10000):Ok prog 40 [rssC l] (boolC (consB l)):=by
 have hW:=Witness_ok l hl;have e0:consB l=(witG (sd cmpR (l.filter okR))).isNone:=rfl
 have hw:∃i j:Ik,witC (sd cmpR (l.filter okR))=[ikC i,ikC j,boolC (!consB l)]:=by
  rw [e0];unfold witC
  cases witG (sd cmpR (l.filter okR)) <;>exact ⟨_,_,rfl⟩
 obtain ⟨a,b,hw⟩:=hw;rw [hw] at hW;generalize consB l=c at hW ⊢
 refine Ok.enter func40 J _ ntmps40 J ?_
 intro S w;refine Qj 8 J (Qv (gT J) hW J (Qq 19 J ?_));refine Qw J (by rw [Bool.not_not];rfl)
section
def chkF (l : List Rs) : Int := if (l.any fun r => !okR r) = true then 1 else if 512 < ((sd cmpR (l.filter okR)).length : Int) then 5 else if consB l = true then 0 else 30
structure Cn where
  wr : Wr
  se : Int
  lo : Int
  hi : Int
deriving DecidableEq
def adN (t : Int) : Fin 4294967296 := ⟨t.toNat % 4294967296, Nat.mod_lt _ (by decide)⟩
structure Chain (n : Nat) (t0 : Tk) (l : List Rs) : Prop where
  up : Up cmpR l
  ok : ∀ r ∈ l, okR r = true ∧ r.db = false ∧ r.fl = 0 ∧ trOf r = t0 ∧ 1 ≤ r.tt ∧ r.tt ≤ n ∧ (r.an = true → r.ki = 1 ∧ r.fr = adN r.tt)
  all : ∀ t : Int, 1 ≤ t → t ≤ n → ∃ r ∈ l, r.an = true ∧ r.tt = t
variable {n : Nat} {t0 : Tk} {l : List Rs}
end
theorem clash_none:∀(l:List Rs) (m:SeenM),clashG m l=l.length ->(∀r∈l,plB r=true ->∀a,look1 m (plS r)=some a ->a=r.fr)/\ l.Pairwise (fun a b=>conB a b=false)
 | [],_,_=>⟨fun r h=>absurd h (by simp),List.Pairwise.nil⟩
 |x::l,m,h=>by
  simp only [clashG,List.length_cons] at h
  by_cases h1:plB x=false
  · rw [if_pos h1] at h
    obtain ⟨i1,i2⟩:=clash_none l m (by omega)
    refine ⟨fun r hr hb a ha=> ?_,List.pairwise_cons.2 ⟨fun b _=>by unfold conB;rw [h1];rfl,i2⟩⟩
    rcases List.mem_cons.1 hr with hr|hr
    · subst hr;rw [h1] at hb;cases hb
    · exact i1 r hr hb a ha
  · rw [if_neg h1] at h
    have h1:plB x=true:=by simpa using h1
    by_cases h2:(look1 m (plS x)).isSome=true/\ (look1 m (plS x)).getD 0≠x.fr
    · rw [if_pos h2] at h;omega
    · rw [if_neg h2] at h
      obtain ⟨i1,i2⟩:=clash_none l _ (show clashG (ins m (plS x) x.fr) l=l.length by omega)
      have hx:∀a,look1 m (plS x)=some a ->a=x.fr:=fun a ha=>Decidable.byContradiction fun hn=>h2 ⟨by rw [ha];rfl,by rw [ha];exact hn⟩
      refine ⟨fun r hr hb a ha=> ?_,List.pairwise_cons.2 ⟨fun b hb=> ?_,i2⟩⟩
      · rcases List.mem_cons.1 hr with hr|hr
        · subst hr;exact hx a ha
        · by_cases e:plS r=plS x
          · have:=i1 r hr hb x.fr (by rw [look1_ins,if_pos e])
            rw [e] at ha
            rw [hx a ha];exact this
          · exact i1 r hr hb a (by rw [look1_ins,if_neg e];exact ha)
      · unfold conB
        by_cases hb2:plB b=true
        · by_cases e:plS x=plS b
          · have:=i1 b hb hb2 x.fr (by rw [look1_ins,if_pos e.symm])
            rw [decide_eq_false (show ¬(x.fr≠b.fr) from fun h=>h this)];simp
          · rw [decide_eq_false e];simp
        · rw [show plB b=false by simpa using hb2];simp
theorem clash_ok:∀(l:List Rs) (m:SeenM),(∀r∈l,plB r=true ->∀a,look1 m (plS r)=some a ->a=r.fr) ->l.Pairwise (fun a b=>conB a b=false) ->clashG m l=l.length
 | [],_,_,_=>rfl
 |x::l,m,h1,h2=>by
  obtain ⟨p1,p2⟩:=List.pairwise_cons.1 h2
  simp only [clashG,List.length_cons]
  by_cases hb:plB x=false
  · rw [if_pos hb,clash_ok l m (fun r hr=>h1 r (List.mem_cons_of_mem _ hr)) p2]
  · rw [if_neg hb]
    have hb:plB x=true:=by simpa using hb
    rw [if_neg (fun h=> ?_),clash_ok l _ (fun r hr hbr a ha=> ?_) p2]
    · rw [look1_ins] at ha
      split at ha
      · rename_i e
        injection ha with ha
        have hc:=p1 r hr
        unfold conB at hc
        rw [hb,hbr,decide_eq_true e.symm] at hc
        rw [<- ha]
        exact Decidable.byContradiction fun hn=>by rw [decide_eq_true hn] at hc;cases hc
      · exact h1 r (List.mem_cons_of_mem _ hr) hbr a ha
    · obtain ⟨q1,q2⟩:=h
      cases e:look1 m (plS x) with
      |none=>rw [e] at q1;cases q1
      |some a=>rw [e] at q2;exact q2 (h1 x (List.mem_cons_self ..) hb a e)
theorem clash_take:∀(l:List Rs) (m:SeenM) (j:Nat),clashG m (l.take j)=min (clashG m l) j
 | [],m,j=>by simp [clashG]
 |x::l,m,0=>by simp [clashG]
 |x::l,m,j+1=>by
  rw [List.take_succ_cons]
  simp only [clashG]
  split
  · rw [clash_take l m j];omega
  · split
    · omega
    · rw [clash_take l _ j];omega
theorem consB_iff(l:List Rs):consB l=true↔(sd cmpR (l.filter okR)).Pairwise (fun a b=>conB a b=false):=by
 unfold consB;generalize sd cmpR (l.filter okR)=o;constructor
 · intro h;by_cases hk:clashG [] o<o.length
   · exfalso
     have hk2:clashG [] (o.take (clashG [] o))=(o.take (clashG [] o)).length:=by rw [clash_take,List.length_take];omega
     have hf:(o.take (clashG [] o)).findIdx? (fun a=>conB a (o.getD (clashG [] o) rs0))=none:=by
      have:witG o=(o.take (clashG [] o)).findIdx? (fun a=>conB a (o.getD (clashG [] o) rs0)):=if_pos hk;rw [this] at h
      cases e:(o.take (clashG [] o)).findIdx? (fun a=>conB a (o.getD (clashG [] o) rs0)) with
      |none=>rfl
      |some v=>rw [e] at h;cases h
     generalize hkk:clashG [] o=k at hk hk2 hf
     have hp:(o.take (k+1)).Pairwise (fun a b=>conB a b=false):=by
      rw [List.take_add_one,List.getElem?_eq_getElem hk];refine List.pairwise_append.2 ⟨(clash_none _ _ hk2).2,List.pairwise_singleton _ _,fun a ha b hb=> ?_⟩
      have hb:b=o[k]:=by simpa using hb
      rw [List.findIdx?_eq_none_iff] at hf;have:=hf a ha;rw [List.getD_eq_getElem?_getD,List.getElem?_eq_getElem hk] at this;rw [hb];exact this
     have h5:=clash_ok (o.take (k+1)) [] (fun r _ _ a ha=>by cases ha) hp;rw [clash_take,hkk,List.length_take] at h5;omega
   · exact (clash_none o [] (by have:=clashG_le o [];omega)).2
 · intro h;have h5:=clash_ok o [] (fun r _ _ a ha=>by cases ha) h;have:witG o=none:=if_neg (by omega);rw [this];rfl
structure Dat (d : List (Int × Int)) : Prop where
  ok : ∀ p ∈ d, 1 ≤ p.1 ∧ p.1 ≤ 3 ∧ 0 ≤ p.2 ∧ p.2 ≤ p.1
  hs : ∀ t : Int, 1 ≤ t → t ≤ 3 → t ≤ d.length → (t, 0) ∈ d
theorem take_snoc{α:Type}{z:α}{l:List α}{i:Nat}(h:i<l.length):l.take (i+1)=l.take i++ [l.getD i z]:=by
 rw [List.take_add_one,List.getElem?_eq_getElem h];simp [List.getD_eq_getElem?_getD,List.getElem?_eq_getElem h]
attribute [local irreducible] OkM
theorem knOk_ins{l:List Rs}{m:KnM}(h:knOk l m)(s:Stm):knOk l (ins m s (pathF (ofF l s.1) s.2)):=fun x p hx=>by
 rw [look1_ins] at hx
 split at hx
 · rename_i e;subst e;injection hx with hx;exact hx.symm
 · exact h x p hx
theorem pathF_len(l:List Rs)(fl:Int):(pathF l fl).length<=256:=pathG_len _ _ _ _
theorem rUsable_ok(r:Rs):Ok prog 86 [rsC r] (boolC (usR r)):=by
 have hV:=rValidR_ok r;have e:usR r=(!r.db&&okR r):=rfl;generalize usR r=u at e ⊢;generalize okR r=o at hV e
 refine Ok.enter func86 J _ ntmps86 J ?_
 intro S w;refine Qj 9 J (Qv (gT J) hV J (Qq 1 J (Xk 5 (b:=o) J (fun h=> ?_) (fun h=> ?_))))
 · refine Qq 8 J ?_;refine Qw J (by rw [e,h,Bool.and_true];rfl)
 · refine Qq 8 J ?_;refine Qw J (by rw [e,h,Bool.and_false];rfl)
theorem rTraceOf_ok(r:Rs):Ok prog 87 [rsC r] (tkC (trOf r)):=by
 refine Ok.enter func87 J _ ntmps87 J ?_
 intro S w;refine Qj 19 J ?_;refine Fin.end [_] rfl (Qi (n:=3) J J lTrace J Q3) J J
theorem rContradict_ok(a b:Rs):Ok prog 46 [rsC a,rsC b] (boolC (conB a b)):=by
 have hA:=rUsable_ok a;have hB:=rUsable_ok b;have hTa:=rTraceOf_ok a;have hTb:=rTraceOf_ok b;have e:conB a b=((a.an&&usR a&&(b.an&&usR b))&&(decide ((trOf a,a.fl,a.tt)=(trOf b,b.fl,b.tt))&&decide (a.fr≠b.fr))):=rfl;generalize usR a=ua at hA e;generalize usR b=ub at hB e;generalize trOf a=ta at hTa e;generalize trOf b=tb at hTb e
 have no:(ua=false \/ub=false \/a.an=false \/b.an=false \/¬ta=tb \/¬a.fl=b.fl \/¬a.tt=b.tt \/a.fr=b.fr) ->conB a b=false:=fun h=>by
  rw [e];rcases h with h|h|h|h|h|h|h|h <;>simp [h]
 have yes:ua=true ->ub=true ->a.an=true ->b.an=true ->ta=tb ->a.fl=b.fl ->a.tt=b.tt ->¬a.fr=b.fr ->conB a b=true:=fun h1 h2 h3 h4 h5 h6 h7 h8=>by
  rw [e];simp [h1,h2,h3,h4,h5,h6,h7,h8]
 generalize conB a b=c at no yes ⊢;clear e
 refine Ok.enter func46 J _ ntmps46 J ?_
 intro S w;refine Qj 8 J (St.draw mixed 45 (.f 0 (.m 1 (.p 2 (.f 3 (.m 4 (.p 5 (.p 6 (.p 7 (.f 8 (.p 9 (.p 10 (.p 11 (.f 12 (.p 13 (.p 14 (.f 15 (.f 17 (.m 16 (.m 18 (.p 19 (.p 20 (.p 21 (.p 22 (.p 24 (.f 23 (.f 25 (.p 26 (.p 27 (.p 28 (.p 29 (.p 31 (.f 30 (.f 32 (.p 33 (.p 34 (.p 35 (.p 36 (.p 37 (.p 39 (.p 40 (.f 38 (.f 41 (.p 42 (.p 43 (.p 44 .done))))))))))))))))))))))))))))))))))))))))))))) (by kernel_rfl) ?_);refine Qq 1 J (Qv (gT J) hA J (Qq 1 J (Xk 7 (b:=ua) J (fun h1=> ?_) (fun h1=> ?_))));rotate_left
 · refine Qq 45 J ?_;refine Qw J (by rw [no (.inl h1)];rfl)
 refine Qq 1 J (Qv (gT J) hB J (Qq 2 J (Xk 11 (b:=ub) J (fun h2=> ?_) (fun h2=> ?_))));rotate_left
 · refine Qq 41 J ?_;refine Qw J (by rw [no (.inr (.inl h2))];rfl)
 refine Qq 4 J (Xk 15 (b:=a.an) J (fun h3=> ?_) (fun h3=> ?_));rotate_left
 · refine Qq 37 J ?_;refine Qw J (by rw [no (.inr (.inr (.inl h3)))];rfl)
 refine Qq 4 J (Xk 19 (b:=b.an) J (fun h4=> ?_) (fun h4=> ?_));rotate_left
 · refine Qq 33 J ?_;refine Qw J (by rw [no (.inr (.inr (.inr (.inl h4))))];rfl)
 refine Qq 2 J (Qv (gT J) hTa J ?_);refine Zy (gT J) hTb J J J J (eqTk ta tb J J J J J (Y0 J J J J (Qg J J J (QQ 26 J (fun h5=> ?_) (fun h5=> ?_)))));rotate_left
 · refine Qq 26 J ?_;refine Qw J (by rw [no (.inr (.inr (.inr (.inr (.inl h5)))))];rfl)
 refine Qq 7 J (QQ 33 J (fun h6=> ?_) (fun h6=> ?_));rotate_left
 · refine Qq 19 J ?_;refine Qw J (by rw [no (.inr (.inr (.inr (.inr (.inr (.inl h6))))))];rfl)
 refine Qq 7 J (QQ 40 J (fun h7=> ?_) (fun h7=> ?_));rotate_left
 · refine Qq 12 J ?_;refine Qw J (by rw [no (.inr (.inr (.inr (.inr (.inr (.inr (.inl h7)))))))];rfl)
 refine Qq 12 J ?_;by_cases h8:a.fr=b.fr
 · refine Qw J (by rw [no (.inr (.inr (.inr (.inr (.inr (.inr (.inr (h8)))))))),h8];simp;rfl)
 · refine Qw J (by rw [yes h1 h2 h3 h4 h5 h6 h7 h8,decide_eq_true (show ((a.fr.val:Int)≠(b.fr.val:Int)) from fun h=>h8 (_root_.Fin.ext (by omega)))];rfl)
def pwB (l : List Rs) : Bool := decide (∀ k, k < l.length → ∀ j, j < k → conB (l.getD j rs0) (l.getD k rs0) = false)
theorem conB_symm(a b:Rs):conB a b=conB b a:=by
 unfold conB;rw [Bool.and_comm (plB a),decide_eq_decide.2 (show plS a=plS b↔plS b=plS a from eq_comm),decide_eq_decide.2 (show a.fr≠b.fr↔b.fr≠a.fr from ne_comm)]
theorem conB_self(a:Rs):conB a a=false:=by
 unfold conB;rw [decide_eq_false (show ¬(a.fr≠a.fr) from fun h=>h J)];simp
theorem pw_all{l:List Rs}(h:pwB l=true):∀a∈l,∀b∈l,conB a b=false:=by
 have h:=of_decide_eq_true h;intro a ha b hb;obtain ⟨j,hj,rfl⟩:=List.getElem_of_mem ha;obtain ⟨k,hk,rfl⟩:=List.getElem_of_mem hb
 have ej:l.getD j rs0=l[j]:=by simp [List.getD_eq_getElem?_getD,List.getElem?_eq_getElem hj]
 have ek:l.getD k rs0=l[k]:=by simp [List.getD_eq_getElem?_getD,List.getElem?_eq_getElem hk]
 rw [<- ej,<- ek];rcases Nat.lt_trichotomy j k with q|q|q
 · exact h k hk j q
 · rw [q];exact conB_self _
 · rw [conB_symm];exact h j hj k q
theorem cons_all{l:List Rs}(h:∀a∈l,∀b∈l,conB a b=false):consB l=true:=by
 rw [consB_iff];refine List.Pairwise.imp_of_mem (R:=fun _ _=>True) (fun {a b} ha hb _=>h a ?_ b ?_) (List.pairwise_of_forall (fun _ _=>trivial))
 · exact (List.mem_filter.1 (((Yt ordR (l.filter okR)).2 a).1 ha)).1
 · exact (List.mem_filter.1 (((Yt ordR (l.filter okR)).2 b).1 hb)).1
theorem rConsistent_ok(l:List Rs)(hl:l.length<=100000):Ok prog 20 [rssC l] (boolC (pwB l)):=by
 have yes:(∀k,k<l.length ->∀j,j<k ->conB (l.getD j rs0) (l.getD k rs0)=false) ->pwB l=true:=fun h=>decide_eq_true h
 have no:∀k j,k<l.length ->j<k ->conB (l.getD j rs0) (l.getD k rs0)=true ->pwB l=false:=fun k j h1 h2 h3=>decide_eq_false fun h=>by rw [h k h1 j h2] at h3;cases h3
 generalize pwB l=c at yes no ⊢
 refine Ok.enter func20 J _ ntmps20 J ?_
 intro S w;refine Qj 12 J ?_
 refine QY (α:=Nat) (fun i=>i<=l.length/\ ∀k,k<i ->∀j,j<k ->conB (l.getD j rs0) (l.getD k rs0)=false)
  (fun i=>[(0, .ct (rssC l)),(3, .ct (intC i))]) (fun _=>[]) (fun i=>l.length - i) 0 ⟨Nat.zero_le _,fun k h=>absurd h (Nat.not_lt_zero _)⟩ (by exact Qx J) ?_
 intro i ⟨hi,hp⟩
 try dsimp only at hi hp ⊢
 refine Qj 5 J (QV sRes.und J (Qq 3 J ?_));refine Qy J (fun h=> ?_) (fun h=> ?_)
 · refine Qj 10 J ?_
   refine QY (α:=Nat) (fun k=>k<=i/\ ∀j,j<k ->conB (l.getD j rs0) (l.getD i rs0)=false)
    (fun k=>[(0, .ct (rssC l)),(3, .ct (intC i)),(4, .ct (intC k))]) (fun _=>[]) (fun k=>i - k) 0 ⟨Nat.zero_le _,fun k h=>absurd h (Nat.not_lt_zero _)⟩ (by exact Qx J) ?_
   intro k ⟨hk,hp2⟩
   try dsimp only at hk hp2 ⊢
   refine Qj 8 J ?_;refine Qy J (fun h2=> ?_) (fun h2=> ?_)
   · have e2:(i:Int).toNat=i:=Int.toNat_natCast i;have e3:(k:Int).toNat=k:=Int.toNat_natCast k;have hN:=no i k (by omega) (by omega);have hC:=rContradict_ok (l.getD k rs0) (l.getD i rs0);generalize hcc:conB (l.getD k rs0) (l.getD i rs0)=cc at hN hC;refine Qj 5 J (XY 9 0x80482723060504020100 J ?_);refine Qq 2 J (Q8 rs0 sRes J (by omega) ?_);refine Qq 2 J (Q8 rs0 sRes J (by omega) ?_);refine Qq 2 J ?_;rw [e2,e3];refine Qv (gT J) hC J (Qq 2 J ?_);refine Xx J (fun h3=> ?_) (fun h3=> ?_)
     · refine Qj 6 J ?_;refine Qw J (by rw [hN h3];rfl)
     · refine Xz 8 J (by omega) ?_;refine Qk (k+1) (by omega) ⟨by omega,fun j hj=> ?_⟩ (by exact Qx J);by_cases hjk:j=k
       · rw [hjk,hcc];exact h3
       · exact hp2 j (by omega)
   · refine Xz 8 J (by omega) ?_;refine Qk (i+1) (by omega) ⟨by omega,fun q hq j hj=> ?_⟩ (by exact Qx J);by_cases hqi:q=i
     · rw [hqi] at hj ⊢;exact hp2 j (by omega)
     · exact hp q (by omega) j hj
 · refine Qj 8 J ?_;refine Qw J (by rw [yes (fun k h1 j h2=>hp k (by omega) j h2)];rfl)
end Go.Proofs.YtfimckpnnbibcaaGreat
namespace Go.Proofs.YtfimckpnnbibcaaGreat
open Go.Own Go.Limbs Go.Shelf Go.Proofs.Tryz
open Go.Sort hiding Ok
attribute [local irreducible] St Ops Go.Own.Fin Ok OkB OkN OkT OkL OkF
def wsG : _root_.Fin 4294967296 → List (_root_.Fin 4294967296) → List Wr
  | _, [] => []
  | p, a :: l => (p, a) :: wsG a l
theorem wsG_len:∀(l:List (_root_.Fin 4294967296)) (p:_root_.Fin 4294967296),(wsG p l).length=l.length
 | [],_=>rfl
 |a::l,p=>by rw [wsG,List.length_cons,wsG_len l a,List.length_cons]
def pvA (p : List (_root_.Fin 4294967296)) (i : Nat) : _root_.Fin 4294967296 := if i = 0 then 0 else p.getD (i - 1) 0
theorem wsG_snoc:∀(l:List (_root_.Fin 4294967296)) (q a:_root_.Fin 4294967296),wsG q (l++ [a])=wsG q l++ [(if l=[] then q else l.getD (l.length - 1) 0,a)]
 | [],q,a=>rfl
 |b::l,q,a=>by
  show (q,b)::wsG b (l++ [a])=_
  rw [wsG_snoc l b a]
  cases l with
  |nil=>rfl
  |cons c l=>
   show _=(q,b)::(wsG b (c::l)++ [(if b::c::l=[] then q else (b::c::l).getD ((b::c::l).length - 1) 0,a)])
   rw [if_neg (by simp),if_neg (by simp)]
   rfl
def wsO (p : List (_root_.Fin 4294967296)) : List Wr × Bool := if p.all (fun a => decide (a ≠ 0)) then (wsG 0 p, true) else ([], false)
theorem wires_ok(p:List (_root_.Fin 4294967296))(hl:p.length<=1000000):Ok prog 54 [adsC p] (.tup [wrsC (wsO p).1,boolC (wsO p).2]):=by
 refine Ok.enter func54 J _ ntmps54 J ?_
 intro S w;refine Qj 20 J (QV sAdrs.und J (Qq 4 J (Xo 4 0 42 2 J J J ?_)))
 refine QY (α:=Nat) (fun i=>i<=p.length/\ ∀a∈p.take i,a≠0)
  (fun i=>[(4, .own 0),(5, .ct (adrF (pvA p i))),(8, .ct (adsC p)),(9, .ct (intC p.length)),(10, .ct (intC i))])
  (fun i=>[(0, .row 42 2 (wrs (wsG 0 (p.take i))))]) (fun i=>p.length - i) 0 ⟨Nat.zero_le _,by simp⟩ (by exact Qx J) ?_
 intro i ⟨hi,hnz⟩
 try dsimp only at hi hnz ⊢
 refine Qj 6 J ?_;refine Qy J (fun h=> ?_) (fun h=> ?_);rotate_left
 · rw [List.take_of_length_le (by omega)] at hnz ⊢;have e:wsO p=(wsG 0 p,true):=if_pos (List.all_eq_true.2 fun a ha=>decide_eq_true (hnz a ha));rw [e];refine Qj 10 J (Jq 0 _ J (wrs_frozen _ _) noBor_sub (Qw J J))
 have e2:(i:Int).toNat=i:=Int.toNat_natCast i
 have hs:p.take (i+1)=p.take i++ [p.getD i 0]:=by
  rw [List.take_add_one,List.getElem?_eq_getElem (by omega),List.getD_eq_getElem?_getD,List.getElem?_eq_getElem (by omega)];rfl
 have hw:wsG 0 (p.take (i+1))=wsG 0 (p.take i)++ [(pvA p i,p.getD i 0)]:=by
  rw [hs,wsG_snoc]
  congr 2
  unfold pvA;by_cases h0:i=0
  · subst h0;rfl
  · rw [if_neg (fun h=>by have:=congrArg List.length h;rw [List.length_take,List.length_nil] at this;omega),if_neg h0,List.length_take,Nat.min_eq_left hi,List.getD_eq_getElem?_getD,List.getElem?_take_of_lt (by omega),<- List.getD_eq_getElem?_getD]
 have hp:pvA p (i+1)=p.getD i 0:=rfl
 have hwl:(wsG 0 (p.take i)).length=i:=by rw [wsG_len,List.length_take];omega
 have hmem:p.getD i 0∈p:=by rw [List.getD_eq_getElem?_getD,List.getElem?_eq_getElem (by omega)];exact List.getElem_mem _
 refine Qj 6 J (Q8 0 sAdrs J (by omega) ?_)
 rw [e2];generalize p.getD i 0=a at hs hw hp hmem;generalize pvA p i=b at hw;generalize wsG 0 (p.take i)=ws at hw hwl ⊢;refine Qq 11 J ?_;refine Qy J (fun h2=> ?_) (fun h2=> ?_)
 · have h2:a=0:=_root_.Fin.ext (by have e0:((0:_root_.Fin 4294967296).val)=0:=rfl;omega);have e:wsO p=([],false):=if_neg (by rw [List.all_eq_true];exact fun h=>of_decide_eq_true (h a hmem) h2);rw [e];refine Qj 7 J ?_;refine X5 [_,_] rfl (Xv Zp (Q4 J (Q4 J Q3))) J J
 have h2:a≠0:=fun h=>h2 (by rw [h];rfl)
 refine Qj 8 J (Zv (n:=2) J J sWrs J J (by decide) J ?_);refine QJ ws.length (wrs (ws++ [(b,a)])) J J J J sWrs (wrs_len ws) J (by omega) (by omega) (wrs_snoc ws (b,a)) J ?_;refine QZ 13 J (by omega) ?_;refine Qk (i+1) (by omega) ⟨by omega,fun x hx=> ?_⟩ (by rw [hw,hp];exact Qx J);rw [hs] at hx;rcases List.mem_append.1 hx with hx|hx
 · exact hnz x hx
 · rw [List.mem_singleton] at hx;rw [hx];exact h2
theorem goDcmp:InGo prog 28:=InGo.of func28 rfl (by decide)
theorem Dcmp_ok(a b:Wr):Ok prog 28 [wrC a,wrC b] (intC (cmpW a b)):=by
 have e0:cmpW a b=firstN [cmp3 a.1.val b.1.val,cmp3 a.2.val b.2.val]:=by
  unfold cmpW wrI;simp only [cmpL,firstN]
 rw [e0];clear e0;have h1:=cmA_ok (a.1.val:Int) (b.1.val:Int);have h2:=cmA_ok (a.2.val:Int) (b.2.val:Int);have hO:=Or_ok [cmp3 a.1.val b.1.val,cmp3 a.2.val b.2.val] (by simp);generalize cmp3 (a.1.val:Int) (b.1.val:Int)=c1 at h1 hO ⊢;generalize cmp3 (a.2.val:Int) (b.2.val:Int)=c2 at h2 hO ⊢
 refine Ok.enter func28 J _ ntmps28 J ?_
 intro S w;refine Qj 8 J (XY 13 0x800c4b4a49442826232107050200 J ?_);refine Qq 8 J (Qv (gT J) h1 J (Qv (gT J) h2 J (Ops.litI [c1,c2] rfl rfl sInts J ⟨rfl,rfl,rfl,rfl,trivial⟩ (by decide) J ?_)));refine Qv (gT J) hO J (Qq 4 J ?_);refine Qw J J
abbrev cmpDV : CT := .ex (.func (.func 28) #[] #[])
theorem SortD_ok(l:List Wr)(hl:l.length<4611686018427387904):OkL prog 41 42 2 (wrs l) [cmpDV] unitC (wrs (l.mergeSort fun x y=> !(ltOf cmpW) y x)):=
 sortFunc_L laySortW (enc:=wr2) (k:=2) (cf:=cmpW) (g:=28) (by decide) Tryz.isAgg42 Tryz.sizeOf42 (fun _=>rfl) (fun x v hv=>one_two x v hv)
  ordW.swo ordW.tot goDcmp Dcmp_ok 42 l hl
end Go.Proofs.YtfimckpnnbibcaaGreat
namespace Go.Proofs.YtfimckpnnbibcaaGreat
open Go.Limbs Go.Own Go.Proofs.Tryz
attribute [local irreducible] Go.Own.Fin Ok OkB OkF OkL OkM OkN OkT Ops St
abbrev Me := Rs × List Wr
def me0 : Me := (rs0, [])
abbrev meCs (x : Me) : List CT := rsCs x.1 ++ [wrsC x.2]
theorem me_len(x:Me):(meCs x).length=18:=rfl
abbrev mesC (l : List Me) : CT := .fr (sliceT 18 (l.map meCs))
def mes (l : List Me) : List CT := (l.map meCs).flatten
theorem mes_frozen(e:Nat)(l:List Me):(Ent.row e 18 (mes l)).frozen (.fr (sliceT 18 (l.map meCs))):=
 ⟨_,rfl,fun e he=>by obtain ⟨m,_,rfl⟩:=List.mem_map.mp he;rfl,by decide,rfl⟩
theorem mes_len(l:List Me):(mes l).length=l.length*18:=el_len me_len l
theorem mes_snoc(l:List Me)(r:Me):mes (l++ [r])=mes l++meCs r:=by simp [mes]
abbrev zMe : Value := .agg #[.int .i64 0, .int .i64 0, .int .i64 0, .int .i64 0, .int .u32 0, .int .i64 0, .int .i64 0, .int .i64 0, .bool false, .bool false, .int .i64 0, .int .u32 0, .int .i64 0, .int .i64 0, .int .i64 0, .int .i64 0, .int .i64 0, .slice none 0 0]
theorem sMes:SlcT prog 78 85 18 152 zMe:=SlcT.of underlying78 (by kernel_rfl) rfl (by decide)
theorem zvMe:(prog.info? 85).map (·.zero)=some (some zMe):=by kernel_rfl
theorem eqDst:EqF prog 130 111 [.i64, .u32, .i64] [.i64]:=⟨by kernel_rfl,by kernel_rfl,by kernel_rfl,by kernel_rfl,by kernel_rfl,by kernel_rfl,by kernel_rfl,by kernel_rfl⟩
theorem keyDst:KeyT prog 130 stmE:=eqDst.flat.key stmI (fun _=>rfl) stmI_inj
theorem zvDst:(prog.info? 130).map (·.zero)=some (some (.agg #[.int .i64 0, .int .u32 0, .int .i64 0, .int .i64 0])):=by kernel_rfl
theorem uMDst:prog.underlying 127=some (.map 130 120):=underlying127
def paF (l : List Rs) (r : Rs) : List (_root_.Fin 4294967296) := pathF (ofF l (trOf r)) r.fl
def mesB (l : List Rs) (r : Rs) : Bool := r.an && (usR r && (decide (r.tt ≤ ((paF l r).length : Int)) && (decide ((paF l r).getD (r.tt.toNat - 1) 0 = r.fr) && (wsO ((paF l r).take r.tt.toNat)).2)))
def meF (l : List Rs) (r : Rs) : Me := (r, (wsO ((paF l r).take r.tt.toNat)).1)
def msF (l : List Rs) : List Me := ((sd cmpR (l.filter okR)).filter (mesB l)).map (meF l)
theorem measures_ok(l:List Rs)(hl:l.length<=10000):Ok prog 23 [rssC l] (mesC (msF l)):=by
 have hT:=Traces_ok l hl
 have hOf:=fun t=>Of_ok l t hl
 have hO:=Order_ok l hl
 have hU:=fun r=>Usable_ok r
 have hTl:(trsF l).length<=10000:=by
  have h1:=sd_len cmpT ((l.filter okR).map trOf);have h2:=List.length_filter_le okR l;rw [List.length_map] at h1;unfold trsF;omega
 have hol:(sd cmpR (l.filter okR)).length<=10000:=by
  have:=sd_len cmpR (l.filter okR);have:=List.length_filter_le okR l;omega
 have hP:=fun r=>Path_ok (ofF l (trOf r)) r.fl (by
  have h1:=sd_len cmpR (l.filter okR);have h2:=List.length_filter_le okR l;have h3:=List.length_filter_le (fun x=>decide (trOf x=trOf r)) (sd cmpR (l.filter okR))
  unfold ofF;omega)
 have hpl:∀r,(paF l r).length<=256:=fun r=>pathF_len _ _
 have hLo:=owF_look l;have hm:msF l=((sd cmpR (l.filter okR)).filter (mesB l)).map (meF l):=rfl;have ho:owF l=(trsF l).foldl (fun m t=>ins m t (ofF l t)) []:=rfl
 have hB:∀r,mesB l r=(r.an&&(usR r&&(decide (r.tt<=((paF l r).length:Int))&&(decide ((paF l r).getD (r.tt.toNat - 1) 0=r.fr)&&(wsO ((paF l r).take r.tt.toNat)).2)))):=fun _=>rfl
 have hF:∀r,meF l r=(r,(wsO ((paF l r).take r.tt.toNat)).1):=fun _=>rfl
 generalize msF l=out at hm ⊢;generalize sd cmpR (l.filter okR)=o at hO hol hm;generalize owF l=om at hLo ho;generalize trsF l=ts at hT hTl ho;generalize mesB l=mb at hB hm;generalize meF l=mf at hF hm
 refine Ok.enter func23 J _ ntmps23 J ?_
 intro S w0;refine Qj 7 J (Ops.mkMap 6 J J J J J (fun v1 hv1=> ?_));refine Qq 7 J (Z7 3 (gT J) hT J J J J J J (Zw 3 _ J (tks_frozen _ _) noBor_sub (QV sTks.und J (Qq 4 J ?_))))
 refine QY (α:=Nat) (fun i=>i<=ts.length)
  (fun i=>[(0, .ct (rssC l)),(3, .ct (.ex v1)),(17, .ct (tksC ts)),(18, .ct (intC ts.length)),(19, .ct (intC i))])
  (fun i=>[(6, .mpx v1 (owM ((ts.take i).foldl (fun m t=>ins m t (ofF l t)) [])))])
  (fun i=>ts.length - i) 0 (Nat.zero_le _) (by exact Qx J) ?_
 intro i hi
 try dsimp only at hi ⊢
 refine Qj 6 J ?_;refine Qy J (fun h=> ?_) (fun h=> ?_)
 · have e2:(i:Int).toNat=i:=Int.toNat_natCast i;have hs:=foldl_take (fun m t=>ins m t (ofF l t)) ([]:OwM) (z:=tk0) (l:=ts) (i:=i) (by omega);generalize (ts.take i).foldl (fun m t=>ins m t (ofF l t)) ([]:OwM)=m at hs ⊢;refine Qj 6 J (Q8 tk0 sTks J (by omega) ?_)
   rw [e2];generalize ts.getD i tk0=t at hs ⊢;refine Qq 1 J (Xh 2 J J zvTrace J J J (Qq 3 J (XY 5 0x80654423210200 J ?_)));refine Qq 4 J (Z7 3 (gT J) (hOf t) J J J J J J (Zw 3 _ J (rss_frozen _ _) noBor_sub (Xq (i:=6) (enc:=tkE) (cv:=rssC) t (ofF l t) J J J (KeyIs.agg (us:=tkVs t) J) J uMOwn keyTk (QZ 7 J (by omega) ?_))));refine Qc 2 (Qk (i+1) (by omega) (by omega) (by rw [hs];exact Qx J))
 have hi' :i=ts.length:=by omega
 rw [hi',List.take_length,<- ho];clear hT hOf ho hTl;refine Qj 4 J ?_;refine Ops.mkMap 8 J J J J J (fun v2 hv2=> ?_);refine Qq 12 J (Z7 3 (gT J) hO J J J J J J (Zw 3 _ J (rss_frozen _ _) noBor_sub (QV sRes.und J (Qq 4 J (Xo 7 4 85 18 J J J ?_)))))
 refine QY (α:=Nat × KnM) (fun q=>q.1<=o.length/\ knOk l q.2)
  (fun q=>[(3, .ct (.ex v1)),(6, .ct (.ex v2)),(7, .own 4),(31, .ct (rssC o)),(32, .ct (intC o.length)),(33, .ct (intC q.1))])
  (fun q=>[(4, .row 85 18 (mes (((o.take q.1).filter mb).map mf))),(8, .mpx v2 (knM q.2)),(6, .mpx v1 (owM om))])
  (fun q=>o.length - q.1) (0,[]) ⟨Nat.zero_le _,fun _ _ h=>by cases h⟩ (by exact Qx J) ?_
 clear h hi hi' i;intro ⟨i,m⟩ ⟨hi,hm'⟩
 try dsimp only at hi hm' ⊢
 refine Qj 6 J ?_;refine Qy J (fun h=> ?_) (fun h=> ?_);rotate_left
 · have hi' :i=o.length:=by omega
   rw [hi',List.take_length,<- hm];refine Qj 9 J (Jq 4 _ J (mes_frozen _ _) noBor_sub (Qw J J))
 have e2:(i:Int).toNat=i:=Int.toNat_natCast i;have hs:=filter_take mb (z:=rs0) (i:=i) (l:=o) (by omega);have hfl:=filter_len mb o i;refine Qj 6 J (Q8 rs0 sRes J (by omega) ?_);refine Qq 1 J (Xh 0 J J zvRes J J J (Qq 10 J ?_));rw [e2];generalize o.getD i rs0=r at hs;generalize (o.take i).filter mb=q at hs hfl ⊢;rw [hB r] at hs
 have hkn:=fun m (h:knOk l m)=>knOk_ins h (trOf r,r.fl)
 have hal' :=fun p=>hm' (trOf r,r.fl) p
 have hPr:=hP r;have hpr:=hpl r;have hFr:=hF r;have hLr:=hLo (trOf r);have hUr:=hU r;have hTt:usR r=true ->1<=r.tt/\ r.tt<=255:=usR_tt;clear hP hpl hF hB hLo hU hm;dsimp only at hkn hal';unfold paF at hs hpr hFr;generalize pathF (ofF l (trOf r)) r.fl=p at hs hpr hFr hal' hkn hPr;rw [<- hLr] at hPr;generalize usR r=ub at hUr hTt hs;refine Xk 40 J (fun g1=> ?_) (fun g1=> ?_)
 · rw [if_neg (by simp at g1;simp [g1])] at hs;refine QZ 14 J (by omega) ?_;refine Qc 0 (Qk (i+1,m) (by dsimp only;omega) ⟨by dsimp only;omega,hm'⟩ (by dsimp only;rw [hs];exact Qx J))
 have g1:r.an=true:=by simpa using g1
 refine Qq 1 J (Qv (gT J) hUr J (Qq 4 J ?_));refine Xx J (fun g2=> ?_) (fun g2=> ?_)
 · rw [if_neg (by simp at g2;simp [g2])] at hs;refine Xz 7 J (by omega) ?_;refine Qc 0 (Qk (i+1,m) (by dsimp only;omega) ⟨by dsimp only;omega,hm'⟩ (by dsimp only;rw [hs];exact Qx J))
 have g2:ub=true:=by simpa using g2
 obtain ⟨t1,t2⟩:=hTt g2;rw [g1,g2,Bool.true_and,Bool.true_and] at hs;clear hTt hUr;refine Qj 3 J ?_
 refine X4 (α:=Unit) (fun _=>True) (fun _=>[(3, .ct (.ex v1)),(6, .ct (.ex v2)),(7, .own 4),(31, .ct (rssC o)),(32, .ct (intC o.length)),(33, .ct (intC i)),(9, .own 0),(10, .own 1)])
  (fun _=>[(1, .box 130 (stmCs (trOf r,r.fl))),(0, .box 62 (rsCs r)),(4, .row 85 18 (mes (q.map mf))),(8, .mpx v2 (knM m)),(6, .mpx v1 (owM om))]) (fun _ _=> ?_) (fun KN hM=> ?_)
 rotate_left
 · refine XY 6 0x806604418066450405c1232002 J ?_;refine Qq 3 J (Zm ?_ ?_)
   · refine Qv (gT J) (TraceOf_ok r) J (Qq 1 J (Xh 1 J J zvDst J J J (Qq 2 J ?_)));exact Q7 hM () trivial (Qx J)
   · refine Xh 1 J J zvDst J J J (Qv (gT J) (TraceOf_ok r) J (Qq 3 J ?_));exact Q7 hM () trivial (Qx J)
 refine Qj 4 J (Ops.lookM2 (i:=8) (cv:=adsC) (enc:=stmE) [] (trOf r,r.fl) J J J J (KeyIs.agg (us:=stmV (trOf r,r.fl)) J) uMDst z0Ads (fun S w=>Zp S w _ J) keyDst J ?_);generalize look1 m (trOf r,r.fl)=lk at hal';refine Qq 8 J ?_
 refine X4 (α:=KnM) (fun m=>knOk l m) (fun _=>[(3, .ct (.ex v1)),(6, .ct (.ex v2)),(7, .own 4),(31, .ct (rssC o)),(32, .ct (intC o.length)),(33, .ct (intC i)),(9, .own 0),(10, .own 1),(11, .ct (adsC p))])
  (fun m=>[(1, .box 130 (stmCs (trOf r,r.fl))),(0, .box 62 (rsCs r)),(4, .row 85 18 (mes (q.map mf))),(8, .mpx v2 (knM m)),(6, .mpx v1 (owM om))]) (fun m2 hm2=> ?_) (fun KN hM=> ?_)
 rotate_left
 · refine Qj 6 J ?_;refine Xx J (fun h2=> ?_) (fun h2=> ?_)
   · refine Qj 1 J (XY 8 0x800746252322040100 J ?_);refine Qq 3 J (Z5 (n:=3) J J J J (Nat.le_of_ble_eq_true J) lTrace J (Ops.lookM (i:=6) (enc:=tkE) (cv:=rssC) [] (trOf r) J J J J (KeyIs.agg (us:=tkVs (trOf r)) J) uMOwn z0Rss (fun S w=>Zp S w _ J) keyTk J ?_));refine Qq 1 J (Z7 3 (gT J) hPr J J J J J J (Zw 3 _ J (adrs_frozen _ _) noBor_sub (Qq 7 J (Xq (i:=8) (enc:=stmE) (cv:=adsC) (trOf r,r.fl) p J J J (KeyIs.agg (us:=stmV (trOf r,r.fl)) J) J uMDst keyDst (Qz ?_)))));exact Q7 hM _ (hkn m hm') (Qx J)
   · cases lk with
     |none=>cases h2
     |some p' =>
      rw [<- hal' p' J] at hM
      refine Qj 1 J ?_
      exact Q7 hM m hm' (Qx J)
 clear hal' hkn hPr hm';refine Qj 2 J (XY 17 0x80100f2e2b0a09280d0c0706050423020100 J ?_);refine Qq 1 J (QV sAdrs.und J (Qq 4 J (QQ 73 J (fun g3=> ?_) (fun g3=> ?_))))
 · rw [if_neg (by rw [decide_eq_false (show ¬r.tt<=(p.length:Int) by omega)];simp)] at hs;refine QZ 21 J (by omega) ?_;refine Qc 1 (Qc 0 (Qk (i+1,m2) (by dsimp only;omega) ⟨by dsimp only;omega,hm2⟩ (by dsimp only;rw [hs];exact Qx J)))
 rw [decide_eq_true (show r.tt<=(p.length:Int) by omega),Bool.true_and] at hs
 have e6:(r.tt - 1).toNat=r.tt.toNat - 1:=by omega
 refine QZ 6 J (by omega) ?_;refine Q8 0 sAdrs J (by omega) ?_
 rw [e6];refine Qq 6 J ?_;refine Qy J (fun g4=> ?_) (fun g4=> ?_)
 · have g4:¬p.getD (r.tt.toNat - 1) 0=r.fr:=fun h=>g4 (by rw [h])
   rw [if_neg (by rw [decide_eq_false g4];simp)] at hs;refine Xz 7 J (by omega) ?_;refine Qc 1 (Qc 0 (Qk (i+1,m2) (by dsimp only;omega) ⟨by dsimp only;omega,hm2⟩ (by dsimp only;rw [hs];exact Qx J)))
 have g4:p.getD (r.tt.toNat - 1) 0=r.fr:=_root_.Fin.ext (by have:=Decidable.not_not.1 g4;omega);rw [decide_eq_true g4,Bool.true_and] at hs;refine Qj 7 J (Ops.cutHi J J J sAdrs (by omega) (by rw [List.length_map];omega) J ?_);rw [<- List.map_take];have hw:=wires_ok (p.take r.tt.toNat) (by rw [List.length_take];omega);generalize wsO (p.take r.tt.toNat)=wo at hs hw hFr;obtain ⟨ws,wb⟩:=wo;dsimp only at hs hw hFr;refine Qv (gT J) hw J (Qq 12 J ?_);refine Xx J (fun g5=> ?_) (fun g5=> ?_)
 · rw [if_pos g5] at hs;refine Qj 5 J (Zv (n:=18) J J sMes J J (by decide) J ?_);refine QJ (q.map mf).length (mes (q.map mf++ [(r,ws)])) J J J J sMes (mes_len _) J (by rw [List.length_map];omega) (by rw [List.length_map];omega) (mes_snoc _ _) J ?_;refine QZ 8 J (by omega) ?_;refine Qc 1 (Qc 0 (Qk (i+1,m2) (by dsimp only;omega) ⟨by dsimp only;omega,hm2⟩ (by dsimp only;rw [hs,List.map_append,List.map_singleton,hFr];exact Qx J)))
 · rw [if_neg (by rw [g5];decide)] at hs;refine Xz 7 J (by omega) ?_;refine Qc 1 (Qc 0 (Qk (i+1,m2) (by dsimp only;omega) ⟨by dsimp only;omega,hm2⟩ (by dsimp only;rw [hs];exact Qx J)))
end Go.Proofs.YtfimckpnnbibcaaGreat
namespace Go.Proofs.YtfimckpnnbibcaaGreat
open Go.Own Go.Limbs Go.Shelf Go.Proofs.Tryz
open Go.Sort hiding Ok
attribute [local irreducible] St Ops Go.Own.Fin Ok OkB OkN OkT OkL OkF OkM
def wsA (l : List Me) : List Wr := l.flatMap fun x => x.2
def vrF (l : List Rs) : List Wr := sd cmpW (wsA (msF l))
def vrO (l : List Rs) : List Wr × Int := if ¬ chkF l = 0 then ([], chkF l) else if 16 < ((vrF l).length : Int) then ([], 5) else (vrF l, 0)
theorem me_wires(l:List Rs):∀x∈msF l,x.2.length<=256:=fun x hx=>by
 obtain ⟨r,hr,rfl⟩:=List.mem_map.1 hx
 show (wsO _).1.length<=256
 unfold wsO
 have hp:(paF l r).length<=256:=pathF_len _ _
 split
 · rw [wsG_len,List.length_take];omega
 · exact Nat.zero_le _
theorem wsA_len:∀(l:List Me),(∀x∈l,x.2.length<=256) ->(wsA l).length<=l.length*256
 | [],_=>Nat.le_refl _
 |x::l,h=>by
  have h1:=wsA_len l fun y hy=>h y (List.mem_cons_of_mem _ hy)
  have h2:=h x (List.mem_cons_self ..)
  have e:wsA (x::l)=x.2++wsA l:=by simp [wsA]
  rw [e,List.length_append,List.length_cons,Nat.succ_mul]
  omega
theorem wrs_ones(l:List Wr):ones (wrs l)=true:=el_ones (fun _=>rfl) l
theorem goVar1:InGo prog 37:=InGo.of func37 rfl (by decide)
theorem Var1_ok(r:Rs):Ok prog 37 [rsC r] (boolC (!okR r)):=by
 refine Ok.enter func37 J _ ntmps37 J ?_
 intro S w;refine Qj 9 J (Qv (gT J) (ValidR_ok r) J (Qq 5 J ?_));refine Qw J J
theorem JJ(l:List Rs)(hl:l.length<=10000):Ok prog 16 [rssC l] (.tup [wrsC (vrO l).1,intC (vrO l).2]):=by
 have hC:=ContainsFunc_res l _ (fun r=> !okR r) goVar1 (fun x _=>Var1_ok x) (by omega);have hO:=Order_ok l hl;have hN:=Consistent_ok l hl;have hM:=measures_ok l hl
 have e:vrO l=if ¬chkF l=0 then ([],chkF l) else if 16<((vrF l).length:Int) then ([],5) else (vrF l,0):=rfl
 have e1:chkF l=if (l.any fun r=> !okR r)=true then 1 else if 512<((sd cmpR (l.filter okR)).length:Int) then 5 else if consB l=true then 0 else 30:=rfl
 have e2:vrF l=dd ((wsA (msF l)).mergeSort fun x y=> !(ltOf cmpW) y x):=rfl
 have hol:(sd cmpR (l.filter okR)).length<=10000:=by
  have:=sd_len cmpR (l.filter okR);have:=List.length_filter_le okR l;omega
 have hml:(msF l).length<=10000:=by
  unfold msF;rw [List.length_map];exact Nat.le_trans (List.length_filter_le _ _) hol
 have hmw:=me_wires l;generalize vrO l=out at e ⊢;generalize vrF l=vr at e e2;generalize chkF l=c at e e1;generalize (l.any fun r=> !okR r)=b1 at hC e1;generalize sd cmpR (l.filter okR)=o at hO e1 hol;generalize consB l=b3 at hN e1;generalize msF l=ms at hM e2 hml hmw
 refine Ok.enter func16 J _ ntmps16 J ?_
 intro S w;refine Qj 11 J (Qv (gT J) hC J (Qq 3 J ?_));refine Xx J (fun h=> ?_) (fun h=> ?_)
 · rw [if_pos h] at e1;rw [if_pos (by rw [e1];decide),e1] at e;refine Qj 7 J ?_;refine X5 [_,_] rfl (Xv Zp (Q4 J (Q4 J Q3))) (by rw [e];rfl) J
 rw [if_neg (by rw [h];decide)] at e1;refine Qj 3 J (Z7 3 (gT J) hO J J J J J J (Zw 3 _ J (rss_frozen _ _) noBor_sub (QV sRes.und J (Qq 4 J ?_))));refine Qy J (fun h2=> ?_) (fun h2=> ?_)
 · rw [if_pos h2] at e1;rw [if_pos (by rw [e1];decide),e1] at e;refine Qj 7 J ?_;refine X5 [_,_] rfl (Xv Zp (Q4 J (Q4 J Q3))) (by rw [e];rfl) J
 rw [if_neg h2] at e1;refine Qj 3 J (Qv (gT J) hN J (Qq 4 J ?_));refine Xx J (fun h3=> ?_) (fun h3=> ?_)
 · rw [if_neg (by simpa using h3)] at e1;rw [if_pos (by rw [e1];decide),e1] at e;refine Qj 7 J ?_;refine X5 [_,_] rfl (Xv Zp (Q4 J (Q4 J Q3))) (by rw [e];rfl) J
 rw [if_pos (by simpa using h3)] at e1;rw [if_neg (fun h=>h e1)] at e;refine Qj 11 J (Qv (gT J) hM J (QV sMes.und J (Qq 4 J (Xo 4 0 42 2 J J J ?_))))
 refine QY (α:=Nat) (fun i=>i<=ms.length)
  (fun i=>[(4, .own 0),(20, .ct (mesC ms)),(21, .ct (intC ms.length)),(22, .ct (intC i))])
  (fun i=>[(0, .row 42 2 (wrs (wsA (ms.take i))))]) (fun i=>ms.length - i) 0 (Nat.zero_le _) (by exact Qx J) ?_
 intro i hi
 try dsimp only at hi ⊢
 refine Qj 6 J ?_;refine Qy J (fun h4=> ?_) (fun h4=> ?_)
 · have e4:(i:Int).toNat=i:=Int.toNat_natCast i
   have hs:wsA (ms.take (i+1))=wsA (ms.take i)++(ms.getD i me0).2:=by
    unfold wsA;rw [List.take_add_one,List.getElem?_eq_getElem (by omega),List.getD_eq_getElem?_getD,List.getElem?_eq_getElem (by omega),List.flatMap_append];simp
   have hwl:=wsA_len (ms.take i) fun x hx=>hmw x (List.mem_of_mem_take hx)
   rw [List.length_take] at hwl
   have hwl:(wsA (ms.take i)).length<=2560000:=by omega
   have hx2:=hmw (ms.getD i me0) (by rw [List.getD_eq_getElem?_getD,List.getElem?_eq_getElem (by omega)];exact List.getElem_mem _);refine Qj 6 J (Q8 me0 sMes J (by omega) ?_)
   rw [e4];generalize ms.getD i me0=x at hs hx2;generalize wsA (ms.take i)=q at hs hwl ⊢;obtain ⟨r,ws⟩:=x;dsimp only at hs hx2;refine Qq 9 J ?_
   have hx3:(ws.map wrCs).length<=256:=by rw [List.length_map];exact hx2
   refine Ops.append q.length (wrs (q++ws)) J J J J sWrs (wrs_len q) (wrs_ones ws) (by show (q.length+(ws.map wrCs).length)*8<=_;omega) (by show q.length+(ws.map wrCs).length<=_;omega) (wrs_app q ws) J ?_;refine QZ 8 J (by omega) ?_;refine Qc 1 (Qk (i+1) (by omega) (by omega) (by rw [hs];exact Qx J))
 have hi' :i=ms.length:=by omega
 have hwl:=wsA_len ms hmw
 have hwl:(wsA ms).length<=2560000:=by omega
 rw [hi',List.take_length];generalize wsA ms=q at e2 hwl ⊢
 have hvl:vr.length<=2560000:=by rw [e2];exact Nat.le_trans (dd_len _) (by rw [List.length_mergeSort];omega)
 refine Qj 5 J (Ops.callL (gT J) (SortD_ok q (by omega)) J J J J J ?_);refine Qq 5 J (Ops.callT (gT J) (Compact_Wr_ok (q.mergeSort fun x y=> !(ltOf cmpW) y x) (by rw [List.length_mergeSort];omega)) J J J J J ?_);rw [<- e2];refine Qq 7 J (Yy vr.length J J J (by decide) (wrs_len vr) sWrs.und J ?_);refine Qq 3 J ?_;refine Qy J (fun h5=> ?_) (fun h5=> ?_)
 · rw [if_pos h5] at e;refine Qj 7 J ?_;refine X5 [_,_] rfl (Xv Zp (Q4 J (Q4 J Q3))) (by rw [e];rfl) J
 rw [if_neg h5] at e;refine Qj 10 J (Jq 0 _ J (wrs_frozen _ _) noBor_sub (Qw J (by rw [e];rfl)))
end Go.Proofs.YtfimckpnnbibcaaGreat
namespace Go.Proofs.YtfimckpnnbibcaaGreat
open Go.Limbs Go.Own Go.Proofs.Tryz
def rpY (n t T : Int) : Rs := ⟨0, 0, n, 100 * n, 9, 17, 0, t, true, false, 100 * n + T, adN t, 1, 0, 0, 0, 0⟩
open Go.Det
def cfW (vs ws : List Wr) (f : Int) : List Int := vs.map fun v => f * (ws.count v : Int)
def meR (vs : List Wr) (qu : Int) (m : Me) : List Rw := [⟨cfW vs m.2 1, m.1.bk - m.1.tm⟩, ⟨cfW vs m.2 (-1), qu - (m.1.bk - m.1.tm)⟩]
def rowsD (vs : List Wr) (mo qu : Int) (ms : List Me) : List Rw := (vs.map fun v => ⟨cfW vs [v] 1, mo⟩) ++ ms.flatMap (meR vs qu)
def tiB (mo qu : Int) : Bool := decide (0 ≤ mo ∧ mo ≤ 1073741824 ∧ 0 ≤ qu ∧ qu ≤ 1073741824)
def rwO (l : List Rs) (mo qu : Int) : List Rw × List Ik × Int :=
  if tiB mo qu = false then ([], [], 1) else if ¬ (vrO l).2 = 0 then ([], [], (vrO l).2)
  else if 64 < ((vrO l).1.length : Int) + 2 * (msF l).length then ([], [], 5) else (rowsD (vrO l).1 mo qu (msF l), (msF l).map (fun m => idOf m.1), 0)
theorem cfW_at{vs:List Wr}(ws:List Wr)(f:Int){j:Nat}(hj:j<vs.length):(cfW vs ws f).getD j 0=f*(ws.count (vs.getD j wr0):Int):=by
 unfold cfW;rw [List.getD_eq_getElem?_getD,List.getElem?_map,List.getD_eq_getElem?_getD,List.getElem?_eq_getElem hj];rfl
def unL (n i : Nat) (f : Int) : List Int := (List.replicate n 0).set i f
theorem unL_getD{n i:Nat}(f:Int)(h:i<n)(j:Nat):(unL n i f).getD j 0=if j=i then f else 0:=by
 unfold unL;rw [List.getD_eq_getElem?_getD,List.getElem?_set];by_cases e:i=j
 · subst e;rw [if_pos rfl,if_pos (by simpa using h),if_pos rfl];rfl
 · rw [if_neg e,if_neg (fun h=>e h.symm)];by_cases hj:j<n
   · rw [List.getElem?_replicate,if_pos hj];rfl
   · rw [List.getElem?_replicate,if_neg hj];rfl
theorem rsum_un{n i:Nat}(f:Int)(h:i<n)(X:Nat ->Int):rsum n (unL n i f) X=f*X i:=by
 unfold rsum;rw [Yl (i:=i) h (fun k _ hk=>by rw [unL_getD f h,if_neg hk,Int.zero_mul]),unL_getD f h,if_pos J]
theorem cfW_nil(vs:List Wr)(f:Int):cfW vs [] f=List.replicate vs.length 0:=by
 unfold cfW;refine List.eq_replicate_iff.2 ⟨List.length_map _,fun x hx=> ?_⟩;obtain ⟨v,_,rfl⟩:=List.mem_map.1 hx;rw [List.count_nil];exact Int.mul_zero f
theorem cfW_len(vs ws:List Wr)(f:Int):(cfW vs ws f).length=vs.length:=by unfold cfW;rw [List.length_map]
theorem cfW_out{vs:List Wr}{x:Wr}(h:x ∉ vs)(l:List Wr)(f:Int):cfW vs (l++ [x]) f=cfW vs l f:=by
 unfold cfW
 refine List.map_congr_left fun v hv=> ?_
 have hne:(x==v)=false:=by rw [beq_eq_false_iff_ne];exact fun e=>h (e▸hv)
 rw [List.count_append,List.count_singleton,hne];rfl
theorem cfW_get{vs:List Wr}(l:List Wr)(f:Int){k:Nat}(hk:k<vs.length):(cfW vs l f).getD k 0=f*(l.count (vs.getD k wr0):Int):=by
 unfold cfW;rw [List.getD_eq_getElem?_getD,List.getElem?_map,List.getElem?_eq_getElem hk,List.getD_eq_getElem?_getD,List.getElem?_eq_getElem hk];rfl
theorem cfW_el{vs:List Wr}(l:List Wr)(f:Int){k:Nat}(h:k<(cfW vs l f).length):(cfW vs l f)[k]=f*(l.count (vs.getD k wr0):Int):=by
 have:=cfW_get (vs:=vs) l f (k:=k) (by rw [cfW_len] at h;exact h);rw [List.getD_eq_getElem?_getD,List.getElem?_eq_getElem h] at this;exact this
theorem cfW_in{vs:List Wr}(hu:Up cmpW vs){x:Wr}(h:x∈vs)(l:List Wr)(f:Int):(cfW vs l f).set (posD vs x) ((cfW vs l f).getD (posD vs x) 0+f)=cfW vs (l++ [x]) f:=by
 obtain ⟨h1,h2⟩:=(posD_at hu).1 h
 have hun:∀k,k<vs.length ->vs.getD k wr0=x ->k=posD vs x:=fun k hk e=>by
  have hp:=posD_lt (t:=x) hu hk;rw [e,ordW.self] at hp
  have hk2:¬k<posD vs x:=fun h=>absurd (hp.2 h) (by decide)
  rcases Nat.lt_or_eq_of_le (Nat.le_of_not_lt hk2) with q|q
  · have h3:=List.pairwise_iff_getElem.1 hu _ _ h1 hk q;rw [List.getD_eq_getElem?_getD,List.getElem?_eq_getElem h1] at h2;rw [List.getD_eq_getElem?_getD,List.getElem?_eq_getElem hk] at e;simp only [Option.getD_some] at h2 e;rw [h2,e,ordW.self] at h3;exact absurd h3 (by decide)
  · exact q.symm
 refine List.ext_getElem (by rw [List.length_set,cfW_len,cfW_len]) fun k hk1 hk2=> ?_
 have hk:k<vs.length:=by rw [cfW_len] at hk2;exact hk2
 rw [List.getElem_set,cfW_el (l++ [x]) f hk2,List.count_append,List.count_singleton];by_cases e:posD vs x=k
 · have hx:vs.getD k wr0=x:=by rw [<- e];exact h2
   rw [if_pos e,e,cfW_get l f hk,hx,if_pos (beq_self_eq_true x),Int.natCast_add,Int.mul_add,Int.natCast_one,Int.mul_one]
 · have hne:¬(x==vs.getD k wr0)=true:=fun h3=>e (hun k hk (eq_of_beq h3).symm).symm
   rw [if_neg e,if_neg hne,Nat.add_zero];exact cfW_el l f (by rw [cfW_len];exact hk)
theorem cfW_bd(vs l:List Wr){f:Int}(hf:f=1 \/f= -1)(hl:l.length<=1000)(k:Nat): -1000<=(cfW vs l f).getD k 0/\ (cfW vs l f).getD k 0<=1000:=by
 by_cases hk:k<vs.length
 · rw [cfW_get l f hk];have:l.count (vs.getD k wr0)<=1000:=Nat.le_trans List.count_le_length hl;generalize l.count (vs.getD k wr0)=c at this;rcases hf with rfl|rfl
   · omega
   · omega
 · rw [List.getD_eq_getElem?_getD,List.getElem?_eq_none (by rw [cfW_len];omega)];exact ⟨by decide,by decide⟩
def tmT (d : List Int) (t : Nat) : Int := if t = 0 then 0 else d.getD (t - 1) 0
section
variable {d : List Int} {mo qu : Int}
theorem rowsD_len(vs:List Wr)(mo qu:Int):∀ms:List Me,(rowsD vs mo qu ms).length=vs.length+2*ms.length:=fun ms=>by
 have:∀ms:List Me,(ms.flatMap (meR vs qu)).length=2*ms.length:=fun ms=>by
  induction ms with
  |nil=>rfl
  |cons m ms ih=>rw [List.flatMap_cons,List.length_append,ih,List.length_cons];show 2+_=_;omega
 unfold rowsD
 rw [List.length_append,List.length_map,this]
def stS (d : List Int) (qu : Int) (s t : Nat) : Int := tmT d t - (if t = s ∧ 0 < t then qu else 0)
end
theorem cf_ok(vs ws:List Wr){f:Int}(hf:f=1 \/f= -1)(hw:ws.length<=256):okCoeffs (vs.length:Int) (cfW vs ws f)=true:=by
 unfold okCoeffs;rw [Bool.and_eq_true,decide_eq_true_eq];refine ⟨by unfold cfW;rw [List.length_map];omega,?_⟩
 have:(cfW vs ws f).any badC=false:=by
  rw [List.any_eq_false];intro x hx;obtain ⟨v,_,rfl⟩:=List.mem_map.1 hx;have hc:ws.count v<=256:=Nat.le_trans List.count_le_length hw;generalize ws.count v=k at hc;unfold badC;rcases hf with rfl|rfl
  · simp;omega
  · simp;omega
 rw [this];rfl
theorem rowsD_valid{vs:List Wr}{ms:List Me}{mo qu:Int}(hv:vs.length<=16)(hl:vs.length+2*ms.length<=64)(hm:∀m∈ms,m.2.length<=256/\ 0<=m.1.bk - m.1.tm/\ m.1.bk - m.1.tm<=2251799813685248)(ht:tiB mo qu=true):validR (vs.length:Int) (rowsD vs mo qu ms)=true:=by
 have ht:0<=mo/\ mo<=1073741824/\ 0<=qu/\ qu<=1073741824:=of_decide_eq_true ht
 have good:∀(ws:List Wr) (f b:Int),(f=1 \/f= -1) ->ws.length<=256 -> -4503599627370496<=b ->b<=4503599627370496 ->badR (vs.length:Int) ⟨cfW vs ws f,b⟩=false:=fun ws f b hf hw h1 h2=>by
  unfold badR;dsimp only;rw [cf_ok vs ws hf hw,decide_eq_false (by omega),decide_eq_false (by omega)];rfl
 unfold validR;rw [decide_eq_true (by omega),decide_eq_true (by omega),decide_eq_true (by rw [rowsD_len];exact hl)]
 have:(rowsD vs mo qu ms).any (badR (vs.length:Int))=false:=by
  rw [List.any_eq_false];intro r hr;unfold rowsD at hr;rcases List.mem_append.1 hr with h|h
  · obtain ⟨v,_,rfl⟩:=List.mem_map.1 h;rw [good [v] 1 mo (.inl J) (by show 1<=256;decide) (by omega) (by omega)];decide
  · obtain ⟨m,hmm,h⟩:=List.mem_flatMap.1 h;obtain ⟨h1,h2,h3⟩:=hm m hmm;rcases List.mem_cons.1 h with rfl|h
    · rw [good m.2 1 _ (.inl J) h1 (by omega) (by omega)];decide
    · rw [List.mem_singleton.1 h,good m.2 (-1) _ (.inr J) h1 (by omega) (by omega)];decide
 rw [this];rfl
theorem unL_ok{n i:Nat}(h:i<n){f:Int}(hf:f=1 \/f= -1):okCoeffs (n:Int) (unL n i f)=true:=by
 unfold okCoeffs;rw [Bool.and_eq_true,decide_eq_true_eq];refine ⟨by unfold unL;rw [List.length_set,List.length_replicate];omega,?_⟩
 have:(unL n i f).any badC=false:=by
  rw [List.any_eq_false];intro x hx
  have hb:x=0 \/x=f:=by
   unfold unL at hx;rcases List.mem_or_eq_of_mem_set hx with h|h
   · exact .inl (List.eq_of_mem_replicate h)
   · exact .inr h
  unfold badC;rcases hb with rfl|rfl
  · decide
  · rcases hf with rfl|rfl <;>decide
 rw [this];rfl
theorem ok_time{r:Rs}(h:okR r=true):0<=r.tm/\ r.tm<=2251799813685248/\ 0<=r.bk - r.tm/\ r.bk - r.tm<=2251799813685248:=by
 unfold okR at h;rw [Bool.and_eq_true,decide_eq_true_eq] at h
 have hP:¬P1 r:=fun hp=>by have:=h.1;unfold ckE at this;rw [if_pos hp] at this;cases this
 unfold P1 at hP;omega
theorem me_time(l:List Rs):∀m∈msF l,(0<=m.1.tm/\ m.1.tm<=2251799813685248)/\ 0<=m.1.bk - m.1.tm/\ m.1.bk - m.1.tm<=2251799813685248:=fun m hm=>by
 obtain ⟨r,hr,rfl⟩:=List.mem_map.1 hm
 have h1:=(List.mem_filter.1 hr).1
 have h2:=(List.mem_filter.1 (((Yt ordR _).2 r).1 h1)).2
 obtain ⟨a,b,c,e⟩:=ok_time h2
 exact ⟨⟨a,b⟩,c,e⟩
def bdF (O1 O2 : Oc) : Oc × Oc × (Int × Int) × Int :=
  if O1.kind ≠ 1 ∨ O2.kind ≠ 1 then (oc0, oc0, (0, 0), 33) else if flV O2.value < -flV O1.value then (oc0, oc0, (0, 0), 33) else (O1, O2, (-flV O1.value, flV O2.value), 0)
end Go.Proofs.YtfimckpnnbibcaaGreat
namespace Go.Own
theorem ushr1{p:Int}{kk:IntKind}:IBin .shr .u64 p kk 1 (.int .u64 (p/2)):= .of fun P t w=>by
 show (Op.shift .shr .u64 p kk 1).run P w=_
 have e:(Op.shift .shr .u64 p kk 1)=pure (.int .u64 (p.fdiv (2 ^ 1))):=rfl
 rw [e,Int.fdiv_eq_ediv_of_nonneg _ (by decide)]
 rfl
end Go.Own
namespace Go.Proofs.YtfimckpnnbibcaaGreat
open Go.Own Go.Limbs Go.Proofs.Tryz
attribute [local irreducible] St Ops Go.Own.Fin Ok OkB OkN OkT OkL OkF OkM
theorem uUintD:prog.underlying 137=some (.int .u64):=underlying137
theorem BSearch_ok(vs:List Wr)(x:Wr)(hu:Up cmpW vs)(hl:vs.length<=100000):Ok prog 27 [wrsC vs,wrC x,cmpDV] (.tup [intC (posD vs x),boolC (decide (x∈vs))]):=by
 have hlt:=fun h (hh:h<vs.length)=>posD_lt (t:=x) hu hh
 have hat:=posD_at (t:=x) hu;have hpl:=posD_le vs x
 have hmem:decide (x∈vs)=decide (posD vs x<vs.length/\ cmpW (vs.getD (posD vs x) wr0) x=0):=decide_eq_decide.2 (by
  rw [hat];exact and_congr_right fun _=>⟨fun h=>by rw [h];exact ordW.self x,fun h=>ordW.eq0 _ _ h⟩)
 clear hat;generalize posD vs x=ps at hlt hpl hmem ⊢;generalize decide (x∈vs)=bm at hmem ⊢
 refine Ok.enter func27 J _ ntmps27 J ?_
 intro S w;refine Qj 10 J (QV sWrs.und J (Qq 12 J ?_))
 refine QY (α:=Nat × Nat) (fun q=>q.1<=q.2/\ q.2<=vs.length/\ q.1<=ps/\ ps<=q.2)
  (fun q=>[(0, .ct (wrsC vs)),(2, .ct cmpDV),(4, .own 0),(8, .ct (intC vs.length)),(9, .ct (intC q.1)),(10, .ct (intC q.2))]) (fun _=>[(0, .box 42 (wrCs x))]) (fun q=>q.2 - q.1) (0,vs.length) ⟨Nat.zero_le _,Nat.le_refl _,Nat.zero_le _,hpl⟩ (by exact Qx J) ?_
 rintro ⟨i,j⟩ ⟨hij,hj,h1,h2⟩
 dsimp only at hij hj h1 h2 ⊢;refine Qj 8 J ?_;refine Qy J (fun h=> ?_) (fun h=> ?_)
 · have eh:((i:Int)+j)/2=(((i+j)/2:Nat):Int):=by omega
   have hh:i<=(i+j)/2/\ (i+j)/2<j:=by omega
   refine Xz 8 J (by omega) ?_;refine Z0 J J uInt uUintD (wrap_u (by omega) (by omega)) J ?_;refine Qh ushr1 J J J J ?_
   rw [eh];generalize (i+j)/2=k at hh
   refine Z0 J J uUintD uInt (Zi (by omega) (by omega)) J ?_
   clear eh;have e2:(k:Int).toNat=k:=Int.toNat_natCast k;have hk:=hlt k (by omega);refine Qq 4 J (XY 8 0x800746252403020100 J ?_);refine Qq 3 J (Q8 wr0 sWrs J (by omega) ?_);rw [e2];refine Qq 2 J (Ye goDcmp J (Dcmp_ok _ _) J J J J (Qq 3 J ?_));refine Qy J (fun h3=> ?_) (fun h3=> ?_)
   · have h4:=hk.1 h3;refine Xz 6 J (by omega) ?_;refine Qk (k+1,j) (by dsimp only;omega) ⟨by dsimp only;omega,by dsimp only;omega,by dsimp only;omega,by dsimp only;omega⟩ (by exact Qx J)
   · have h4:¬k<ps:=fun h=>h3 (hk.2 h)
     refine Qj 5 J ?_;refine Qk (i,k) (by dsimp only;omega) ⟨by dsimp only;omega,by dsimp only;omega,by dsimp only;omega,by dsimp only;omega⟩ (by exact Qx J)
 have hip:i=ps:=by omega
 subst hip;have e2:(i:Int).toNat=i:=Int.toNat_natCast i;clear hlt h1 h2 hij;refine Qj 3 J (XY 16 0x800f0e0d0c4b2a29080706050403020100 J ?_);refine Qq 5 J (QQ 39 J (fun h3=> ?_) (fun h3=> ?_))
 · have hb:bm=decide (cmpW (vs.getD i wr0) x=0):=by rw [hmem];exact decide_eq_decide.2 ⟨fun h=>h.2,fun h=>⟨by omega,h⟩⟩
   refine Qq 3 J (Q8 wr0 sWrs J (by omega) ?_);rw [e2];refine Qq 2 J (Ye goDcmp J (Dcmp_ok _ _) J J J J (Qq 7 J ?_));refine Qw J (by rw [hb];rfl)
 · have hb:bm=false:=by rw [hmem];exact decide_eq_false fun h=>h3 (by omega)
   refine Qq 14 J ?_;refine Qw J (by rw [hb];rfl)
theorem unit_ok(n k:Nat)(hk:k<n)(hn:n<=1000)(f:Int):Ok prog 30 [intC n,intC k,intC f] (intsC (unL n k f)):=by
 have e2:(k:Int).toNat=k:=Int.toNat_natCast k
 refine Ok.enter func30 J _ ntmps30 J ?_
 intro S w;refine Qj 8 J (ZV 0 n J J J J sInts (by omega) (by omega) J J J ?_);rw [ints_made];refine Qq 8 J (Qf n J J J (by simp [ints]) J sInts (by omega) (by omega) J ?_);refine Qa J J J J J zInt (by simp [Ent.cs];omega) ?_
 simp only [Ent.setc,Zz];rw [show (k:Int).toNat*1=k by omega];refine Qq 9 J (Jq 0 _ J (X2 _ _) noBor_sub (Qw J J))
end Go.Proofs.YtfimckpnnbibcaaGreat
namespace Go.Proofs.YtfimckpnnbibcaaGreat
open Go.Limbs Go.Own Go.Proofs.Tryz
attribute [local irreducible] Go.Own.Fin Ok OkB OkF OkL OkM OkN OkT Ops St
theorem takeS{α:Type}{z:α}{l:List α}{i:Nat}(h:i<l.length):l.take (i+1)=l.take i++ [l.getD i z]:=by
 rw [List.take_add_one,List.getElem?_eq_getElem h];simp [List.getD_eq_getElem?_getD,List.getElem?_eq_getElem h]
def rwsF (rs : List Rw) : List CT := (rs.map rwCs).flatten
theorem rw_len(r:Rw):(rwCs r).length=2:=rfl
theorem rwsF_len(l:List Rw):(rwsF l).length=l.length*2:=el_len rw_len l
theorem rwsF_snoc(l:List Rw)(r:Rw):rwsF (l++ [r])=rwsF l++rwCs r:=by simp [rwsF]
theorem rwsF_frozen(e:Nat)(l:List Rw):(Ent.row e 2 (rwsF l)).frozen (.fr (sliceT 2 (l.map rwCs))):=
 ⟨_,rfl,fun e he=>by obtain ⟨m,_,rfl⟩:=List.mem_map.mp he;rfl,by decide,rfl⟩
abbrev prB (vs : List Wr) (v : Value) (rs : List Rw) : BL := [(0, .box 82 [wrsC vs, .ex v]), (1, .rowx v 136 2 (rwsF rs))]
theorem zRws1:(prog.info? 35).map (·.size)=some 1:=by kernel_rfl
theorem goadd:InGo prog 24:=InGo.of func24 rfl (by decide)
theorem add_ok(vs:List Wr)(hu:Up cmpW vs)(hvl:vs.length<=100)(v:Value)(hv:v.oneCell' =true)(rs:List Rw)(hrl:rs.length<=100000)(ws:List Wr)(hwl:ws.length<=1000)(f b:Int)(hf:f=1 \/f= -1):
  OkM prog 24 [.own 0, .ct (wrsC ws), .ct (intC f), .ct (intC b)] (prB vs v rs) [0] (fun v' :Value=>v'.oneCell' =true) (fun _=> .ct unitC) (fun v' =>prB vs v' (rs++ [⟨cfW vs ws f,b⟩])):=by
 refine OkM.enter func24 J _ ntmps24 J (fun i hi=>by rw [List.mem_singleton.1 hi];rfl) ?_
 intro S w ρ0 hbor;refine Qj 6 J (QV sWrs.und J (ZV 2 vs.length J J J J sInts (by omega) (by omega) J J J ?_));rw [ints_made,<- cfW_nil vs f];refine Qq 7 J (QV sWrs.und J (Qq 4 J ?_))
 refine QY (α:=Nat) (fun i=>i<=ws.length)
  (fun i=>[(0, .own 0),(2, .ct (intC f)),(3, .ct (intC b)),(8, .own 2),(19, .ct (wrsC ws)),(20, .ct (intC ws.length)),(21, .ct (intC i))])
  (fun i=>(2, .row 3 1 (ints (cfW vs (ws.take i) f)))::prB vs v rs) (fun i=>ws.length - i) 0 (Nat.zero_le _) (by exact Qx J) ?_
 intro i hi
 try dsimp only at hi ⊢
 refine Qj 6 J ?_;refine Qy J (fun h=> ?_) (fun h=> ?_)
 · have e2:(i:Int).toNat=i:=Int.toNat_natCast i;have hs:ws.take (i+1)=ws.take i++ [ws.getD i wr0]:=takeS (by omega);have hbd:=cfW_bd vs (ws.take i) hf (by rw [List.length_take];omega);refine Qj 6 J (Q8 wr0 sWrs J (by omega) ?_)
   rw [e2];generalize ws.getD i wr0=x at hs;refine Qq 6 J (XY 11 0x800a09080706452423020100 J ?_);refine Qq 5 J (Qv (gT J) (BSearch_ok vs x hu (by omega)) J ?_);refine Qq 12 J ?_;by_cases hx:x∈vs
   · rw [decide_eq_true hx];have hin:=cfW_in hu hx (ws.take i) f;have hpl:=((posD_at hu).1 hx).1;have hbd:=hbd (posD vs x);have hcl:=cfW_len vs (ws.take i) f;rw [<- hs] at hin;generalize posD vs x=k at hin hpl hbd ⊢;generalize cfW vs (ws.take i) f=cs at hin hbd hcl ⊢
     have e3:(k:Int).toNat*1=k:=by omega
     refine Qj 4 J (Qf vs.length J J J (by simp [hcl]) J sInts (by omega) (by omega) J ?_);rw [e3]
     refine QK J J J J (XK (by omega)) lInt J ?_;refine QZ 2 J (by omega) ?_;refine Qf vs.length J J J (by simp [hcl]) J sInts (by omega) (by omega) J ?_
     rw [e3]
     refine Qa J J J J J zInt (by simp [Ent.cs];omega) ?_
     simp only [Ent.setc,Zz];rw [hin];refine QZ 7 J (by omega) ?_;refine Qc 3 (Qk (i+1) (by omega) (by omega) (by exact Qx J))
   · rw [decide_eq_false hx];have hout:=cfW_out hx (ws.take i) f;rw [<- hs] at hout;rw [<- hout];refine Xz 8 J (by omega) ?_;refine Qc 3 (Qk (i+1) (by omega) (by omega) (by exact Qx J))
 have hi' :i=ws.length:=by omega
 rw [hi',List.take_length];generalize cfW vs ws f=cs;refine Qj 10 J (Zw 2 _ J (X2 _ _) hbor (Qq 1 J (Zv (n:=2) J J sRows J J (by decide) J ?_)));refine Qp 47 1 J J (QJ rs.length (rwsF (rs++ [⟨cs,b⟩])) J J J J sRows (rwsF_len rs) J (by omega) (by omega) (rwsF_snoc rs ⟨cs,b⟩) J ?_);refine Qq 2 J (Ops.name 52 1 J J (fun v' hv' => ?_));refine Qa (c:= .ex v') J J J J hv' zRws1 (by simp [Ent.cs]) ?_;refine Qz (Fin.endM v' [] rfl Q3 J (fun j=> ?_) hv');rfl
abbrev tiCs (mo qu : Int) : List CT := [intC mo, intC qu]
abbrev tiC (mo qu : Int) : CT := .agg (tiCs mo qu)
theorem lTi:LdN prog 29 2:=LdN.of _ underlying29 rfl (by kernel_rfl)
theorem DValid_ok(mo qu:Int):Ok prog 17 [tiC mo qu] (boolC (tiB mo qu)):=by
 have no:¬(0<=mo/\ mo<=1073741824/\ 0<=qu/\ qu<=1073741824) ->tiB mo qu=false:=fun h=>decide_eq_false h
 have yes:0<=mo ->mo<=1073741824 ->0<=qu ->tiB mo qu=decide (qu<=1073741824):=fun h1 h2 h3=>decide_eq_decide.2 ⟨fun h=>h.2.2.2,fun h=>⟨h1,h2,h3,h⟩⟩
 generalize tiB mo qu=out at no yes ⊢
 refine Ok.enter func17 J _ ntmps17 J ?_
 intro S w;refine Qj 12 J (QQ 6 J (fun h1=> ?_) (fun h1=> ?_));rotate_left
 · have e:=no (fun h=>h1 h.1);refine Qq 18 J ?_;refine Qw J (by rw [e];rfl)
 refine Qq 5 J (QQ 11 J (fun h2=> ?_) (fun h2=> ?_));rotate_left
 · have e:=no (fun h=>h2 h.2.1);refine Qq 13 J ?_;refine Qw J (by rw [e];rfl)
 refine Qq 5 J (QQ 16 J (fun h3=> ?_) (fun h3=> ?_));rotate_left
 · have e:=no (fun h=>h3 h.2.2.1);refine Qq 8 J ?_;refine Qw J (by rw [e];rfl)
 have e:=yes h1 h2 h3;refine Qq 8 J ?_;refine Qw J (by rw [e];rfl)
theorem prog_none{vs:List Wr}{v:Value}{rs:List Rw}{j:Nat}(h:2<=j):bget (prB vs v rs) j=none:=by
 show bget ((0,_)::(1,_)::[]) j=none;rw [QX _ _ (by omega),QX _ _ (by omega)];rfl
theorem prog_swap{E:BL}(h:beside E=true)(vs:List Wr)(v:Value)(rs:List Rw)(j:Nat):bget (E++prB vs v rs) j=bget (prB vs v rs++E) j:=by
 rw [Xg,Xg]
 cases h1:bget E j with
 |none=>cases bget (prB vs v rs) j <;>rfl
 |some e=>
  have:=beside_get h (j:=j) (by rw [h1];rfl);rw [prog_none (by omega)];rfl
section
variable {X : Ctx} {L : AL} {B : BL} {ops : Array Oper} {K : Act → World → Prop} {r : Pl} {k : Kd}
  {x y z : Operand} {d : Nat} {t t2 t' : TypeId} {pos : String} {af : Array Edge} {g : Option (Nat × Bool)}
theorem Ops.callAdd{f:FuncId}{args:List Operand}{tys:Array TypeId}{As:List Sl}{vs:List Wr}{v:Value}{rs rs' :List Rw}{J:Value ->Prop}(E:BL)(hgo:InGo X.P f)(hok:OkM X.P f As (prB vs v rs) [0] J (fun _=> .ct unitC) (fun q=>prB vs q rs'))(hg:gd ops L g=some true)(hargs:evS L args=some As)(hn:Nat.blt d X.n=true)
  (hbor:∀gb,X.bor gb ->X.S0 gb) (hB:B=E++prB vs v rs) (hE:beside E=true) (hfix:∀p∈X.fix,(bget E p.1).isSome=true \/p.1∈ [0])
  (h:∀q,J q ->Ops X ops r ((d, .ct unitC)::keepL kpT L) (E++prB vs q rs') K):Ops X ops (.cons ⟨some d, .call {callee:= .value (.func f),args:=args.toArray,argTypes:=tys},t,pos,af,g⟩ .any r) L B K:=by
 subst hB;refine Ops.callM E kpT hgo hok hg hargs hn hbor (prog_swap hE vs v rs) (fun j hj=> ?_) (fun j hj=> ?_) hfix (fun q j h=> ?_) (fun q hq=> ?_)
 · have:=beside_get hE hj;exact ⟨prog_none (by omega),fun q=>prog_none (by omega)⟩
 · unfold kpT at hj;rw [Bool.or_eq_true,Bool.and_eq_true] at hj;rcases hj with hj|⟨h1,h2⟩
   · exact .inl (by rw [Nat.eq_of_beq_eq_true hj];simp)
   · have:=Nat.le_of_ble_eq_true h1
     exact .inr fun q=>prog_none (by omega)
 · rcases h with h|⟨_,h⟩ <;>cases h
 · exact Ops.reB (fun j=>prog_swap hE vs q rs' j) (h q hq)
end
theorem DRows_ok(l:List Rs)(hl:l.length<=10000)(mo qu:Int):Ok prog 9 [rssC l,tiC mo qu] (.tup [rowsC (rwO l mo qu).1,iksC (rwO l mo qu).2.1,intC (rwO l mo qu).2.2]):=by
 have hV:=DValid_ok mo qu;have hVa:=JJ l hl;have hM:=measures_ok l hl;have hmw:=me_wires l;have hmt:=me_time l
 have hti:tiB mo qu=true ->0<=mo/\ mo<=1073741824/\ 0<=qu/\ qu<=1073741824:=fun h=>of_decide_eq_true h
 have hml:(msF l).length<=10000:=by
  unfold msF;rw [List.length_map];have h1:=List.length_filter_le (mesB l) (sd cmpR (l.filter okR));have h2:=sd_len cmpR (l.filter okR);have h3:=List.length_filter_le okR l;omega
 have e:rwO l mo qu=if tiB mo qu=false then ([],[],1) else if ¬(vrO l).2=0 then ([],[],(vrO l).2)
  else if 64<((vrO l).1.length:Int)+2*(msF l).length then ([],[],5) else (rowsD (vrO l).1 mo qu (msF l),(msF l).map (fun m=>idOf m.1),0):=rfl
 have hvu:Up cmpW (vrO l).1:=by
  unfold vrO;split
  · exact List.Pairwise.nil
  · split
    · exact List.Pairwise.nil
    · exact (Yt ordW _).1
 have hvl:(vrO l).1.length<=16:=by
  unfold vrO;split
  · exact Nat.zero_le _
  · split
    · exact Nat.zero_le _
    · dsimp only;omega
 generalize rwO l mo qu=out at e ⊢;generalize tiB mo qu=tb at hV hti e;generalize vrO l=vo at hVa e hvu hvl;generalize msF l=ms at hM hmw hmt hml e;obtain ⟨vs,ve⟩:=vo;dsimp only at hVa e hvu hvl
 refine Ok.enter func9 J _ ntmps9 J ?_
 intro S w;refine Qj 2 J (Ops.boxN 5 J J J J J J J (Qq 9 J (Qv (gT J) hV J (Qq 3 J ?_))));refine Xx J (fun h1=> ?_) (fun h1=> ?_)
 · rw [if_pos (by cases tb with|true=>cases h1|false=>rfl)] at e;refine Qj 8 J ?_;refine X5 [_,_,_] rfl (Xv Zp (Q4 J (Xv Zp (Q4 J (Q4 J Q3))))) (by rw [e];rfl) J
 have htb:tb=true:=by cases tb with|true=>rfl|false=>cases h1
 obtain ⟨t1,t2,t3,t4⟩:=hti htb;rw [if_neg (by rw [htb];decide)] at e;refine Qj 5 J (Qv (gT J) hVa J (Qq 14 J ?_));refine Qy J (fun h2=> ?_) (fun h2=> ?_)
 · rw [if_pos h2] at e;refine Qj 9 J ?_;refine X5 [_,_,_] rfl (Xv Zp (Q4 J (Xv Zp (Q4 J (Q4 J Q3))))) (by rw [e];rfl) J
 rw [if_neg h2] at e;refine Qj 5 J (Qv (gT J) hM J (Qq 7 J (QV sWrs.und J (Qq 1 J (QV sMes.und J (QZ 5 J (by omega) ?_))))));refine Qy J (fun h3=> ?_) (fun h3=> ?_)
 · rw [if_pos (by omega)] at e;refine Qj 8 J ?_;refine X5 [_,_,_] rfl (Xv Zp (Q4 J (Xv Zp (Q4 J (Q4 J Q3))))) (by rw [e];rfl) J
 rw [if_neg (by omega)] at e
 have hms:ms.length<=32:=by omega
 refine Qj 6 J (Ops.boxN 0 J J J J J J J (Qq 7 J (QV sWrs.und J (Qq 4 J (St.nilX 1 136 2 J J ?_)))))
 refine QY (α:=Nat × Value) (fun q=>q.1<=vs.length/\ q.2.oneCell' =true)
  (fun q=>[(3, .own 5),(7, .ct (wrsC vs)),(9, .ct (mesC ms)),(10, .own 0),(40, .ct (wrsC vs)),(41, .ct (intC vs.length)),(42, .ct (intC q.1))])
  (fun q=>(5, .box 29 (tiCs mo qu))::prB vs q.2 ((vs.take q.1).map fun v=>⟨cfW vs [v] 1,mo⟩)) (fun q=>vs.length - q.1) (0, .slice none 0 0) ⟨Nat.zero_le _,rfl⟩
  (Entails.front 0 _ J (Entails.front 5 _ J (by exact Qx J))) ?_
 rintro ⟨i,v⟩ ⟨hi,hv⟩
 dsimp only at hi hv ⊢;refine Qj 6 J ?_;refine Qy J (fun h4=> ?_) (fun h4=> ?_)
 · have e2:(i:Int).toNat=i:=Int.toNat_natCast i
   have hs:(vs.take (i+1)).map (fun v=>(⟨cfW vs [v] 1,mo⟩:Rw))=(vs.take i).map (fun v=>(⟨cfW vs [v] 1,mo⟩:Rw))++ [⟨cfW vs [vs.getD i wr0] 1,mo⟩]:=by rw [takeS (z:=wr0) (by omega),List.map_append];rfl
   have hrl:((vs.take i).map (fun v=>(⟨cfW vs [v] 1,mo⟩:Rw))).length<=16:=by rw [List.length_map,List.length_take];omega
   generalize (vs.take i).map (fun v=>(⟨cfW vs [v] 1,mo⟩:Rw))=rs at hs hrl ⊢;refine Qj 6 J (Q8 wr0 sWrs J (by omega) ?_)
   rw [e2];generalize vs.getD i wr0=x at hs;refine Qq 1 J (Xh 6 J J zvWire J J J (Qq 6 J (Zv (n:=2) J J sWrs J J (by decide) J ?_)));refine Qq 2 J (Ops.callAdd (As:=[.own 0, .ct (wrsC [x]), .ct (intC 1), .ct (intC mo)]) [(6,_),(5,_)] goadd (add_ok vs hvu (by omega) v hv rs (by omega) [x] (by show 1<=1000;decide) 1 mo (.inl J)) J J J (fun _ h=>h.elim) J J (fun p hp=>absurd hp (by simp)) (fun v' hv' => ?_));refine QZ 7 J (by omega) ?_;refine Qc 6 (Qk (i+1,v') (by dsimp only;omega) ⟨by dsimp only;omega,hv'⟩ (by rw [hs];exact Qx J))
 have hi' :i=vs.length:=by omega
 rw [hi',List.take_length]
 have hrl0:(vs.map (fun v=>(⟨cfW vs [v] 1,mo⟩:Rw))).length<=16:=by rw [List.length_map];omega
 have er:rowsD vs mo qu ms=vs.map (fun v=>(⟨cfW vs [v] 1,mo⟩:Rw))++ms.flatMap (meR vs qu):=rfl;rw [er] at e;generalize vs.map (fun v=>(⟨cfW vs [v] 1,mo⟩:Rw))=r0 at hrl0 e ⊢;clear er;refine Qj 11 J (QV sMes.und J (Qq 4 J (Xo 13 8 87 3 J J J ?_)))
 refine QY (α:=Nat × Value) (fun q=>q.1<=ms.length/\ q.2.oneCell' =true)
  (fun q=>[(3, .own 5),(10, .own 0),(13, .own 8),(53, .ct (mesC ms)),(54, .ct (intC ms.length)),(55, .ct (intC q.1))])
  (fun q=>(8, .row 87 3 (iks ((ms.take q.1).map fun m=>idOf m.1)))::(5, .box 29 (tiCs mo qu))::prB vs q.2 (r0++(ms.take q.1).flatMap (meR vs qu))) (fun q=>ms.length - q.1) (0,v) ⟨Nat.zero_le _,hv⟩
  (by rw [List.take_zero,List.flatMap_nil,List.append_nil];exact Qx J) ?_
 clear hv v
 rintro ⟨j,v⟩ ⟨hj,hv⟩
 dsimp only at hj hv ⊢;refine Qj 6 J ?_;refine Qy J (fun h5=> ?_) (fun h5=> ?_);rotate_left
 · have hj' :j=ms.length:=by omega
   rw [hj',List.take_length]
   refine St.frzX 1 0 1 _ J J J (rwsF_frozen 0 _) (fun _ h=>h.elim) ?_;refine St.frz 8 _ J (iks_frozen _ _) (fun _ h=>h.elim) ?_;refine Qj 15 J ?_;refine Qw J (by rw [e];rfl)
 have e2:(j:Int).toNat=j:=Int.toNat_natCast j
 have hmem:ms.getD j me0∈ms:=by rw [List.getD_eq_getElem?_getD,List.getElem?_eq_getElem (by omega)];exact List.getElem_mem _
 have hw:=hmw _ hmem;have ht:=hmt _ hmem
 have hs1:(ms.take (j+1)).map (fun m=>idOf m.1)=(ms.take j).map (fun m=>idOf m.1)++ [idOf (ms.getD j me0).1]:=by rw [takeS (z:=me0) (by omega),List.map_append];rfl
 have hs2:r0++(ms.take (j+1)).flatMap (meR vs qu)=(r0++(ms.take j).flatMap (meR vs qu))++ [⟨cfW vs (ms.getD j me0).2 1,(ms.getD j me0).1.bk - (ms.getD j me0).1.tm⟩]++ [⟨cfW vs (ms.getD j me0).2 (-1),qu - ((ms.getD j me0).1.bk - (ms.getD j me0).1.tm)⟩]:=by
  rw [takeS (z:=me0) (by omega),List.flatMap_append,<- List.append_assoc,List.append_assoc _ [_] [_]]
  refine congrArg _ ?_
  rw [List.flatMap_cons,List.flatMap_nil,List.append_nil];rfl
 have hl1:((ms.take j).map (fun m=>idOf m.1)).length<=32:=by rw [List.length_map,List.length_take];omega
 have hl2:(r0++(ms.take j).flatMap (meR vs qu)).length<=100:=by
  have:∀q:List Me,(q.flatMap (meR vs qu)).length=2*q.length:=fun q=>by
   induction q with
   |nil=>rfl
   |cons m q ih=>rw [List.flatMap_cons,List.length_append,ih,List.length_cons];show 2+_=_;omega
  rw [List.length_append,this,List.length_take];omega
 generalize (ms.take j).map (fun m=>idOf m.1)=is at hs1 hl1 ⊢;generalize r0++(ms.take j).flatMap (meR vs qu)=rs at hs2 hl2 ⊢;refine Qj 6 J (Q8 me0 sMes J (by omega) ?_)
 rw [e2];generalize ms.getD j me0=m at hw ht hs1 hs2;obtain ⟨x,ws⟩:=m;dsimp only at hw ht hs1 hs2;refine Qq 1 J (Xh 7 J J zvMe J J J (Qq 11 J (Qh (isub (p:=x.bk) (q:=x.tm) (by omega) (by omega)) J J J J ?_)));refine Qq 9 J (Ops.callAdd (As:=[.own 0, .ct (wrsC ws), .ct (intC 1), .ct (intC (x.bk - x.tm))]) [(7,_),(8,_),(5,_)] goadd (add_ok vs hvu (by omega) v hv rs (by omega) ws (by omega) 1 (x.bk - x.tm) (.inl J)) J J J (fun _ h=>h.elim) J J (fun p hp=>absurd hp (by simp)) (fun v2 hv2=> ?_));refine QZ 11 J (by omega) ?_;refine Ops.callAdd (As:=[.own 0, .ct (wrsC ws), .ct (intC (-1)), .ct (intC (qu - (x.bk - x.tm)))]) [(7,_),(8,_),(5,_)] goadd (add_ok vs hvu (by omega) v2 hv2 (rs++ [⟨cfW vs ws 1,x.bk - x.tm⟩]) (by rw [List.length_append,List.length_singleton];omega) ws (by omega) (-1) (qu - (x.bk - x.tm)) (.inr J)) J J J (fun _ h=>h.elim) J J (fun p hp=>absurd hp (by simp)) (fun v3 hv3=> ?_);refine Qq 5 J (Z5 (n:=17) J J J J (Nat.le_of_ble_eq_true J) lRes J (Qv (gT J) (Identity_ok x) J (Zv (n:=3) J J sIks J J (by decide) J ?_)));refine QJ is.length (iks (is++ [idOf x])) J J J J sIks (iks_len _) J (by omega) (by omega) (iks_snoc _ _) J ?_;refine QZ 8 J (by omega) ?_;refine Qc 7 (Qk (j+1,v3) (by dsimp only;omega) ⟨by dsimp only;omega,hv3⟩ (by rw [hs1,hs2];exact Qx J))
abbrev ivCs (p : Int × Int) : List CT := [intC p.1, intC p.2]
abbrev ivC (p : Int × Int) : CT := .agg (ivCs p)
theorem lIv:LdN prog 44 2:=LdN.of _ underlying44 rfl (by kernel_rfl)
theorem szIv:(prog.info? 44).map (·.size)=some 2:=by kernel_rfl
theorem bIv:bInfo prog 44=some (.agg #[.int .i64 0, .int .i64 0],[(0,some 1),(1,some 1)]):=by kernel_rfl
theorem flV_bd(f:Fr): -4611686018427387904<=flV f/\ flV f<=4611686018427387904:=by
 have h:=natAbs_sg f.neg (rnd f.num f.den f.neg);unfold flV
 split <;>omega
theorem Solve_any{n:Nat}{rs:List Rw}{c:List Int}(hv:validR n rs=true)(hc:okCoeffs n c=true):∃O:Oc,Sol n rs c O/\ Ok prog 47 [intC n,rowsC rs,intsC c] (.tup [ocC O,intC 0]):=by
 obtain ⟨N,e,hL⟩:=lpOf hv hc
 have e:n=N:=by omega
 subst e;obtain ⟨T,E,F,s,hR,hS⟩:=lp_sol hL;exact ⟨_,hS,Solve_ok n rs c hL hv hc hR⟩
structure OcF (O : Oc) : Prop where
  kind : O.kind = 1
  num : (limbs O.value.num).length ≤ 100
  den : (limbs O.value.den).length ≤ 100
  pos : 0 < O.value.den
theorem oc_w:argW [.ex (.int .i64 0), .ex (.bool false), .ex (.slice none 0 0), .ex (.slice none 0 0), .ex (.slice none 0 0), .ex (.slice none 0 0), .ex (.slice none 0 0)] (ocCs oc0):=⟨Zx,Zx,w_nat0,w_nat0,Zp,Zp,Zp,trivial⟩
theorem bounds_ok(n k:Nat)(hk:k<n)(hn:n<=16)(rs:List Rw)(O1 O2:Oc)(hS1:Ok prog 47 [intC n,rowsC rs,intsC (unL n k (-1))] (.tup [ocC O1,intC 0]))(hS2:Ok prog 47 [intC n,rowsC rs,intsC (unL n k 1)] (.tup [ocC O2,intC 0]))
  (z1:O1.kind=1 ->OcF O1) (z2:O2.kind=1 ->OcF O2):
  Ok prog 22 [rowsC rs,intC n,intC k] (.tup [ocC (bdF O1 O2).1,ocC (bdF O1 O2).2.1,ivC (bdF O1 O2).2.2.1,intC (bdF O1 O2).2.2.2]):=by
 have hU1:=unit_ok n k hk (by omega) (-1);have hU2:=unit_ok n k hk (by omega) 1
 have no1:O1.kind≠1 \/O2.kind≠1 ->bdF O1 O2=(oc0,oc0,(0,0),33):=fun h=>if_pos h
 have no2:¬(O1.kind≠1 \/O2.kind≠1) ->bdF O1 O2=if flV O2.value< -flV O1.value then (oc0,oc0,(0,0),33) else (O1,O2,(-flV O1.value,flV O2.value),0):=fun h=>if_neg h
 have hF1:=fun h=>FFloor_any O1.value (z1 h).num (z1 h).pos (z1 h).den
 have hF2:=fun h=>FFloor_any O2.value (z2 h).num (z2 h).pos (z2 h).den
 have hb1:=flV_bd O1.value;have hb2:=flV_bd O2.value;clear z1 z2;generalize bdF O1 O2=R at no1 no2 ⊢;obtain ⟨q1,⟨g1,m1,d1⟩,o1,y1,u1⟩:=O1;obtain ⟨q2,⟨g2,m2,d2⟩,o2,y2,u2⟩:=O2;dsimp only at no1 no2 hF1 hF2 hb1 hb2;generalize flV ⟨g1,m1,d1⟩=lo at*;generalize flV ⟨g2,m2,d2⟩=hi at*
 refine Ok.enter func22 J _ ntmps22 J ?_
 intro S w
 refine Qj 5 J ?_
 refine Qq 9 J (Qv (gT J) hU1 J (Qv (gT J) hS1 J ?_))
 refine Qq 4 J ?_
 refine Qq 8 J (Qv (gT J) hU2 J (Qv (gT J) hS2 J ?_))
 refine Qq 4 J ?_
 refine Qq 6 J ?_
 refine Qq 3 J ?_;refine QQ 35 J (fun g=> ?_) (fun g=> ?_)
 · obtain rfl:=no1 (.inl g)
   refine Qq 8 J ?_;refine Yx (by with_reducible exact mixed) [3,4,5] 0xa0a0a08006652264a0a0800665644263a0a0a08006656463420100 J (by kernel_rfl) (fun K hK=> ?_);refine Xw 2 J ?_
   repeat' (first
    |refine Qu
    |refine X7 (Xa J J J (Qz ?_))
    |refine Ql ?_ ?_
    |refine Xt ?_
    |refine Q0 ?_ ?_
    |refine Xb (n:=2) J J J J J (by with_reducible exact lIv) J (Qz ?_)
    |refine Zu 7 J J J J J (by with_reducible exact szOut) J J (Qz ?_)
    |refine Zu 2 J J J J J (by with_reducible exact szIv) J J (Qz ?_)
    |(refine Qb (hK _ _ ?_)
      refine Xs 2 J ?_
      repeat refine Zl ?_
      refine X5 [_,_,_,_] rfl (Xv (w_agg (by exact oc_w)) (Qi (n:=7) J J (by with_reducible exact lOut) J (Xv (w_agg (by exact oc_w)) (Qi (n:=7) J J (by with_reducible exact lOut) J (Qi (n:=2) J J (by with_reducible exact lIv) J (Q4 J Q3)))))) J J))
 refine Qq 1 J ?_
 refine Qq 5 J ?_;refine Qy J (fun g2=> ?_) (fun g2=> ?_)
 · obtain rfl:=no1 (.inr g2)
   refine Qj 1 J ?_;refine Yx (by with_reducible exact mixed) [3,4,5] 0xa0a0a08006652264a0a0800665644263a0a0a08006656463420100 J (by kernel_rfl) (fun K hK=> ?_);refine Xw 2 J ?_
   repeat' (first
    |refine Qu
    |refine X7 (Xa J J J (Qz ?_))
    |refine Ql ?_ ?_
    |refine Xt ?_
    |refine Q0 ?_ ?_
    |refine Xb (n:=2) J J J J J (by with_reducible exact lIv) J (Qz ?_)
    |refine Zu 7 J J J J J (by with_reducible exact szOut) J J (Qz ?_)
    |refine Zu 2 J J J J J (by with_reducible exact szIv) J J (Qz ?_)
    |(refine Qb (hK _ _ ?_)
      refine Xs 2 J ?_
      repeat refine Zl ?_
      refine X5 [_,_,_,_] rfl (Xv (w_agg (by exact oc_w)) (Qi (n:=7) J J (by with_reducible exact lOut) J (Xv (w_agg (by exact oc_w)) (Qi (n:=7) J J (by with_reducible exact lOut) J (Qi (n:=2) J J (by with_reducible exact lIv) J (Q4 J Q3)))))) J J))
 obtain rfl:q1=1:=Classical.not_not.1 g;obtain rfl:q2=1:=Classical.not_not.1 g2;have no:=no2 (fun h=>h.elim (fun h=>h J) (fun h=>h J));have hF1:=hF1 J;have hF2:=hF2 J;clear no1 no2
 refine Qj 5 J (Z5 (n:=3) J J J J (Nat.le_of_ble_eq_true J) (by with_reducible exact lFrac) J ?_);refine Qv (gT J) hF1 J ?_
 refine Qq 10 J (Z5 (n:=3) J J J J (Nat.le_of_ble_eq_true J) (by with_reducible exact lFrac) J ?_);refine Qv (gT J) hF2 J ?_
 refine QZ 12 J (by omega) ?_
 refine Qq 4 J ?_;refine Qy J (fun g3=> ?_) (fun g3=> ?_)
 · rw [if_pos g3] at no;subst no
   refine Qj 1 J ?_;refine Yx (by with_reducible exact mixed) [3,4,5] 0xa0a0a08006652264a0a0800665644263a0a0a08006656463420100 J (by kernel_rfl) (fun K hK=> ?_);refine Xw 2 J ?_
   repeat' (first
    |refine Qu
    |refine X7 (Xa J J J (Qz ?_))
    |refine Ql ?_ ?_
    |refine Xt ?_
    |refine Q0 ?_ ?_
    |refine Xb (n:=2) J J J J J (by with_reducible exact lIv) J (Qz ?_)
    |refine Zu 7 J J J J J (by with_reducible exact szOut) J J (Qz ?_)
    |refine Zu 2 J J J J J (by with_reducible exact szIv) J J (Qz ?_)
    |(refine Qb (hK _ _ ?_)
      refine Xs 2 J ?_
      repeat refine Zl ?_
      refine X5 [_,_,_,_] rfl (Xv (w_agg (by exact oc_w)) (Qi (n:=7) J J (by with_reducible exact lOut) J (Xv (w_agg (by exact oc_w)) (Qi (n:=7) J J (by with_reducible exact lOut) J (Qi (n:=2) J J (by with_reducible exact lIv) J (Q4 J Q3)))))) J J))
 rw [if_neg g3] at no;subst no
 refine Qj 3 J ?_;refine Yx (by with_reducible exact mixed) [6,7,8] 0xa0a0a0800968672166a0a0a08009686766412005040302 J (by kernel_rfl) (fun K hK=> ?_)
 repeat' (first
  |refine Qu
  |refine X7 ?_
  |refine Ql ?_ ?_
  |refine Xt ?_
  |refine Q0 ?_ ?_
  |refine Qz ?_
  |refine Qg J J J ?_
  |refine Xa J J J ?_
  |refine Ops.ineg J J (by omega) (by omega) J ?_
  |refine Yf J (by with_reducible exact bIv) J (.one J J J J (.one J J J J .nil)) J ?_
  |refine Xb (n:=7) J J J J J (by with_reducible exact lOut) J ?_
  |refine Zu 7 J J J J J (by with_reducible exact szOut) J J ?_
  |refine Zu 2 J J J J J (by with_reducible exact szIv) J J ?_
  |(refine Qb (hK _ _ ?_)
    refine Xs 2 J ?_
    repeat refine Zl ?_
    refine Qw J J))
theorem bounds_fine(n k:Nat)(hk:k<n)(hn:n<=16)(rs:List Rw)(O1 O2:Oc)(hS1:Ok prog 47 [intC n,rowsC rs,intsC (unL n k (-1))] (.tup [ocC O1,intC 0]))(hS2:Ok prog 47 [intC n,rowsC rs,intsC (unL n k 1)] (.tup [ocC O2,intC 0]))
  (z1:OcF O1) (z2:OcF O2) (hle: -flV O1.value<=flV O2.value):
  Ok prog 22 [rowsC rs,intC n,intC k] (.tup [ocC O1,ocC O2,ivC (-flV O1.value,flV O2.value),intC 0]):=by
 have h:=bounds_ok n k hk hn rs O1 O2 hS1 hS2 (fun _=>z1) (fun _=>z2)
 have e:bdF O1 O2=(O1,O2,(-flV O1.value,flV O2.value),0):=by
  unfold bdF;rw [if_neg (fun h=>h.elim (fun h=>h z1.kind) (fun h=>h z2.kind)),if_neg (by omega)]
 rwa [e] at h
theorem ends_fine(l:List Rs)(hl:l.length<=10000)(mo qu:Int)(w:Wr)(h0:(rwO l mo qu).2.2=0)(hw:w∈(vrO l).1)(hu:Up cmpW (vrO l).1)(hvl:(vrO l).1.length<=16){O1 O2:Oc}{p:Int × Int}{er:Int}(hB:Ok prog 22 [rowsC (rwO l mo qu).1,intC (vrO l).1.length,intC (posD (vrO l).1 w)] (.tup [ocC O1,ocC O2,ivC p,intC er])):
  Ok prog 26 [rssC l,tiC mo qu,wrC w] (.tup [ocC O1,ocC O2,ivC p,intC er]):=by
 have hR:=DRows_ok l hl mo qu;have hV:=JJ l hl;have hS:=BSearch_ok (vrO l).1 w hu (by omega);rw [decide_eq_true hw] at hS;rw [h0] at hR;generalize (rwO l mo qu).1=rs at hR hB;generalize (rwO l mo qu).2.1=is at hR;generalize (vrO l).2=ve at hV;generalize posD (vrO l).1 w=k at hS hB;generalize (vrO l).1=vs at hV hS hB;obtain ⟨q1,⟨g1,m1,d1⟩,o1,y1,u1⟩:=O1;obtain ⟨q2,⟨g2,m2,d2⟩,o2,y2,u2⟩:=O2
 refine Ok.enter func26 J _ ntmps26 J ?_
 intro S w0;refine Qj 14 J (Qv (gT J) hR J (Qq 22 J (Qv (gT J) hV J (Qq 11 J (Qv (gT J) hS J (Qq 21 J (QV sWrs.und J (Qq 1 J (Qv (gT J) hB J (Qq 11 J ?_))))))))));refine Qw J J
theorem Interval_fine(l:List Rs)(mo qu:Int)(w:Wr){O1 O2:Oc}{p:Int × Int}{er:Int}(hE:Ok prog 26 [rssC l,tiC mo qu,wrC w] (.tup [ocC O1,ocC O2,ivC p,intC er])):
  Ok prog 15 [rssC l,tiC mo qu,wrC w] (.tup [ivC p,intC er]):=by
 obtain ⟨q1,⟨g1,m1,d1⟩,o1,y1,u1⟩:=O1;obtain ⟨q2,⟨g2,m2,d2⟩,o2,y2,u2⟩:=O2
 refine Ok.enter func15 J _ ntmps15 J ?_
 intro S w0;refine Qj 13 J (Qv (gT J) hE J (Qq 23 J ?_));refine Qw J J
abbrev Dl := Wr × (Int × Int)
def dl0 : Dl := ((0, 0), (0, 0))
abbrev dlCs (d : Dl) : List CT := [adrF d.1.1, adrF d.1.2, intC d.2.1, intC d.2.2]
theorem dl_len(x:Dl):(dlCs x).length=4:=rfl
abbrev dlsC (l : List Dl) : CT := .fr (sliceT 4 (l.map dlCs))
def dls (l : List Dl) : List CT := (l.map dlCs).flatten
theorem dls_frozen(e:Nat)(l:List Dl):(Ent.row e 4 (dls l)).frozen (.fr (sliceT 4 (l.map dlCs))):=
 ⟨_,rfl,fun e he=>by obtain ⟨m,_,rfl⟩:=List.mem_map.mp he;rfl,by decide,rfl⟩
theorem dls_len(l:List Dl):(dls l).length=l.length*4:=el_len dl_len l
theorem dls_snoc(l:List Dl)(r:Dl):dls (l++ [r])=dls l++dlCs r:=by simp [dls]
theorem sDls:SlcT prog 31 46 4 24 (.agg #[.int .u32 0, .int .u32 0, .int .i64 0, .int .i64 0]):=SlcT.of underlying31 (by kernel_rfl) rfl (by decide)
def alD (l : List Rs) (mo qu : Int) (bo : Nat → Oc × Oc × (Int × Int) × Int) : List Dl × Int :=
  if (rwO l mo qu).2.2 ≠ 0 then ([], (rwO l mo qu).2.2)
  else if ∀ k, k < (vrO l).1.length → (bo k).2.2.2 = 0 then ((List.range (vrO l).1.length).map fun k => ((vrO l).1.getD k wr0, (bo k).2.2.1), 0) else ([], 33)
theorem DAll_ok(l:List Rs)(hl:l.length<=10000)(mo qu:Int)(bo:Nat ->Oc × Oc × (Int × Int) × Int)(he:∀k,(bo k).2.2.2=0 \/(bo k).2.2.2=33)
  (hB:(rwO l mo qu).2.2=0 ->∀k:Nat,k<(vrO l).1.length ->Ok prog 22 [rowsC (rwO l mo qu).1,intC (vrO l).1.length,intC k] (.tup [ocC (bo k).1,ocC (bo k).2.1,ivC (bo k).2.2.1,intC (bo k).2.2.2])):
  Ok prog 8 [rssC l,tiC mo qu] (.tup [dlsC (alD l mo qu bo).1,intC (alD l mo qu bo).2]):=by
 have hR:=DRows_ok l hl mo qu;have hV:=JJ l hl
 have hvl:(vrO l).1.length<=16:=by
  unfold vrO;split
  · exact Nat.zero_le _
  · split
    · exact Nat.zero_le _
    · dsimp only;omega
 have hal:alD l mo qu bo=if (rwO l mo qu).2.2≠0 then ([],(rwO l mo qu).2.2) else if ∀k,k<(vrO l).1.length ->(bo k).2.2.2=0 then ((List.range (vrO l).1.length).map fun k=>((vrO l).1.getD k wr0,(bo k).2.2.1),0) else ([],33):=rfl
 generalize alD l mo qu bo=R at hal ⊢;generalize (rwO l mo qu).1=rs at hR hB;generalize (rwO l mo qu).2.1=is at hR;generalize (rwO l mo qu).2.2=re at*;generalize (vrO l).2=ve at hV;generalize (vrO l).1=vs at*
 refine Ok.enter func8 J _ ntmps8 J ?_
 intro S w0;refine Qj 11 J (Qv (gT J) hR J (Qq 16 J ?_));refine Qy J (fun g=> ?_) (fun g=> ?_)
 · rw [if_pos g] at hal;refine Qj 8 J ?_;refine X5 [_,_] rfl (Xv Zp (Q4 J (Q4 J Q3))) (by rw [hal];rfl) J
 obtain rfl:re=0:=Classical.not_not.1 g;rw [if_neg g] at hal;have hB:=hB J;refine Qj 5 J (Qv (gT J) hV J (Qq 16 J (QV sWrs.und J (Qq 4 J (Xo 11 1 46 4 J J J ?_)))))
 refine QY (α:=Nat) (fun i=>i<=vs.length/\ ∀k,k<i ->(bo k).2.2.2=0)
  (fun i=>[(6, .ct (rowsC rs)),(9, .ct (wrsC vs)),(11, .own 1),(33, .ct (wrsC vs)),(34, .ct (intC vs.length)),(35, .ct (intC i))])
  (fun i=>[(1, .row 46 4 (dls ((List.range i).map fun k=>(vs.getD k wr0,(bo k).2.2.1)))),(0, .box 29 (tiCs mo qu))]) (fun i=>vs.length - i) 0 ⟨Nat.zero_le _,fun k hk=>absurd hk (Nat.not_lt_zero k)⟩ (by exact Qx J) ?_
 rintro i ⟨hi,hz⟩
 try dsimp only at hi hz ⊢
 refine Qj 6 J ?_;refine Qy J (fun h=> ?_) (fun h=> ?_);rotate_left
 · obtain rfl:i=vs.length:=by omega
   rw [if_pos hz] at hal;refine X6 1 _ J (dls_frozen _ _) noBor_sub (Qj 10 J ?_);refine Qw J (by rw [hal];rfl)
 have e2:(i:Int).toNat=i:=Int.toNat_natCast i
 have hs:(List.range (i+1)).map (fun k=>(vs.getD k wr0,(bo k).2.2.1))=(List.range i).map (fun k=>(vs.getD k wr0,(bo k).2.2.1))++ [(vs.getD i wr0,(bo i).2.2.1)]:=by rw [List.range_succ,List.map_append];rfl
 have hll:((List.range i).map (fun k=>(vs.getD k wr0,(bo k).2.2.1))).length<=16:=by rw [List.length_map,List.length_range];omega
 have hB:=hB i (by omega)
 have hn:(bo i).2.2.2≠0 ->R=([],33):=fun g=>hal.trans (if_neg fun h' =>g (h' i (by omega)))
 have he:=he i
 have hz' :(bo i).2.2.2=0 ->∀k,k<i+1 ->(bo k).2.2.2=0:=fun g k hk=>by
  rcases Nat.lt_or_eq_of_le (Nat.le_of_lt_succ hk) with h' |rfl
  · exact hz k h'
  · exact g
 generalize (List.range i).map (fun k=>(vs.getD k wr0,(bo k).2.2.1))=dl at hs hll ⊢;generalize (bo i).1=O1 at hB;generalize (bo i).2.1=O2 at hB;generalize (bo i).2.2.1=p at hB hs;generalize (bo i).2.2.2=er at hB hn he hz';obtain ⟨q1,⟨g1,m1,d1⟩,o1,y1,u1⟩:=O1;obtain ⟨q2,⟨g2,m2,d2⟩,o2,y2,u2⟩:=O2;refine Qj 7 J (Q8 wr0 sWrs J (by omega) ?_);rw [e2];generalize vs.getD i wr0=x at hs;refine Qq 10 J (QV sWrs.und J (Qq 1 J (Qv (gT J) hB J (Qq 21 J ?_))));refine Qy J (fun g2=> ?_) (fun g2=> ?_)
 · have e:=hn g2;obtain rfl:er=33:=he.resolve_left g2;refine Qj 8 J ?_;refine X5 [_,_] rfl (Xv Zp (Q4 J (Q4 J Q3))) (by rw [e];rfl) J
 have hz' :=hz' (Classical.not_not.1 g2);refine Qj 7 J (Zv (n:=4) J J sDls J J (by decide) J ?_);refine QJ dl.length (dls (dl++ [(x,p)])) J J J J sDls (dls_len dl) J (by omega) (by omega) (dls_snoc dl (x,p)) J ?_;refine QZ 8 J (by omega) ?_;refine Qc 5 (Qc 4 (Qc 3 (Qc 2 (Qk (i+1) (by omega) ⟨by omega,hz'⟩ (by rw [hs];exact Qx J)))))
end Go.Proofs.YtfimckpnnbibcaaGreat
namespace Go.Own
theorem Fin.kp2{X:Ctx}{L L' :AL}{B:BL}{K:Act ->World ->Prop}(h:Fin X L' B K)(hs:subL L L'):Fin X L B K:=Yo L' hs h
end Go.Own
namespace Go.Proofs.YtfimckpnnbibcaaGreat
open Go.Own Go.Limbs Go.Proofs.Tryz
attribute [local irreducible] St Ops Go.Own.Fin Ok
theorem redF_z(S:Bool)(N D:Nat)(hD:0<D):(redF S N D).neg=decide (sg S N<0)/\ ((redF S N D).num=0↔sg S N=0):=by
 have hz:N/Nat.gcd N D=0↔N=0:=by
  have hg:0<Nat.gcd N D:=Nat.gcd_pos_of_pos_right _ hD;constructor
  · intro h;have h1:=Nat.div_mul_cancel (Nat.gcd_dvd_left N D);rw [h,Nat.zero_mul] at h1;exact h1.symm
  · intro h;rw [h];exact Nat.zero_div _
 have e1:sg S N=0↔N=0:=by unfold sg;cases S <;>simp
 refine ⟨?_,?_⟩
 · show (S&&decide (N/Nat.gcd N D≠0))=_;by_cases h:N=0
   · rw [decide_eq_false (fun h2=>h2 (hz.2 h)),Bool.and_false,decide_eq_false (by have:=e1.2 h;omega)]
   · have h2:N/Nat.gcd N D≠0:=fun h2=>h (hz.1 h2)
     rw [decide_eq_true h2,Bool.and_true];unfold sg
     cases S with
     |true=>rw [if_pos J,decide_eq_true (by omega)]
     |false=>rw [if_neg (by decide),decide_eq_false (by omega)]
 · show N/Nat.gcd N D=0↔_;rw [hz,e1]
theorem rFOrder_q(p q:Rat)(l1:(limbs (ofQ p).num).length<=1000)(l2:(limbs (ofQ p).den).length<=1000)(l3:(limbs (ofQ q).num).length<=1000)(l4:(limbs (ofQ q).den).length<=1000):Ok prog 75 [ratC p,ratC q] (intC (cmpQ p q)):=by
 have h1:=rOpposite_ok (ofQ q);have h2:=rsum_ok (ofQ p) (oppF (ofQ q)) l1 l2 l3 l4 (Zj p) (Zj q)
 have hz:sg (sumS (ofQ p).neg ((ofQ p).num*(oppF (ofQ q)).den) (oppF (ofQ q)).neg ((oppF (ofQ q)).num*(ofQ p).den)) (sumN (ofQ p).neg ((ofQ p).num*(oppF (ofQ q)).den) (oppF (ofQ q)).neg ((oppF (ofQ q)).num*(ofQ p).den))=p.num*q.den - q.num*p.den:=by
  rw [sum_sg,sg_mul,sg_mul,ofQ_sg]
  have e:sg (oppF (ofQ q)).neg (oppF (ofQ q)).num= -q.num:=by
   rw [oppF_q,ofQ_sg];exact Rat.neg_num q
  rw [e,Int.neg_mul];rfl
 have hr:=redF_z (sumS (ofQ p).neg ((ofQ p).num*(oppF (ofQ q)).den) (oppF (ofQ q)).neg ((oppF (ofQ q)).num*(ofQ p).den)) (sumN (ofQ p).neg ((ofQ p).num*(oppF (ofQ q)).den) (oppF (ofQ q)).neg ((oppF (ofQ q)).num*(ofQ p).den)) ((ofQ p).den*(oppF (ofQ q)).den) (Nat.mul_pos (Zj p) (Zj q));rw [hz] at hr;have hc:cmpQ p q=(p.num*q.den - q.num*p.den).sign:=rfl;generalize redF (sumS (ofQ p).neg ((ofQ p).num*(oppF (ofQ q)).den) (oppF (ofQ q)).neg ((oppF (ofQ q)).num*(ofQ p).den)) (sumN (ofQ p).neg ((ofQ p).num*(oppF (ofQ q)).den) (oppF (ofQ q)).neg ((oppF (ofQ q)).num*(ofQ p).den)) ((ofQ p).den*(oppF (ofQ q)).den)=d at*;generalize p.num*q.den - q.num*p.den=z at*;generalize oppF (ofQ q)=oq at*;have hlen:=limbs_len_pos (n:=d.num)
 have res1:d.neg=true ->cmpQ p q= -1:=fun h=>by
  rw [hr.1] at h;rw [hc];exact Int.sign_eq_neg_one_of_neg (of_decide_eq_true h)
 have res2:d.neg=false ->cmpQ p q=min ((limbs d.num).length:Int) 1:=fun h=>by
  rw [hr.1] at h;have h3:=of_decide_eq_false h;rw [hc];by_cases h4:z=0
  · rw [h4];have:=hr.2.2 h4
    have h5:(limbs d.num).length=0:=by omega
    rw [h5];rfl
  · rw [Int.sign_eq_one_of_pos (by omega)]
    have:d.num≠0:=fun h5=>h4 (hr.2.1 h5)
    omega
 clear hr hz hc
 refine Ok.enter func75 J _ ntmps75 J ?_
 intro S w;refine Qj 8 J ?_;refine YU mixed 5 0x8065434280654380654404c304c22120 J (by kernel_rfl) (fun K hK=> ?_);refine (fun (cont:Go.Own.Fin _ [(5, .own 2)] [(2, .box 54 (frCs d)),(1, .box 54 (frCs (ofQ q))),(0, .box 54 (frCs (ofQ p)))] K)=> ?_) (hK _ _ ?_);rotate_left
 · clear hK K;refine Xs 8 J ?_;refine Xx J (fun g=> ?_) (fun g=> ?_)
   · refine Qj 6 J ?_;refine Qw J (by rw [res1 g];rfl)
   · refine Qj 6 J (QV sNat.und J (Ops.min2 J J J J (Qq 4 J ?_)));refine Qw J (by rw [res2 g];rfl)
 clear hK;refine Q2 2 J (Zm ?_ ?_)
 · refine Qv (gT J) h1 J (Zm ?_ ?_)
   · refine Qv (gT J) h2 J (Q2 2 J ?_);exact Qz (Fin.kp2 cont ⟨rfl,trivial⟩)
   · refine Q2 1 J (Qv (gT J) h2 J (Q2 1 J ?_));exact Qz (Fin.kp2 cont ⟨rfl,trivial⟩)
 · refine Q2 1 J (Qv (gT J) h1 J (Qv (gT J) h2 J (Q2 1 J ?_)));exact Qz (Fin.kp2 cont ⟨rfl,trivial⟩)
theorem rFCompare_q(p q:Rat)(l1:(limbs (ofQ p).num).length<=1000)(l2:(limbs (ofQ p).den).length<=1000)(l3:(limbs (ofQ q).num).length<=1000)(l4:(limbs (ofQ q).den).length<=1000):Ok prog 35 [ratC p,ratC q] (.tup [intC (cmpQ p q),intC 0]):=by
 refine Ok.enter func35 J _ ntmps35 J ?_
 intro S w;refine Qj 12 J (Qv (gT J) (rFOrder_q p q l1 l2 l3 l4) J (Qq 5 J ?_));refine Qw J J
end Go.Proofs.YtfimckpnnbibcaaGreat
namespace Go.Proofs.YtfimckpnnbibcaaGreat
open Go.Limbs Go.Own Go.Proofs.Tryz
attribute [local irreducible] Go.Own.Fin Ok OkM Ops St
theorem FAdd_fine(f h:Fr)(h1:(limbs f.num).length+(limbs h.den).length<=63)(h3:(limbs h.num).length+(limbs f.den).length<=63)(hs2:(limbs f.den).length+(limbs h.den).length<=64)(d1:0<f.den)(d2:0<h.den):
  Ok prog 214 [fracC f,fracC h] (.tup [ratC (qv f+qv h),intC 0]):=by
 have hp:=Nat.mul_pos d1 d2;have l1:(limbs (f.num*h.den)).length<=63:=Nat.le_trans XZ h1;have l2:(limbs (h.num*f.den)).length<=63:=Nat.le_trans XZ h3;have l3:=sumN_len (n1:=f.neg) (n2:=h.neg) l1 l2;have l8:=XZ (a:=f.den) (b:=h.den);have l4:=redF_den (sumS f.neg (f.num*h.den) h.neg (h.num*f.den)) (sumN f.neg (f.num*h.den) h.neg (h.num*f.den)) _ hp;have l5:=redF_neg (sumS f.neg (f.num*h.den) h.neg (h.num*f.den)) (sumN f.neg (f.num*h.den) h.neg (h.num*f.den)) (f.den*h.den);have l6:(limbs (redF (sumS f.neg (f.num*h.den) h.neg (h.num*f.den)) (sumN f.neg (f.num*h.den) h.neg (h.num*f.den)) (f.den*h.den)).num).length<=64:=div_len l3;have l7:=Qm l4.2;have hr:=reduced_ok (sumS f.neg (f.num*h.den) h.neg (h.num*f.den)) (sumN f.neg (f.num*h.den) h.neg (h.num*f.den)) _ hp (by omega) (by omega);show Ok prog 214 [fracC f,fracC h] (.tup [fracC (ofQ (qv f+qv h)),intC 0]);rw [<- redF_add f h d1 d2]
 refine Ok.enter func214 J _ ntmps214 J ?_
 intro S w;generalize redF (sumS f.neg (f.num*h.den) h.neg (h.num*f.den)) (sumN f.neg (f.num*h.den) h.neg (h.num*f.den)) (f.den*h.den)=rr at*;refine Qj 9 J (XY 20 0x80131211100f4e4d462c2a282523210b0907040200 J ?_);refine Qq 12 J (Qv (gT J) (product_ok f.num h.den (by omega)) J ?_);refine Qv (gT J) (product_ok h.num f.den (by omega)) J ?_;refine Qv (gT J) (sum_ok _ _ _ _ (by omega) (by omega)) J ?_;refine Qq 15 J (Qv (gT J) (product_ok f.den h.den (by omega)) J ?_);refine Qv (gT J) hr J (Qv (gT J) (checked_ok rr (by omega) (by omega) l4.1 l5) J ?_);refine Qq 7 J ?_;refine Qw J J
structure VFit (c : List Int) (xs : List Fr) : Prop where
  cl : c.length ≤ 1000
  xl : xs.length ≤ 1000
  cb : ∀ i, -9223372036854775808 ≤ c.getD i 0 ∧ c.getD i 0 ≤ 9223372036854775807
  den : ∀ k, k < min c.length xs.length → 0 < (xs.getD k fr0).den
  mn : ∀ k, k < min c.length xs.length → (limbs (ofQ (c.getD k 0 : Rat)).num).length + (limbs (xs.getD k fr0).num).length ≤ 64
  md : ∀ k, k < min c.length xs.length → 1 + (limbs (xs.getD k fr0).den).length ≤ 64
  a1 : ∀ k, k < min c.length xs.length → (limbs (ofQ (psum c xs k)).num).length + (limbs (ofQ ((c.getD k 0 : Rat) * qv (xs.getD k fr0))).den).length ≤ 63
  a2 : ∀ k, k < min c.length xs.length → (limbs (ofQ ((c.getD k 0 : Rat) * qv (xs.getD k fr0))).num).length + (limbs (ofQ (psum c xs k)).den).length ≤ 63
  a3 : ∀ k, k < min c.length xs.length → (limbs (ofQ (psum c xs k)).den).length + (limbs (ofQ ((c.getD k 0 : Rat) * qv (xs.getD k fr0))).den).length ≤ 64
theorem Value_gen(c:List Int)(xs:List Fr)(H:VFit c xs):Ok prog 164 [intsC c,fracsC xs] (.tup [ratC (vsum c xs),intC 0]):=by
 have hcl:=H.cl;have hxl:=H.xl
 refine Ok.enter func164 J _ ntmps164 J ?_
 intro S w;refine Qj 8 J (Qv (gT J) (From_int 0 (by decide) (by decide)) J ?_);refine Qq 12 J (QV sInts.und J (Qq 1 J (QV sFracs.und J (Ops.min2 J J J J (Qq 4 J ?_)))))
 refine QY (α:=Nat) (fun i=>i<=min c.length xs.length)
  (fun i=>[(0, .ct (intsC c)),(1, .ct (fracsC xs)),(4, .own 0),(6, .own 1),(19, .ct (intC (min (c.length:Int) xs.length))),(20, .ct (intC i))])
  (fun i=>[(1, .box 54 (frCs (ofQ (psum c xs i)))),(0, .box 54 [.ex (.bool false), .ex (.slice none 0 0), .ex (.slice none 0 0)])]) (fun i=>min c.length xs.length - i) 0 (Nat.zero_le _) (by exact Qx J) ?_
 intro i hi
 (try dsimp only at hi ⊢)
 have es:psum c xs (i+1)=psum c xs i+(c.getD i 0:Rat)*qv (xs.getD i fr0):=rfl;refine Qj 6 J ?_;refine Qy J (fun h=> ?_) (fun h=> ?_)
 · have e2:(i:Int).toNat=i:=Int.toNat_natCast i
   have hi2:i<min c.length xs.length:=by omega
   have hcb:=H.cb i;have hM:=FMul_gen (ofQ (c.getD i 0:Rat)) (xs.getD i fr0) (H.mn i hi2) (by rw [ofQ_int_den];have:=H.md i hi2;have e:(limbs 1).length<=1:=Q6 (by decide);omega) (Zj _) (H.den i hi2);rw [Ym] at hM;have hA:=FAdd_fine (ofQ (psum c xs i)) (ofQ ((c.getD i 0:Rat)*qv (xs.getD i fr0))) (H.a1 i hi2) (H.a2 i hi2) (H.a3 i hi2) (Zj _) (Zj _);rw [Ym,Ym,<- es] at hA;refine Qj 14 J (Q8 0 sInts J (by omega) ?_);refine Qq 1 J ?_
   rw [e2]
   refine Qv (gT J) (From_int (c.getD i 0) (by omega) (by omega)) J ?_;refine Qq 16 J (XY 9 0x800a69080706452420030201 J ?_);refine Qq 2 J (Q8 fr0 sFracs J (by omega) ?_);refine Qq 2 J ?_;rw [e2];refine Qv (gT J) hM J (Qq 18 J (Qv (gT J) hA J (QZ 21 J (by omega) ?_)));refine Qc 2 (Qk (i+1) (by omega) (by omega) (by exact Qx J))
 · have hi' :i=min c.length xs.length:=by omega
   refine Qj 10 J ?_;refine Qw J (by unfold vsum;rw [hi'];rfl)
structure Mul (n : Nat) (rs : List Rw) (ys : List Fr) : Prop where
  len : ys.length = rs.length
  vf : ∀ f ∈ ys, VF f
  nn : ∀ f ∈ ys, f.neg = false
  c : ∀ j, j < n → VFit (rs.map fun r => r.cs.getD j 0) ys ∧ SzQ (colQ rs ys j)
  b : VFit (rs.map fun r => r.b) ys ∧ SzQ (bsQ rs ys)
theorem multipliers_gen{n:Nat}(rs:List Rw)(ys:List Fr)(h:Mul n rs ys)(h64:rs.length<=64):Ok prog 105 [rowsC rs,fracsC ys] (boolC true):=by
 have hl:=h.len;have hC:=ContainsFunc_fracs ys _ (fun f=>f.neg) gomultipliers1 (fun f hf=>multipliers1_V f (h.vf f hf)) (by omega);rw [show ys.any (fun f=>f.neg)=false from List.any_eq_false.2 fun f hf=>by rw [h.nn f hf];decide] at hC
 refine Ok.enter func105 J _ ntmps105 J ?_
 intro S w;refine Qj 8 J (QV sFracs.und J (Qq 1 J (QV sRows.und J (Qq 2 J ?_))));rw [decide_eq_true (show (ys.length:Int)=rs.length by omega)];refine Qq 1 J (Qv (gT J) hC J (Qq 6 J ?_));refine Qw J J
theorem fold_gen(rs:List Rw)(ys:List Fr)(f:FuncId)(caps:List CT)(num:Rw ->Int)(hgo:InGo prog f)(hf:∀r∈rs,Ok prog f ([rowC r]++caps) (intC (num r)))(hl:rs.length<=64)(hV:VFit (rs.map num) ys):
  Ok prog 106 [rowsC rs,fracsC ys, .fr (closT f caps)] (.tup [ratC (vsum (rs.map num) ys),intC 0]):=by
 refine Ok.enter func106 J _ ntmps106 J ?_
 intro S w;refine Qj 15 J (QV sRows.und J (Qq 4 J (Xo 8 1 3 1 J J J ?_)))
 refine QY (α:=Nat) (fun i=>i<=rs.length)
  (fun i=>[(1, .ct (fracsC ys)),(2, .ct (.fr (closT f caps))),(6, .own 0),(8, .own 1),(11, .ct (rowsC rs)),(12, .ct (intC rs.length)),(13, .ct (intC i))])
  (fun i=>[(1, .row 3 1 (ints ((rs.take i).map num))),(0, .box 54 [.ex (.bool false), .ex (.slice none 0 0), .ex (.slice none 0 0)])]) (fun i=>rs.length - i) 0 (Nat.zero_le _) (by exact Qx J) ?_
 intro i hi;dsimp only at hi ⊢;refine Qj 6 J ?_;refine Qy J (fun h=> ?_) (fun h=> ?_)
 · have e2:(i:Int).toNat=i:=Int.toNat_natCast i
   have hlt:i<rs.length:=by omega
   refine Qj 6 J (Q8 rw0 sRows J (by omega) ?_);refine Qq 9 J ?_;rw [e2];refine Ops.callC hgo J (hf (rs.getD i rw0) (XX hlt)) J J J J (Qo J J sInts J J J (QJ i (ints ((rs.take (i+1)).map num)) J J J J sInts (by simp [ints];omega) J (by omega) (by omega) (by rw [take_map_succ num rw0 hlt];simp [ints]) J ?_));refine QZ 8 J (by omega) ?_;refine Qc 2 (Qk (i+1) (by omega) (by omega) (by exact Qx J))
 · have hi' :i=rs.length:=by omega
   have e:(rs.take i).map num=rs.map num:=by rw [hi',List.take_length]
   rw [e];refine X6 1 _ J (X2 _ _) noBor_sub (Qj 6 J (Qv (gT J) (Value_gen (rs.map num) ys hV) J (Qq 7 J ?_)));refine Qw J J
theorem Combine_gen(n:Nat)(rs:List Rw)(ys:List Fr)(hv:validR n rs=true)(H:Mul n rs ys):
  Ok prog 57 [intC n,rowsC rs,fracsC ys] (.tup [ratsC (colsQ rs ys n),ratC (bsQ rs ys),intC 0]):=by
 obtain ⟨v1,v2,v3,v4⟩:=Jw hv;have hV:=LValid_ok n rs (by omega) (fun r hr=>by have:=(v4 r hr).1;omega);rw [hv] at hV;have hM:=multipliers_gen rs ys H v3
 have hF:∀j:Nat,j<n ->Ok prog 106 [rowsC rs,fracsC ys, .fr (closT 107 [.ptr [intC j]])] (.tup [ratC (colQ rs ys j),intC 0]):=fun j hj=>
  fold_gen rs ys _ _ (fun r=>r.cs.getD j 0) goCombine1 (fun r _=>Combine1_ok j r) v3 (H.c j hj).1
 have hB:Ok prog 106 [rowsC rs,fracsC ys, .ex (.func (.func 108) #[] #[])] (.tup [ratC (bsQ rs ys),intC 0]):=
  (fold_gen rs ys _ [] (fun r=>r.b) goCombine2 (fun r _=>Combine2_ok r) v3 H.b.1).weak ⟨Zx,Zx,w_fun,trivial⟩
 refine Ok.enter func57 J _ ntmps57 J ?_
 intro S w;refine Qj 12 J (Qv (gT J) hV J (Qq 11 J (Qv (gT J) hM J (Qq 19 J (Xo 9 1 54 3 J J J ?_)))))
 refine QY (α:=Nat) (fun i=>i<=n)
  (fun i=>[(1, .ct (rowsC rs)),(2, .ct (fracsC ys)),(7, .own 0),(9, .own 1),(25, .ct (intC n)),(26, .ct (intC i))])
  (fun i=>[(1, .row 54 3 (rts (colsQ rs ys i))),(0, .box 54 [.ex (.bool false), .ex (.slice none 0 0), .ex (.slice none 0 0)])]) (fun i=>n - i) 0 (Nat.zero_le _) (by exact Qx J) ?_
 intro i hi;dsimp only at hi ⊢;refine Qj 6 J ?_;refine Qy J (fun h=> ?_) (fun h=> ?_)
 · refine Qj 15 J (Zw 2 _ J J noBor_sub (Ops.makeFunc J J J (Qv (gT J) (hF i (by omega)) J ?_)));refine Qq 21 J (Zv (n:=3) J J sFracs J J (by decide) J ?_);refine QJ i (rts (colsQ rs ys (i+1))) J J J J sFracs (by rw [rts_len];simp [colsQ]) J (by omega) (by omega) (by unfold colsQ;rw [List.range_succ,List.map_append];exact rts_snoc _ _) J ?_;refine QZ 8 J (by omega) ?_;refine Qc 2 (Qk (i+1) (by omega) (by omega) (by exact Qx J))
 · have hi' :i=n:=by omega
   subst hi';refine X6 1 _ J (rts_frozen _ _) noBor_sub (Qj 6 J (Qv (gT J) hB J (Qq 19 J (XY 3 0x800463210200 J ?_))));refine Qq 8 J ?_;refine Qw J J
theorem Mul.cols{n:Nat}{rs:List Rw}{ys:List Fr}(H:Mul n rs ys):∀q∈colsQ rs ys n,SzQ q:=fun q hq=>by
 obtain ⟨j,hj,rfl⟩:=List.mem_map.1 hq
 exact (H.c j (List.mem_range.1 hj)).2
section
variable {n : Nat} {rs : List Rw} {ys : List Fr} {c : List Int}
theorem Bounds_ex(hv:validR n rs=true)(H:Mul n rs ys)(hlc:c.length<=64)(hc:∀y∈c,y.natAbs<=4503599627370496)(hcv:covQ (colsQ rs ys n) c=true):
  Ok prog 58 [intC n,rowsC rs,intsC c,fracsC ys,ratC (bsQ rs ys)] (boolC true):=by
 have h1:=Combine_gen n rs ys hv H;have hb:=H.b.2;have h2:=covers_q (colsQ rs ys n) c (by rw [colsQ_len];have:=(Jw hv).2.1;omega) hlc H.cols hc;have h3:=less_q (bsQ rs ys) (bsQ rs ys) hb hb;rw [cmpQ_self,decide_eq_false (Int.lt_irrefl _)] at h3;rw [hcv] at h2
 refine Ok.enter func58 J _ ntmps58 J ?_
 intro S w;refine Qj 11 J (Qv (gT J) h1 J (Qq 16 J (Qv (gT J) (FValid_V _ hb.vf) J (Qq 4 J (Qv (gT J) h2 J (Qq 4 J (Qv (gT J) h3 J (Qq 6 J ?_))))))));refine Qw J J
theorem Ceiling_ex(hv:validR n rs=true)(H:Mul n rs ys)(hlc:c.length<=64)(hc:∀y∈c,y.natAbs<=4503599627370496)(hcv:covQ (colsQ rs ys n) c=true)(hfl:flE (ofQ (bsQ rs ys))=0):
  Ok prog 29 [intC n,rowsC rs,intsC c,fracsC ys] (.tup [intC (flV (ofQ (bsQ rs ys))),boolC true]):=by
 have hb:=H.b.2;have h1:=Combine_gen n rs ys hv H;have h2:=Bounds_ex hv H hlc hc hcv;have h3:=FFloor_any (ofQ (bsQ rs ys)) (by have:=hb.n;omega) (Zj _) (by have:=hb.d;omega);rw [hfl] at h3
 refine Ok.enter func29 J _ ntmps29 J ?_
 intro S w;refine Qj 11 J (Qv (gT J) h1 J (Qq 21 J (Qv (gT J) h2 J (Qq 10 J (Qv (gT J) h3 J (Qq 25 J ?_))))));refine Qw J J
end
theorem rNValid_ok(xs:List Int)(hl:xs.length<4611686018427387904):Ok prog 74 [intsC xs] (boolC (validL xs)):=by
 refine Ok.enter func74 J _ ntmps74 J ?_
 intro S w;refine Qj 12 J ?_
 refine QY (α:=Nat) (fun i=>i<=xs.length/\ (xs.take i).all (fun x=>decide (0<=x)&&decide (x<BB))=true)
  (fun i=>[(0, .ct (intsC xs)),(3, .ct (intC i))]) (fun _=>[]) (fun i=>xs.length - i) 0 ⟨Nat.zero_le _,rfl⟩ (by exact Qx J) ?_
 intro i ⟨hi,hv⟩;dsimp only;refine Qj 5 J (QV sNat.und J (Qq 3 J ?_));refine Qy J (fun h=> ?_) (fun h=> ?_)
 · have e2:(i:Int).toNat=i:=Int.toNat_natCast i
   have hlt:i<xs.length:=by omega
   have hbad:(decide (0<=xs.getD i 0)&&decide (xs.getD i 0<BB))=false ->validL xs=false:=fun hp=>by
    unfold validL;rw [all_false (p:=fun x=>decide (0<=x)&&decide (x<BB)) hlt hp];rfl
   refine Qj 8 J (Q8 0 sNat J (by omega) ?_);refine Qq 3 J ?_;rw [e2];refine QQ 15 J (fun h2=> ?_) (fun h2=> ?_)
   · refine Qq 15 J ?_;refine Qw J (by rw [hbad (bad2 (by unfold BB;omega))];rfl)
   · refine Qq 2 J (Q8 0 sNat J (by omega) ?_);refine Qq 5 J ?_;rw [e2];refine Qy J (fun h3=> ?_) (fun h3=> ?_)
     · refine Qj 6 J ?_;refine Qw J (by rw [hbad (bad2 (by unfold BB;omega))];rfl)
     · refine Xz 8 J (by omega) ?_;refine Qk (i+1) (by omega) ⟨by omega,?_⟩ (by exact Qx J);rw [all_take_succ hlt,hv];exact good2 (by omega) (by unfold BB;omega)
 · have hi' :i=xs.length:=by omega
   rw [hi',List.take_length] at hv
   have e:validL xs=(decide (xs.length<=256)&&(decide (xs.length=0)||decide (xs.getD (xs.length - 1) 0≠0))):=by unfold validL;rw [hv];simp
   clear h;refine Qj 5 J (QV sNat.und J (Qq 2 J (QQ 25 J (fun h2=> ?_) (fun h2=> ?_))))
   · refine Qq 1 J (QV sNat.und J (Qq 2 J (QQ 29 J (fun h3=> ?_) (fun h3=> ?_))))
     · refine Qq 13 J ?_;refine Qw J (by rw [e,show decide (xs.length<=256)=true by simp;omega,show decide (xs.length=0)=true by rw [decide_eq_true_eq];omega];rfl)
     · have e1:((xs.length:Int) - 1).toNat=xs.length - 1:=by omega
       refine Qq 2 J (QV sNat.und J (QZ 1 J (by omega) ?_));refine Q8 0 sNat J (by omega) ?_;refine Qq 8 J ?_;rw [e1];refine Qw J (by rw [e,show decide (xs.length<=256)=true by simp;omega,show decide (xs.length=0)=false by simp;intro h4;subst h4;simp at h3];rfl)
   · refine Qq 17 J ?_;refine Qw J (by rw [e,show decide (xs.length<=256)=false by simp;omega];rfl)
theorem rFValid_list(neg:Bool)(xs ys:List Int)(hx:xs.length<4611686018427387904)(hy:ys.length<4611686018427387904):Ok prog 34 [.agg [boolC neg,intsC xs,intsC ys]] (boolC (fvalidL neg xs ys)):=by
 refine Ok.enter func34 J _ ntmps34 J ?_
 intro S w;have e0:fvalidL neg xs ys=((validL xs&&decide (xs.length<=64))&&(validL ys&&decide (ys.length<=64))&&decide (0<ys.length)&& !(neg&&decide (xs.length=0))):=rfl;have h1:=rNValid_ok xs hx;have h2:=rNValid_ok ys hy;generalize validL xs=b1 at e0 h1;generalize validL ys=b2 at e0 h2;generalize fvalidL neg xs ys=r at*;refine Qj 10 J (Qv (gT J) h1 J (Qq 1 J (Xk 6 J (fun h=> ?_) (fun h=> ?_))))
 · refine Qq 2 J (Qv (gT J) h2 J (Qq 2 J (Xk 11 J (fun h3=> ?_) (fun h3=> ?_))))
   · refine Qq 2 J (QV sNat.und J (Qq 3 J (QQ 17 J (fun h4=> ?_) (fun h4=> ?_))))
     · have h4' :decide (xs.length<=64)=true:=decide_eq_true (by omega);refine Qq 2 J (QV sNat.und J (Qq 3 J (QQ 23 J (fun h5=> ?_) (fun h5=> ?_))))
       · have h5' :decide (ys.length<=64)=true:=decide_eq_true (by omega);refine Qq 2 J (QV sNat.und J (Qq 3 J (QQ 29 J (fun h6=> ?_) (fun h6=> ?_))))
         · have h6' :decide (0<ys.length)=true:=decide_eq_true (by omega);refine Qq 2 J (QV sNat.und J (Qq 2 J (QQ 34 J (fun h7=> ?_) (fun h7=> ?_))))
           · have h7' :decide (xs.length=0)=false:=decide_eq_false (by omega);refine Qq 9 J ?_;refine Qw J (by rw [e0,h,h3,h4',h5',h6',h7',Bool.and_false];rfl)
           · have h7' :decide (xs.length=0)=true:=decide_eq_true (by omega);refine Qq 9 J ?_;refine Qw J (by rw [e0,h,h3,h4',h5',h6',h7',Bool.and_true];simp;rfl)
         · have h6' :decide (0<ys.length)=false:=decide_eq_false (by omega);refine Qq 14 J ?_;refine Qw J (by rw [e0,h6'];simp;rfl)
       · have h5' :decide (ys.length<=64)=false:=decide_eq_false (by omega);refine Qq 20 J ?_;refine Qw J (by rw [e0,h5'];simp;rfl)
     · have h4' :decide (xs.length<=64)=false:=decide_eq_false (by omega);refine Qq 26 J ?_;refine Qw J (by rw [e0,h4'];simp;rfl)
   · refine Qq 32 J ?_;refine Qw J (by rw [e0,h3];simp;rfl)
 · refine Qq 37 J ?_;refine Qw J (by rw [e0,h];rfl)
theorem rFValid_V(f:Fr)(h:VF f):Ok prog 34 [fracC f] (boolC true):=by
 have:=rFValid_list f.neg (limbs f.num) (limbs f.den) (by have:=h.num;omega) (by have:=h.den;omega);rw [h.list] at this;exact this
theorem limited_ok(f:Fr)(h:VF f):Ok prog 115 [fracC f] (.tup [fracC f,intC 0]):=by
 refine Ok.enter func115 J _ ntmps115 J ?_
 intro S w;refine Qj 11 J (Qv (gT J) (rFValid_V f h) J (Qq 14 J ?_));refine Qw J J
theorem rFMul_gen(f h:Fr)(hs1:(limbs f.num).length+(limbs h.num).length<=64)(hs2:(limbs f.den).length+(limbs h.den).length<=64)(d1:0<f.den)(d2:0<h.den):
  Ok prog 114 [fracC f,fracC h] (.tup [ratC (qv f*qv h),intC 0]):=by
 have hp:=Nat.mul_pos d1 d2;have l3:=XZ (a:=f.num) (b:=h.num);have l8:=XZ (a:=f.den) (b:=h.den);have l4:=redF_den (f.neg !=h.neg) (f.num*h.num) _ hp;have l5:=redF_neg (f.neg !=h.neg) (f.num*h.num) (f.den*h.den);have l6:(limbs (redF (f.neg !=h.neg) (f.num*h.num) (f.den*h.den)).num).length<=64:=div_len (Nat.le_trans l3 hs1);have l7:=Qm l4.2;have hr:=rreduced_ok (f.neg !=h.neg) (f.num*h.num) _ hp (by omega) (by omega);show Ok prog 114 [fracC f,fracC h] (.tup [fracC (ofQ (qv f*qv h)),intC 0]);rw [<- redF_mul f h d1 d2];have hV:VF (redF (f.neg !=h.neg) (f.num*h.num) (f.den*h.den)):=⟨l6,by omega,l4.1,l5⟩
 refine Ok.enter func114 J _ ntmps114 J ?_
 intro S w;generalize redF (f.neg !=h.neg) (f.num*h.num) (f.den*h.den)=rr at*;refine Qj 9 J (XY 19 0x8014731211504f4e492d2b28260423210c0a07050200 J ?_);refine Qq 8 J (Ops.bne J J J uBool J ?_);rw [dne];refine Qq 4 J (Qv (gT J) (rTimes_ok f.num h.num (by omega)) J ?_);refine Qv (gT J) (rTimes_ok f.den h.den (by omega)) J ?_;refine Qv (gT J) hr J (Qv (gT J) (limited_ok rr hV) J (Qq 7 J ?_));refine Qw J J
theorem rFAdd_fine(f h:Fr)(h1:(limbs f.num).length+(limbs h.den).length<=63)(h3:(limbs h.num).length+(limbs f.den).length<=63)(hs2:(limbs f.den).length+(limbs h.den).length<=64)(d1:0<f.den)(d2:0<h.den):
  Ok prog 119 [fracC f,fracC h] (.tup [ratC (qv f+qv h),intC 0]):=by
 have hp:=Nat.mul_pos d1 d2;have l1:(limbs (f.num*h.den)).length<=63:=Nat.le_trans XZ h1;have l2:(limbs (h.num*f.den)).length<=63:=Nat.le_trans XZ h3;have l3:=sumN_len (n1:=f.neg) (n2:=h.neg) l1 l2;have l8:=XZ (a:=f.den) (b:=h.den);have l4:=redF_den (sumS f.neg (f.num*h.den) h.neg (h.num*f.den)) (sumN f.neg (f.num*h.den) h.neg (h.num*f.den)) _ hp;have l5:=redF_neg (sumS f.neg (f.num*h.den) h.neg (h.num*f.den)) (sumN f.neg (f.num*h.den) h.neg (h.num*f.den)) (f.den*h.den);have l6:(limbs (redF (sumS f.neg (f.num*h.den) h.neg (h.num*f.den)) (sumN f.neg (f.num*h.den) h.neg (h.num*f.den)) (f.den*h.den)).num).length<=64:=div_len l3;have l7:=Qm l4.2;have hs:=rsum_ok f h (by omega) (by omega) (by omega) (by omega) d1 d2;show Ok prog 119 [fracC f,fracC h] (.tup [fracC (ofQ (qv f+qv h)),intC 0]);rw [<- redF_add f h d1 d2];have hV:VF (redF (sumS f.neg (f.num*h.den) h.neg (h.num*f.den)) (sumN f.neg (f.num*h.den) h.neg (h.num*f.den)) (f.den*h.den)):=⟨l6,by omega,l4.1,l5⟩
 refine Ok.enter func119 J _ ntmps119 J ?_
 intro S w;generalize redF (sumS f.neg (f.num*h.den) h.neg (h.num*f.den)) (sumN f.neg (f.num*h.den) h.neg (h.num*f.den)) (f.den*h.den)=rr at*;refine Qj 12 J (Qv (gT J) hs J (Qv (gT J) (limited_ok rr hV) J (Qq 7 J ?_)));refine Qw J J
theorem Whole_ok(n:Int)(h1: -9223372036854775808<=n)(h2:n<=9223372036854775807):Ok prog 63 [intC n] (ratC (n:Rat)):=by
 have hF:=rFrom_ok n 1 h1 h2 (by decide) (by decide) (by decide);rw [divInt_one] at hF
 refine Ok.enter func63 J _ ntmps63 J ?_
 intro S w;refine Qj 8 J (Qv (gT J) hF J (Qq 15 J ?_));refine Qw J J
set_option maxHeartbeats 8000000 in
theorem rValue_gen (c : List Int) (xs : List Fr) (H : VFit c xs) : Ok prog 73 [intsC c, fracsC xs] (.tup [ratC (vsum c xs), intC 0]) := by
  have hcl := H.cl; have hxl := H.xl
  refine Ok.enter func73 J _ ntmps73 J ?_
  intro S w; refine Xc (Xj fun K hK => ?_); refine Xh 0 J J zvFrac J J J (Xa J J J (Qz (hK _ _ (Qt (Xc ?_))))); clear hK K; refine Xj (fun K hK => ?_)
  refine Zy (gT J) (Whole_ok 0 (by decide) (by decide)) J J J J ?_
  refine Xh 1 J J zvFrac J J J (Zu 3 J J J J J Zs J J (Qz (hK _ _ (Qt (Xc (Xc ?_)))))); clear hK K; refine Xj (fun K hK => ?_); refine Xa J J J (Qz (hK _ _ (Qt (St.block ?_)))); clear hK K
  refine St.loop (α := Nat) (fun i => i ≤ min c.length xs.length)
    (fun i => [(0, .ct (intsC c)), (1, .ct (fracsC xs)), (4, .own 0), (6, .own 1), (7, .ct (intC i))])
    (fun i => [(1, .box 54 (frCs (ofQ (psum c xs i)))), (0, .box 54 [.ex (.bool false), .ex (.slice none 0 0), .ex (.slice none 0 0)])]) (fun i => min c.length xs.length - i) 0 (Nat.zero_le _) (by exact QW J ⟨rfl, rfl, rfl, rfl, rfl, trivial⟩) ?_
  intro i hi
  (try dsimp only at hi ⊢)
  have es : psum c xs (i + 1) = psum c xs i + (c.getD i 0 : Rat) * qv (xs.getD i fr0) := rfl; refine Xc (Xc (Xj fun K hK => ?_)); refine Qg J J J (Qg J J J (Ops.lenF J J sInts.und (List.length_map ..) J (Qh ilss J J J J (Qg J J J (QQ 16 J (fun h => ?_) (fun h => ?_))))))
  · refine Qg J J J (Qg J J J (Ops.lenF J J sFracs.und (List.length_map ..) J (Qh ilss J J J J (Y0 J J J J (Qz (hK _ _ (Qt ?_))))))); clear hK K; refine Qy J (fun h2 => ?_) (fun h2 => ?_)
    · have e2 : (i : Int).toNat = i := Int.toNat_natCast i
      have hi2 : i < min c.length xs.length := by omega
      have hcb := H.cb i; have hW := Whole_ok (c.getD i 0) (by omega) (by omega); have hM := rFMul_gen (ofQ (c.getD i 0 : Rat)) (xs.getD i fr0) (H.mn i hi2) (by rw [ofQ_int_den]; have := H.md i hi2; have e : (limbs 1).length ≤ 1 := Q6 (by decide); omega) (Zj _) (H.den i hi2); rw [Ym] at hM; have hA := rFAdd_fine (ofQ (psum c xs i)) (ofQ ((c.getD i 0 : Rat) * qv (xs.getD i fr0))) (H.a1 i hi2) (H.a2 i hi2) (H.a3 i hi2) (Zj _) (Zj _); rw [Ym, Ym, ← es] at hA; refine St.skip (Qt (Xc (St.block (Xc ?_)))); refine St.drawK mixed 14 (.p 0 (.p 1 (.p 2 (.p 5 (.p 6 (.p 7 (.f 3 (.f 8 (.fork 4 (.fork 9 (.p 10 (.p 11 (.p 12 (.m 13 (.a 14 (.p 15 .done)))))) 13 (.m 9 (.p 10 (.p 11 (.p 12 (.a 14 (.p 15 .done))))))) 13 (.m 4 (.m 9 (.p 10 (.p 11 (.p 12 (.a 14 (.p 15 .done)))))))))))))))) (by kernel_rfl) (fun K hK => ?_); refine (fun (cont : Go.Own.Fin _ [(0, .ct (intsC c)), (1, .ct (fracsC xs)), (4, .own 0), (6, .own 1), (7, .ct (intC i)), (8, .own 2), (9, .ct (intC 0))] [(2, .box 54 (frCs (ofQ ((c.getD i 0 : Rat) * qv (xs.getD i fr0))))), (1, .box 54 (frCs (ofQ (psum c xs i)))), (0, .box 54 [.ex (.bool false), .ex (.slice none 0 0), .ex (.slice none 0 0)])] K) => ?_) (hK _ _ ?_); rotate_left
      · clear hK K; refine Qt (Xc (Xc (Xj fun K hK => ?_))); refine Qg J J J (Qh ineq J J J J (Qz (hK _ _ (Qt (St.condF J (St.skip (Qt (Xc ?_)))))))); clear hK K; refine Xj (fun K hK => ?_); refine Xb (n := 3) J J J J J lFrac J (Xb (n := 3) J J J J J lFrac J (Zy (gT J) hA J J J J (Qg J J J (Ops.extract J J J J (Ops.extract J J J J (Xh 3 J J zvFrac J J J (Zu 3 J J J J J Zs J J (Xa J J J (Qz (hK _ _ (Qt (Xc (Xc ?_))))))))))))); clear hK K; refine Xj (fun K hK => ?_); refine Qg J J J (Qh ineq J J J J (Qz (hK _ _ (Qt (St.condF J (St.skip (Qt ?_))))))); clear hK K; refine Xj (fun K hK => ?_); refine Xb (n := 3) J J J J J lFrac J (Zu 3 J J J J J Zs J J (Qz (hK _ _ (Qt ?_)))); clear hK K; refine Xj (fun K hK => ?_); refine Qg J J J (Qh (iadd (by omega) (by omega)) J J J J ?_); refine Xa J J J (Qz (hK _ _ (Fin.thenN ?_))); clear hK K; refine Qc 3 (Qc 2 ?_); refine Qk (i + 1) (by omega) (by omega) (by exact QW J ⟨rfl, rfl, rfl, rfl, by simp only [Int.natCast_add]; rfl, trivial⟩)
      clear hK; refine Qg J J J (Qg J J J (Ops.idxF J J J sInts (by omega) (ints_at (by omega) (by omega)) J ?_)); refine Qg J J J (Qg J J J (Ops.idxF J J J sFracs (by omega) (fracs_at (by omega) (by omega)) J ?_)); refine Ops.ld1F J J J lInt J (Ops.ldNF (n := 3) J J J lFrac J J ?_); rw [e2]; skip
      refine Zm ?_ ?_
      · refine Zy (gT J) hW J J J J (Zm ?_ ?_)
        · refine Zy (gT J) hM J J J J (Qg J J J (Ops.extract J J J J (Ops.extract J J J J (Xh 2 J J zvFrac J J J (Zu 3 J J J J J Zs J J (Xa J J J ?_)))))); exact Qz (ZW cont ⟨rfl, rfl, rfl, rfl, rfl, rfl, rfl, trivial⟩)
        · refine Xh 2 J J zvFrac J J J (Zy (gT J) hM J J J J (Qg J J J (Ops.extract J J J J (Ops.extract J J J J (Zu 3 J J J J J Zs J J (Xa J J J ?_)))))); exact Qz (ZW cont ⟨rfl, rfl, rfl, rfl, rfl, rfl, rfl, trivial⟩)
      · refine Xh 2 J J zvFrac J J J (Zy (gT J) hW J J J J (Zy (gT J) hM J J J J (Qg J J J (Ops.extract J J J J (Ops.extract J J J J (Zu 3 J J J J J Zs J J (Xa J J J ?_))))))); exact Qz (ZW cont ⟨rfl, rfl, rfl, rfl, rfl, rfl, rfl, trivial⟩)
    · have hi' : i = min c.length xs.length := by omega
      refine St.exit (Qt (Xc (Xj fun K hK => ?_))); refine Xb (n := 3) J J J J J lFrac J (Zu 3 J J J J J Zs J J (Xa J J J (Qz (hK _ _ (Qt (St.ret ?_)))))); clear hK K; refine X5 [_, _] rfl (Qi (n := 3) J J lFrac J (Q4 J Q3)) (by unfold vsum; rw [← hi']; rfl) J
  · have hi' : i = min c.length xs.length := by omega
    refine Xr J J J (Xr J J J (Xr J J J (Xr J J J (Ops.pickF J J J J (Qz (hK _ _ (Qt (St.condF J (St.exit (Qt (Xc ?_))))))))))); clear hK K; refine Xj (fun K hK => ?_); refine Xb (n := 3) J J J J J lFrac J (Zu 3 J J J J J Zs J J (Xa J J J (Qz (hK _ _ (Qt (St.ret ?_)))))); clear hK K; refine X5 [_, _] rfl (Qi (n := 3) J J lFrac J (Q4 J Q3)) (by unfold vsum; rw [← hi']; rfl) J
theorem rValidGoal_ok(n:Int)(xs:List Int)(hl:xs.length<4611686018427387904):Ok prog 60 [intC n,intsC xs] (boolC (okCoeffs n xs)):=by
 refine Ok.enter func60 J _ ntmps60 J ?_
 intro S w;refine Qj 9 J (QV sInts.und J (Qq 4 J ?_));refine Qy J (fun h=> ?_) (fun h=> ?_)
 · refine Qj 6 J ?_;refine Qw J (by unfold okCoeffs;rw [decide_eq_false (by omega)];rfl)
 have e0:okCoeffs n xs= !xs.any badC:=by unfold okCoeffs;rw [decide_eq_true (by omega)];rfl
 refine Qj 9 J ?_
 refine QY (α:=Nat) (fun i=>i<=xs.length/\ ∀j,j<i ->badC (xs.getD j 0)=false)
  (fun i=>[(0, .ct (intC n)),(1, .ct (intsC xs)),(5, .ct (intC i))]) (fun _=>[]) (fun i=>xs.length - i) 0 ⟨Nat.zero_le _,fun j h=>absurd h (Nat.not_lt_zero j)⟩ (by exact Qx J) ?_
 intro i ⟨hi,hv⟩
 (try dsimp only at hi hv ⊢)
 refine Qj 5 J (QV sInts.und J (Qq 3 J ?_));refine Qy J (fun h2=> ?_) (fun h2=> ?_)
 · have e2:(i:Int).toNat=i:=Int.toNat_natCast i
   have hlt:i<xs.length:=by omega
   have bad:badC (xs.getD i 0)=true ->okCoeffs n xs=false:=fun hb=>by
    rw [e0,List.any_eq_true.mpr ⟨_,XX hlt,hb⟩];rfl
   have bd:badC (xs.getD i 0)=(decide (xs.getD i 0< -1048576)||decide (1048576<xs.getD i 0)):=rfl;refine Qj 8 J (Q8 0 sInts J (by omega) ?_);refine Qq 3 J ?_;rw [e2];refine QQ 21 J (fun h3=> ?_) (fun h3=> ?_)
   · refine Qq 15 J ?_;refine Qw J (by rw [bad (by rw [bd,decide_eq_true h3];rfl)];rfl)
   · refine Qq 2 J (Q8 0 sInts J (by omega) ?_);refine Qq 5 J ?_;rw [e2];refine Qy J (fun h4=> ?_) (fun h4=> ?_)
     · refine Qj 6 J ?_;refine Qw J (by rw [bad (by rw [bd,decide_eq_true h4,Bool.or_true])];rfl)
     · refine Xz 8 J (by omega) ?_;refine Qk (i+1) (by omega) ⟨by omega,?_⟩ (by exact Qx J);intro j hj;rcases Nat.lt_or_ge j i with h5|h5
       · exact hv j h5
       · rw [show j=i by omega,bd,decide_eq_false h3,decide_eq_false h4];rfl
 · have hi' :i=xs.length:=by omega
   refine Qj 8 J ?_
   refine X5 [_] rfl (Q4 J Q3) (by
    rw [e0,show xs.any badC=false from List.any_eq_false.mpr fun x hx=>by
     obtain ⟨j,hj,rfl⟩:=List.getElem_of_mem hx;have:=hv j (by omega);rw [List.getD_eq_getElem?_getD,List.getElem?_eq_getElem hj] at this
     simpa using this];rfl) J
theorem rLValid_ok(n:Int)(rs:List Rw)(hl:rs.length<4611686018427387904)(hr:∀r∈rs,r.cs.length<4611686018427387904):Ok prog 59 [intC n,rowsC rs] (boolC (validR n rs)):=by
 have e0:validR n rs=(decide (0<=n)&&decide (n<=16)&&decide (rs.length<=64)&& !rs.any (badR n)):=rfl
 refine Ok.enter func59 J _ ntmps59 J ?_
 intro S w;refine Qj 11 J (QQ 8 J (fun h=> ?_) (fun h=> ?_))
 · refine Qq 17 J ?_;refine Qw J (by rw [e0,decide_eq_false (by omega)];rfl)
 refine Qq 4 J (QQ 12 J (fun h2=> ?_) (fun h2=> ?_))
 · refine Qq 13 J ?_;refine Qw J (by rw [e0,decide_eq_true (show 0<=n by omega),decide_eq_false (show ¬n<=16 by omega)];rfl)
 refine Qq 1 J (QV sRows.und J (Qq 4 J ?_));refine Qy J (fun h3=> ?_) (fun h3=> ?_)
 · refine Qj 6 J ?_;refine Qw J (by rw [e0,decide_eq_true (show 0<=n by omega),decide_eq_true (show n<=16 by omega),decide_eq_false (show ¬rs.length<=64 by omega)];rfl)
 have e1:validR n rs= !rs.any (badR n):=by rw [e0,decide_eq_true (show 0<=n by omega),decide_eq_true (show n<=16 by omega),decide_eq_true (show rs.length<=64 by omega)];rfl
 refine Qj 9 J ?_
 refine QY (α:=Nat) (fun i=>i<=rs.length/\ ∀j,j<i ->badR n (rs.getD j rw0)=false)
  (fun i=>[(0, .ct (intC n)),(1, .ct (rowsC rs)),(5, .ct (intC i))]) (fun _=>[]) (fun i=>rs.length - i) 0 ⟨Nat.zero_le _,fun j h=>absurd h (Nat.not_lt_zero j)⟩ (by exact Qx J) ?_
 intro i ⟨hi,hv⟩
 (try dsimp only at hi hv ⊢)
 refine Qj 5 J (QV sRows.und J (Qq 3 J ?_));refine Qy J (fun h4=> ?_) (fun h4=> ?_)
 · have e2:(i:Int).toNat=i:=Int.toNat_natCast i
   have hlt:i<rs.length:=by omega
   have hG:=rValidGoal_ok n (rs.getD i rw0).cs (hr _ (XX hlt))
   have bad:badR n (rs.getD i rw0)=true ->validR n rs=false:=fun hb=>by
    rw [e1,List.any_eq_true.mpr ⟨_,XX hlt,hb⟩];rfl
   have bd:badR n (rs.getD i rw0)=(!okCoeffs n (rs.getD i rw0).cs||decide ((rs.getD i rw0).b< -4503599627370496)||decide (4503599627370496<(rs.getD i rw0).b)):=rfl;refine Qj 9 J (Q8 rw0 sRows J (by omega) ?_);refine Qq 2 J ?_;rw [e2]
   cases hg:okCoeffs n (rs.getD i rw0).cs with
   |false=>
    rw [hg] at hG bd;refine Qv (gT J) hG J (Qq 26 J ?_);refine Qw J (by rw [bad (by rw [bd];rfl)];rfl)
   |true=>
    rw [hg] at hG bd;refine Qv (gT J) hG J (Qq 4 J (Q8 rw0 sRows J (by omega) ?_));refine Qq 5 J ?_;rw [e2];refine QQ 39 J (fun h5=> ?_) (fun h5=> ?_)
    · refine Qq 16 J ?_;refine Qw J (by rw [bad (by rw [bd,decide_eq_true h5];rfl)];rfl)
    · refine Qq 2 J (Q8 rw0 sRows J (by omega) ?_);refine Qq 6 J ?_;rw [e2];refine Qy J (fun h6=> ?_) (fun h6=> ?_)
      · refine Qj 6 J ?_;refine Qw J (by rw [bad (by rw [bd,decide_eq_true h6,Bool.or_true])];rfl)
      · refine Xz 8 J (by omega) ?_;refine Qk (i+1) (by omega) ⟨by omega,?_⟩ (by exact Qx J);intro j hj;rcases Nat.lt_or_ge j i with h7|h7
        · exact hv j h7
        · rw [show j=i by omega,bd,decide_eq_false h5,decide_eq_false h6];rfl
 · have hi' :i=rs.length:=by omega
   refine Qj 8 J ?_
   refine X5 [_] rfl (Q4 J Q3) (by
    rw [e1,show rs.any (badR n)=false from List.any_eq_false.mpr fun x hx=>by
     obtain ⟨j,hj,rfl⟩:=List.getElem_of_mem hx;have:=hv j (by omega);rw [List.getD_eq_getElem?_getD,List.getElem?_eq_getElem hj] at this
     simpa using this];rfl) J
def sgnF (f : Fr) : Int := if f.num = 0 then 0 else if f.neg then -1 else 1
theorem Sign_ok(f:Fr):Ok prog 66 [fracC f] (intC (sgnF f)):=by
 have hlen:=limbs_len_pos (n:=f.num)
 refine Ok.enter func66 J _ ntmps66 J ?_
 intro S w;refine Qj 12 J (QV sNat.und J (Qq 4 J ?_));refine Qy J (fun h=> ?_) (fun h=> ?_)
 · refine Qj 6 J ?_;refine Qw J (by unfold sgnF;rw [if_pos (by omega)];rfl)
 · refine Qj 7 J ?_;refine Xx J (fun g=> ?_) (fun g=> ?_)
   · refine Qj 6 J ?_;refine Qw J (by unfold sgnF;rw [if_neg (by omega),if_pos g];rfl)
   · refine Qj 8 J ?_;refine Qw J (by unfold sgnF;rw [if_neg (by omega),if_neg (by rw [g];decide)];rfl)
theorem Point_ok(n:Int)(xs:List Fr)(hxl:xs.length<=1000)(hx:∀f∈xs,VF f):Ok prog 72 [intC n,fracsC xs] (boolC (decide ((xs.length:Int)=n)&& !(xs.any fun f=>f.neg))):=by
 refine Ok.enter func72 J _ ntmps72 J ?_
 intro S w;refine Qj 9 J (QV sFracs.und J (Qq 4 J ?_));refine Qy J (fun h=> ?_) (fun h=> ?_)
 · refine Qj 6 J ?_;refine Qw J (by rw [decide_eq_false h];rfl)
 have hn:(xs.length:Int)=n:=Classical.byContradiction h;rw [decide_eq_true hn,Bool.true_and];refine Qj 9 J ?_
 refine QY (α:=Nat) (fun i=>i<=xs.length/\ ∀j,j<i ->(xs.getD j fr0).neg=false)
  (fun i=>[(0, .ct (intC n)),(1, .ct (fracsC xs)),(5, .ct (intC i))]) (fun _=>[]) (fun i=>xs.length - i) 0 ⟨Nat.zero_le _,fun j h=>absurd h (Nat.not_lt_zero j)⟩ (by exact Qx J) ?_
 intro i ⟨hi,hv⟩
 (try dsimp only at hi hv ⊢)
 refine Qj 8 J ?_;refine Qy J (fun h2=> ?_) (fun h2=> ?_)
 · have e2:(i:Int).toNat=i:=Int.toNat_natCast i
   have hlt:i<xs.length:=by omega
   have hmem:=XX (z:=fr0) hlt;have hVF:=hx _ hmem;have hV:=rFValid_V _ hVF;have hsg:=Sign_ok (xs.getD i fr0)
   have hsn:sgnF (xs.getD i fr0)<0↔(xs.getD i fr0).neg=true:=by
    unfold sgnF;by_cases h3:(xs.getD i fr0).num=0
    · rw [if_pos h3];constructor
      · intro h4;omega
      · intro h4;exact absurd h3 (hVF.neg h4)
    · rw [if_neg h3]
      cases (xs.getD i fr0).neg <;>simp
   refine Qj 8 J (Q8 fr0 sFracs J (by omega) ?_);refine Qq 1 J ?_
   rw [e2];refine Qv (gT J) hV J (Qq 4 J (Q8 fr0 sFracs J (by omega) ?_));refine Qq 1 J ?_
   rw [e2];refine Qv (gT J) hsg J (Qq 4 J ?_);refine Qy J (fun h3=> ?_) (fun h3=> ?_)
   · refine Qj 6 J ?_;refine Qw J (by rw [List.any_eq_true.mpr ⟨_,hmem,hsn.1 h3⟩];rfl)
   · refine Xz 8 J (by omega) ?_;refine Qk (i+1) (by omega) ⟨by omega,?_⟩ (by exact Qx J);intro j hj;rcases Nat.lt_or_ge j i with h5|h5
     · exact hv j h5
     · rw [show j=i by omega]
       cases h6:(xs.getD i fr0).neg with
       |false=>rfl
       |true=>exact absurd (hsn.2 h6) h3
 · have hi' :i=xs.length:=by omega
   refine Qj 8 J ?_
   refine X5 [_] rfl (Q4 J Q3) (by
    rw [show (xs.any fun f=>f.neg)=false from List.any_eq_false.mpr fun x hx=>by
     obtain ⟨j,hj,rfl⟩:=List.getElem_of_mem hx;have:=hv j (by omega);rw [List.getD_eq_getElem?_getD,List.getElem?_eq_getElem hj] at this
     simpa using this];rfl) J
theorem rFSub_q(p q:Rat)(a1:(limbs (ofQ p).num).length<=20)(a2:(limbs (ofQ p).den).length<=20)(a3:(limbs (ofQ q).num).length<=20)(a4:(limbs (ofQ q).den).length<=20):
  Ok prog 69 [ratC p,ratC q] (.tup [ratC (p - q),intC 0]):=by
 have b3:(limbs (ofQ (-q)).num).length<=20:=by rw [<- oppF_q];exact a3
 have b4:(limbs (ofQ (-q)).den).length<=20:=by rw [<- oppF_q];exact a4
 have d1:=Zj p;have d2:=Zj (-q);have hO:=rOpposite_ok (ofQ q);rw [oppF_q] at hO;have hadd:=redF_add (ofQ p) (ofQ (-q)) d1 d2;rw [Ym,Ym,<- Rat.sub_eq_add_neg] at hadd;show Ok prog 69 [fracC (ofQ p),fracC (ofQ q)] (.tup [ratC (p - q),intC 0]);generalize ofQ (-q)=h at*;generalize ofQ p=f at*;have hp:=Nat.mul_pos d1 d2;have l1:(limbs (f.num*h.den)).length<=63:=Nat.le_trans XZ (by omega);have l2:(limbs (h.num*f.den)).length<=63:=Nat.le_trans XZ (by omega);have l3:=sumN_len (n1:=f.neg) (n2:=h.neg) l1 l2;have l8:=XZ (a:=f.den) (b:=h.den);have l4:=redF_den (sumS f.neg (f.num*h.den) h.neg (h.num*f.den)) (sumN f.neg (f.num*h.den) h.neg (h.num*f.den)) _ hp;have l5:=redF_neg (sumS f.neg (f.num*h.den) h.neg (h.num*f.den)) (sumN f.neg (f.num*h.den) h.neg (h.num*f.den)) (f.den*h.den);have l6:(limbs (redF (sumS f.neg (f.num*h.den) h.neg (h.num*f.den)) (sumN f.neg (f.num*h.den) h.neg (h.num*f.den)) (f.den*h.den)).num).length<=64:=div_len l3;have l7:=Qm l4.2;have hs:=rsum_ok f h (by omega) (by omega) (by omega) (by omega) d1 d2;have hV:VF (redF (sumS f.neg (f.num*h.den) h.neg (h.num*f.den)) (sumN f.neg (f.num*h.den) h.neg (h.num*f.den)) (f.den*h.den)):=⟨l6,by omega,l4.1,l5⟩;rw [hadd] at hs hV;have hl:=limited_ok _ hV
 refine Ok.enter func69 J _ ntmps69 J ?_
 intro S w;refine Qj 9 J (XY 7 0x80086706054443422120 J ?_);refine Qq 2 J (Qv (gT J) hO J (Qv (gT J) hs J (Qv (gT J) hl J (Qq 7 J ?_))));refine Qw J J
theorem qv_inv{q:Rat}(h:q≠0):qv ⟨(ofQ q).neg,(ofQ q).den,(ofQ q).num⟩=q⁻¹:=by
 show mkRat (sg (decide (q.num<0)) q.den) q.num.natAbs=q⁻¹
 have hn:q.num≠0:=fun e=>h (Rat.num_eq_zero.1 e)
 rw [Rat.inv_def];unfold sg;rcases Int.lt_or_gt_of_ne hn with h1|h1
 · rw [decide_eq_true h1,if_pos J,<- Rat.divInt_ofNat,show ((q.num.natAbs:Nat):Int)= -q.num by omega,Rat.divInt_neg',Int.neg_neg]
 · rw [decide_eq_false (show ¬q.num<0 by omega),if_neg (by decide),<- Rat.divInt_ofNat,show ((q.num.natAbs:Nat):Int)=q.num by omega]
theorem rFDiv_q(p q:Rat)(hq:q≠0)(a1:(limbs (ofQ p).num).length<=20)(a2:(limbs (ofQ p).den).length<=20)(a3:(limbs (ofQ q).num).length<=20)(a4:(limbs (ofQ q).den).length<=20):
  Ok prog 113 [ratC p,ratC q] (.tup [ratC (p/q),intC 0]):=by
 have hn:0<(ofQ q).num:=by
  show 0<q.num.natAbs
  have:q.num≠0:=fun e=>hq (Rat.num_eq_zero.1 e)
  omega
 have hM:=rFMul_gen (ofQ p) ⟨(ofQ q).neg,(ofQ q).den,(ofQ q).num⟩ (by show _+(limbs (ofQ q).den).length<=64;omega) (by show _+(limbs (ofQ q).num).length<=64;omega) (Zj p) hn;rw [Ym,qv_inv hq,<- Rat.div_def] at hM;have hlen:=limbs_len_pos (n:=(ofQ q).num);show Ok prog 113 [ratC p,fracC (ofQ q)] (.tup [ratC (p/q),intC 0]);generalize ofQ q=h at*
 refine Ok.enter func113 J _ ntmps113 J ?_
 intro S w;refine Qj 13 J (QV sNat.und J (Qq 3 J ?_));refine Qy J (fun h0=>absurd h0 (by omega)) (fun _=> ?_);refine Qj 12 J (Qv (gT J) hM J (Qq 7 J ?_));refine Qw J J
theorem rFReduce_q(q:Rat)(a3:(limbs (ofQ q).num).length<=20)(a4:(limbs (ofQ q).den).length<=20):Ok prog 70 [ratC q] (ratC q):=by
 have hr:=rreduced_ok (ofQ q).neg (ofQ q).num (ofQ q).den (Zj q) (by omega) (by omega)
 have e:redF (ofQ q).neg (ofQ q).num (ofQ q).den=ofQ q:=by
  rw [redF_q _ _ _ (Zj q)];exact congrArg ofQ (Ym q)
 rw [e] at hr
 refine Ok.enter func70 J _ ntmps70 J ?_
 intro S w;refine Qj 14 J (Qv (gT J) hr J (Qq 4 J ?_));refine Qw J J
theorem sgnF_q(q:Rat):sgnF (ofQ q)=q.num.sign:=by
 have e2:(ofQ q).num=q.num.natAbs:=rfl;have e1:(ofQ q).neg=decide (q.num<0):=rfl;unfold sgnF;rw [e1,e2];generalize q.num=z;rcases Int.lt_trichotomy z 0 with h1|h1|h1
 · rw [if_neg (by omega),if_pos (decide_eq_true h1),Int.sign_eq_neg_one_of_neg h1]
 · subst h1;rfl
 · rw [if_neg (by omega),if_neg (by rw [decide_eq_true_eq];omega),Int.sign_eq_one_of_pos h1]
theorem rCombine_gen(n:Nat)(rs:List Rw)(ys:List Fr)(hv:validR n rs=true)(H:Mul n rs ys):
  Ok prog 32 [intC n,rowsC rs,fracsC ys] (.tup [ratsC (colsQ rs ys n),ratC (bsQ rs ys),intC 0]):=by
 obtain ⟨v1,v2,v3,v4⟩:=Jw hv;have hV:=rLValid_ok n rs (by omega) (fun r hr=>by have:=(v4 r hr).1;omega);rw [hv] at hV;have hl:=H.len;have hP:=Point_ok rs.length ys (by omega) H.vf;rw [decide_eq_true (show (ys.length:Int)=(rs.length:Int) by omega),show ys.any (fun f=>f.neg)=false from List.any_eq_false.2 fun f hf=>by rw [H.nn f hf];decide] at hP;have hP:Ok prog 72 [intC rs.length,fracsC ys] (boolC true):=hP
 refine Ok.enter func32 J _ ntmps32 J ?_
 intro S w;refine Qj 12 J (Qv (gT J) hV J (Qq 10 J (QV sRows.und J (Qq 1 J (Qv (gT J) hP J (Qq 18 J (Xo 9 1 54 3 J J J ?_)))))))
 refine QY (α:=Nat) (fun i=>i<=n)
  (fun i=>[(0, .ct (intC n)),(1, .ct (rowsC rs)),(2, .ct (fracsC ys)),(7, .own 0),(9, .own 1),(10, .ct (intC i))])
  (fun i=>[(1, .row 54 3 (rts (colsQ rs ys i))),(0, .box 54 [.ex (.bool false), .ex (.slice none 0 0), .ex (.slice none 0 0)])]) (fun i=>n - i) 0 (Nat.zero_le _) (by exact Qx J) ?_
 intro i hi
 (try dsimp only at hi ⊢)
 refine Qj 8 J ?_;refine Qy J (fun h=> ?_) (fun h=> ?_)
 · refine Qj 16 J (Xo 11 2 3 1 J J J ?_)
   refine QY (α:=Nat) (fun k=>k<=rs.length)
    (fun k=>[(0, .ct (intC n)),(1, .ct (rowsC rs)),(2, .ct (fracsC ys)),(7, .own 0),(9, .own 1),(10, .ct (intC i)),(11, .own 2),(12, .ct (intC k))])
    (fun k=>[(2, .row 3 1 (ints ((rs.take k).map fun r=>r.cs.getD i 0))),(1, .row 54 3 (rts (colsQ rs ys i))),(0, .box 54 [.ex (.bool false), .ex (.slice none 0 0), .ex (.slice none 0 0)])]) (fun k=>rs.length - k) 0 (Nat.zero_le _) (by exact Qx J) ?_
   intro k hk
   (try dsimp only at hk ⊢)
   refine Qj 5 J (QV sRows.und J (Qq 3 J ?_));refine Qy J (fun h2=> ?_) (fun h2=> ?_)
   · have e2:(k:Int).toNat=k:=Int.toNat_natCast k;have e3:(i:Int).toNat=i:=Int.toNat_natCast i
     have hlt:k<rs.length:=by omega
     refine Qj 15 J (Q8 rw0 sRows J (by omega) ?_);refine Qq 2 J (QV sInts.und J (Qq 3 J ?_));rw [e2];refine Qy J (fun h3=> ?_) (fun h3=> ?_)
     · refine Qj 3 J (Q8 rw0 sRows J (by omega) ?_);refine Qq 3 J ?_;rw [e2]
       refine Q8 0 sInts J (by omega) ?_;refine Qq 7 J ?_;rw [e3];refine Qo J J sInts J J J (QJ k (ints ((rs.take (k+1)).map fun r=>r.cs.getD i 0)) J J J J sInts (by simp [ints];omega) J (by omega) (by omega) (by rw [take_map_succ (fun r:Rw=>r.cs.getD i 0) rw0 hlt];simp [ints]) J ?_);refine QZ 9 J (by omega) ?_;refine Qk (k+1) (by omega) (by omega) (by exact Qx J)
     · have ec:(rs.getD k rw0).cs.getD i 0=0:=getD_ge (by omega);refine Qj 5 J (Qo J J sInts J J J (QJ k (ints ((rs.take (k+1)).map fun r=>r.cs.getD i 0)) J J J J sInts (by simp [ints];omega) J (by omega) (by omega) (by rw [take_map_succ (fun r:Rw=>r.cs.getD i 0) rw0 hlt,ec];simp [ints]) J ?_));refine QZ 9 J (by omega) ?_;refine Qk (k+1) (by omega) (by omega) (by exact Qx J)
   · have hk' :k=rs.length:=by omega
     subst hk';rw [List.take_length]
     refine X6 2 _ J (X2 _ _) noBor_sub ?_
     have hVi:=rValue_gen _ ys (H.c i (by omega)).1;refine Qj 6 J (Qv (gT J) hVi J (Qq 21 J (Zv (n:=3) J J sFracs J J (by decide) J ?_)));refine QJ i (rts (colsQ rs ys (i+1))) J J J J sFracs (by rw [rts_len];simp [colsQ]) J (by omega) (by omega) (by unfold colsQ;rw [List.range_succ,List.map_append];exact rts_snoc _ _) J ?_;refine QZ 9 J (by omega) ?_;refine Qc 2 (Qk (i+1) (by omega) (by omega) (by exact Qx J))
 · have hi' :i=n:=by omega
   subst hi';refine X6 1 _ J (rts_frozen _ _) noBor_sub (Qj 14 J (Xo 16 2 3 1 J J J ?_))
   refine QY (α:=Nat) (fun k=>k<=rs.length)
    (fun k=>[(1, .ct (rowsC rs)),(2, .ct (fracsC ys)),(7, .own 0),(9, .ct (ratsC (colsQ rs ys i))),(16, .own 2),(17, .ct (intC k))])
    (fun k=>[(2, .row 3 1 (ints ((rs.take k).map fun r=>r.b))),(0, .box 54 [.ex (.bool false), .ex (.slice none 0 0), .ex (.slice none 0 0)])]) (fun k=>rs.length - k) 0 (Nat.zero_le _) (by exact Qx J) ?_
   intro k hk
   (try dsimp only at hk ⊢)
   refine Qj 5 J (QV sRows.und J (Qq 3 J ?_));refine Qy J (fun h2=> ?_) (fun h2=> ?_)
   · have e2:(k:Int).toNat=k:=Int.toNat_natCast k
     have hlt:k<rs.length:=by omega
     refine Qj 8 J (Q8 rw0 sRows J (by omega) ?_);refine Qq 2 J ?_;rw [e2];refine Qo J J sInts J J J (QJ k (ints ((rs.take (k+1)).map fun r=>r.b)) J J J J sInts (by simp [ints];omega) J (by omega) (by omega) (by rw [take_map_succ (fun r:Rw=>r.b) rw0 hlt];simp [ints]) J ?_);refine QZ 9 J (by omega) ?_;refine Qk (k+1) (by omega) (by omega) (by exact Qx J)
   · have hk' :k=rs.length:=by omega
     subst hk';rw [List.take_length]
     refine X6 2 _ J (X2 _ _) noBor_sub ?_
     have hVb:=rValue_gen _ ys H.b.1;refine Qj 6 J (Qv (gT J) hVb J (Qq 19 J (XY 3 0x800463210200 J ?_)));refine Qq 8 J ?_;refine Qw J J
theorem cmpQ_flip(p q:Rat):0<cmpQ p q↔cmpQ q p<0:=by
 unfold cmpQ;rw [Int.sign_pos_iff,Int.sign_neg_iff];omega
theorem rcovers_q(os:List Rat)(c:List Int)(hl:os.length<=64)(hlc:c.length<=64)(ho:∀y∈os,SzQ y)(hc:∀y∈c,y.natAbs<=4503599627370496):Ok prog 33 [intsC c,ratsC os] (boolC (covQ os c)):=by
 refine Ok.enter func33 J _ ntmps33 J ?_
 intro S w;refine Qj 9 J (QV sInts.und J (Qq 1 J (QV sFracs.und J (Qq 3 J ?_))));refine Qy J (fun h=> ?_) (fun h=> ?_)
 · refine Qj 6 J ?_;refine Qw J (by unfold covQ;rw [decide_eq_false (show ¬c.length<=os.length by omega)];rfl)
 have hle:c.length<=os.length:=by omega
 clear h;refine Qj 9 J ?_
 refine QY (α:=Nat) (fun i=>i<=os.length/\ ∀j,j<i ->¬cmpQ (os.getD j 0) (c.getD j 0:Rat)<0)
  (fun i=>[(0, .ct (intsC c)),(1, .ct (ratsC os)),(5, .ct (intC i))]) (fun _=>[]) (fun i=>os.length - i) 0 ⟨Nat.zero_le _,fun j h=>absurd h (Nat.not_lt_zero j)⟩ (by exact Qx J) ?_
 intro i ⟨hi,hj⟩;dsimp only at hi hj ⊢;refine Qj 5 J (QV sFracs.und J (Qq 3 J ?_));refine Qy J (fun h=> ?_) (fun h=> ?_)
 · have e2:(i:Int).toNat=i:=Int.toNat_natCast i
   have hlt:i<os.length:=by omega
   have b0:=ho (os.getD i 0) (XX hlt)
   have b1:(c.getD i 0).natAbs<=4503599627370496:=by
    rcases Nat.lt_or_ge i c.length with h|h
    · exact hc _ (XX h)
    · rw [getD_ge h];decide
   have hbad:0<cmpQ (c.getD i 0:Rat) (os.getD i 0) ->covQ os c=false:=fun hgt=>by
    unfold covQ;rw [List.all_eq_false.mpr ⟨i,List.mem_range.mpr hlt,by rw [decide_eq_true ((cmpQ_flip _ _).1 hgt)];decide⟩,Bool.and_false]
   have hgood:¬0<cmpQ (c.getD i 0:Rat) (os.getD i 0) ->∀j,j<i+1 ->¬cmpQ (os.getD j 0) (c.getD j 0:Rat)<0:=fun hng j hj' =>by
    rcases Nat.lt_or_ge j i with h3|h3
    · exact hj j h3
    · have:j=i:=by omega
      rw [this];exact fun h=>hng ((cmpQ_flip _ _).2 h)
   have hW:=Whole_ok (c.getD i 0) (by omega) (by omega);have i1:=SzQ.int b1;have hC:=rFCompare_q (c.getD i 0:Rat) (os.getD i 0) (by have:=i1.n;omega) (by have:=i1.d;omega) (by have:=b0.n;omega) (by have:=b0.d;omega);generalize hci:c.getD i 0=ci at*;refine Qj 14 J (QV sInts.und J (Qq 3 J ?_));refine X4 (α:=Unit) (fun _=>True) (fun _=>[(0, .ct (intsC c)),(1, .ct (ratsC os)),(5, .ct (intC i)),(6, .ct (intC ci))]) (fun _=>[]) (fun _ _=> ?_) (fun KK hN=> ?_);rotate_left
   · refine Qy J (fun h3=> ?_) (fun h3=> ?_)
     · refine Qj 3 J (Q8 0 sInts J (by omega) ?_);refine Qq 3 J ?_;rw [e2,hci];exact Q7 hN () trivial (by exact Qx J)
     · have ec:ci=0:=by rw [<- hci];exact getD_ge (by omega)
       subst ec
       refine Qj 1 J ?_
       exact Q7 hN () trivial (by exact Qx J)
   clear hci;refine Qj 1 J (XY 12 0x800b0a09080746412504030200 J ?_);refine Qq 3 J (Q8 0 sFracs J (by omega) ?_);refine Qq 1 J ?_
   rw [e2];refine Qv (gT J) hW J (Qv (gT J) hC J (Qq 13 J ?_));refine Qy J (fun h4=> ?_) (fun h4=> ?_)
   · refine Qj 6 J ?_;refine Qw J (by rw [hbad h4];rfl)
   · refine Xz 8 J (by omega) ?_;refine Qk (i+1) (by omega) ⟨by omega,hgood h4⟩ (by exact Qx J)
 · have hi' :i=os.length:=by omega
   refine Qj 8 J ?_
   refine X5 [_] rfl (Q4 J Q3) (by
    unfold covQ
    rw [decide_eq_true hle,List.all_eq_true.mpr (fun j hj2=>by rw [decide_eq_false (hj j (by have:=List.mem_range.mp hj2;omega))];rfl)];rfl) J
theorem rBounds_gen(n:Nat)(rs:List Rw)(c:List Int)(ys:List Fr)(most:Rat)(hv:validR n rs=true)(H:Mul n rs ys)(hlc:c.length<=64)(hc:∀y∈c,y.natAbs<=4503599627370496)(hm:SzQ most):
  Ok prog 13 [intC n,rowsC rs,intsC c,fracsC ys,ratC most] (boolC (covQ (colsQ rs ys n) c&& !decide (cmpQ most (bsQ rs ys)<0))):=by
 have h1:=rCombine_gen n rs ys hv H;have h2:=rcovers_q (colsQ rs ys n) c (by rw [colsQ_len];have:=(Jw hv).2.1;omega) hlc H.cols hc;have hb:=H.b.2;have h3:=rFCompare_q (bsQ rs ys) most (by have:=hb.n;omega) (by have:=hb.d;omega) (by have:=hm.n;omega) (by have:=hm.d;omega);have h4:=rFValid_V _ hm.vf
 have hcm:decide (cmpQ (bsQ rs ys) most<=0)= !decide (cmpQ most (bsQ rs ys)<0):=by
  by_cases h:cmpQ most (bsQ rs ys)<0
  · have:=(cmpQ_flip (bsQ rs ys) most).2 h;rw [decide_eq_true h,decide_eq_false (by omega)];rfl
  · have:=mt (cmpQ_flip (bsQ rs ys) most).1 h;rw [decide_eq_false h,decide_eq_true (by omega)];rfl
 generalize colsQ rs ys n=os at*;generalize bsQ rs ys=bs at*
 refine Ok.enter func13 J _ ntmps13 J ?_
 intro S w;refine Qj 11 J (Qv (gT J) h1 J (Qq 18 J (Qv (gT J) h2 J (Qq 3 J (Xk 32 J (fun h=> ?_) (fun h=> ?_))))))
 · have hcv:covQ os c=false:=by simpa using h
   refine Qq 13 J ?_;refine Qw J (by rw [hcv];rfl)
 · have hcv:covQ os c=true:=by simpa using h
   refine Qq 1 J (Qv (gT J) h4 J (Qq 11 J (Qv (gT J) h3 J (Qq 15 J ?_))));refine Qw J (by rw [hcv,<- hcm];rfl)
open Go.Det
section
variable {n : Nat} {rs : List Rw} {D : Int} {X : Nat → Int}
theorem colQ_ptl{Y:Nat ->Int}(j:Nat):colQ rs (ptl rs.length Y D) j=shq (sm (fun i=>ca rs i j*Y i) rs.length) D:=by
 unfold colQ;rw [vsum_ptl _ _ _ _ (by simp)]
 congr 1
 exact Xl fun i hi=>by rw [getD_mapZ (fun r=>r.cs.getD j 0) rw0 hi];rfl
theorem bsQ_ptl{Y:Nat ->Int}:bsQ rs (ptl rs.length Y D)=shq (sm (fun i=>cb rs i*Y i) rs.length) D:=by
 unfold bsQ;rw [vsum_ptl _ _ _ _ (by simp)]
 congr 1
 exact Xl fun i hi=>by rw [getD_mapZ (fun r=>r.b) rw0 hi];rfl
theorem cov_ptl{Y:Nat ->Int}(c:List Int)(hD:0<D)(hc:c.length<=n)(h:∀j,j<n ->D*c.getD j 0<=sm (fun i=>ca rs i j*Y i) rs.length):covQ (colsQ rs (ptl rs.length Y D) n) c=true:=by
 have hl:(colsQ rs (ptl rs.length Y D) n).length=n:=by simp [colsQ]
 unfold covQ;rw [hl,decide_eq_true hc,List.all_eq_true.2 fun j hj=> ?_]
 · rfl
 · have hj:=List.mem_range.1 hj
   have e:(colsQ rs (ptl rs.length Y D) n).getD j 0=colQ rs (ptl rs.length Y D) j:=by
    unfold colsQ;simp [List.getD_eq_getElem?_getD,List.getElem?_map,hj]
   rw [e,colQ_ptl,Bool.not_eq_true',decide_eq_false_iff_not,cmpQ_neg,Rat.not_lt];exact int_le_shq hD (h j hj)
end
theorem sm_absG{f:Nat ->Int}{M:Nat}:∀{n:Nat},(∀k,k<n ->(f k).natAbs<=M) ->(sm f n).natAbs<=n*M
 |0,_=>by simp [sm]
 |n+1,h=>by
  have h1:=sm_absG (n:=n) fun k hk=>h k (by omega)
  have h2:=h n (by omega)
  have h3:(sm f (n+1)).natAbs<=(sm f n).natAbs+(f n).natAbs:=Int.natAbs_add_le _ _
  rw [Nat.succ_mul]
  omega
structure F29 (f : Fr) : Prop where
  num : f.num < 1073741824 ^ 29
  den : f.den < 1073741824 ^ 29
  pos : 0 < f.den
  neg : f.neg = true → f.num ≠ 0
theorem F29.vf{f:Fr}(h:F29 f):VF f:=⟨Nat.le_trans (Q6 h.num) (by decide),Nat.le_trans (Q6 h.den) (by decide),h.pos,h.neg⟩
theorem F29.shqb{a D:Int}(hD:0<D)(h1:D.natAbs<1073741824 ^ 29)(h2:a.natAbs<1073741824 ^ 29):F29 (ofQ (shq a D)):=by
 obtain ⟨l1,l2⟩:=mk_le a D.natAbs (by omega)
 exact ⟨Nat.lt_of_le_of_lt l1 (by omega),Nat.lt_of_le_of_lt l2 (by omega),Zj _,fun h=>by
  have:(Go.Proofs.YtfimckpnnbibcaaGreat.shq a D).num<0:=of_decide_eq_true h;show (Go.Proofs.YtfimckpnnbibcaaGreat.shq a D).num.natAbs≠0
  omega⟩
theorem Kt29:∀m,m<33 ->Kt m<1073741824 ^ 29:=by decide+kernel
section
variable {N m : Nat} {D : Int} {X : Nat → Int} {c : List Int}
theorem vfit29(hcl:c.length<=1000)(hc:∀i, -9223372036854775808<=c.getD i 0/\ c.getD i 0<=9223372036854775807)(hN:N<=64)(hD:0<D)(b1:D.natAbs<1073741824 ^ 29)(b2:∀v,v<N ->(X v).natAbs<1073741824 ^ 29):
  VFit c (ptl N X D)/\ (limbs (ofQ (vsum c (ptl N X D))).num).length<=57/\ (limbs (ofQ (vsum c (ptl N X D))).den).length<=55:=by
 have hx:∀f∈ptl N X D,F29 f:=fun f hf=>by
  obtain ⟨v,hv,rfl⟩:=ptl_mem hf;exact F29.shqb hD b1 (b2 v hv)
 have hxl:(ptl N X D).length=N:=ptl_len ..
 have hc' :∀i,(c.getD i 0).natAbs<=9223372036854775808:=fun i=>by have:=hc i;omega
 have hx' :∀k,k<min c.length (ptl N X D).length ->F29 ((ptl N X D).getD k fr0):=fun k hk=>hx _ (XX (by omega))
 have hp:∀k,k<min c.length (ptl N X D).length ->(limbs (ofQ ((c.getD k 0:Rat)*qv ((ptl N X D).getD k fr0))).num).length<=32/\ (limbs (ofQ ((c.getD k 0:Rat)*qv ((ptl N X D).getD k fr0))).den).length<=29:=fun k hk=>by
  have hf:=hx' k hk;have hm:=mk_le (c.getD k 0*sg ((ptl N X D).getD k fr0).neg ((ptl N X D).getD k fr0).num) ((ptl N X D).getD k fr0).den hf.pos;rw [<- prod_mk _ _ hf.pos] at hm
  have h1:(c.getD k 0*sg ((ptl N X D).getD k fr0).neg ((ptl N X D).getD k fr0).num).natAbs<=9223372036854775808*1073741824 ^ 29:=by
   rw [Int.natAbs_mul,sg_abs];exact Nat.mul_le_mul (hc' k) (Nat.le_of_lt hf.num)
  exact ⟨Q6 (Nat.lt_of_le_of_lt (Nat.le_trans hm.1 h1) (by decide)),Q6 (Nat.lt_of_le_of_lt hm.2 hf.den)⟩
 have hs:∀k,k<=N ->(limbs (ofQ (psum c (ptl N X D) k)).num).length<=32/\ (limbs (ofQ (psum c (ptl N X D) k)).den).length<=29:=fun k hk=>by
  rw [psum_ptl c N X D k hk]
  have hab:(sm (fun j=>c.getD j 0*X j) k).natAbs<=k*(9223372036854775808*1073741824 ^ 29):=sm_absG fun j hj=>by
   rw [Int.natAbs_mul];exact Nat.mul_le_mul (hc' j) (by have:=b2 j (by omega);omega)
  obtain ⟨l1,l2⟩:=mk_le (sm (fun j=>c.getD j 0*X j) k) D.natAbs (by omega);have h16:k*(9223372036854775808*1073741824 ^ 29)<=64*(9223372036854775808*1073741824 ^ 29):=Nat.mul_le_mul_right _ (by omega);exact ⟨Q6 (Nat.lt_of_le_of_lt (Nat.le_trans l1 (Nat.le_trans hab h16)) (by decide)),Q6 (Nat.lt_of_le_of_lt l2 (by omega))⟩
 have hv:=hs (min c.length (ptl N X D).length) (by omega);refine ⟨⟨hcl,by omega,hc,fun k hk=>(hx' k hk).pos,fun k hk=> ?_,fun k hk=> ?_,fun k hk=> ?_,fun k hk=> ?_,fun k hk=> ?_⟩,Nat.le_trans hv.1 (by decide),Nat.le_trans hv.2 (by decide)⟩
 · have h1:(limbs (ofQ (c.getD k 0:Rat)).num).length<=3:=Q6 (Nat.lt_of_le_of_lt (show (ofQ (c.getD k 0:Rat)).num<=9223372036854775808 from hc' k) (by decide));have h2:=Q6 (hx' k hk).num;omega
 · have h2:=Q6 (hx' k hk).den;omega
 · have h1:=hp k hk;have h2:=hs k (by omega);omega
 · have h1:=hp k hk;have h2:=hs k (by omega);omega
 · have h1:=hp k hk;have h2:=hs k (by omega);omega
end
section
variable {n : Nat} {rs : List Rw} {D : Int}
theorem mul29{Y:Nat ->Int}(hv:validR n rs=true)(hD:0<D)(h:∀i,i<rs.length ->0<=Y i)(b1:D.natAbs<1073741824 ^ 29)(b2:∀i,i<rs.length ->(Y i).natAbs<1073741824 ^ 29):Mul n rs (ptl rs.length Y D):=by
 obtain ⟨v1,v2,v3,v4⟩:=Jw hv
 have hF:∀f∈ptl rs.length Y D,F29 f:=fun f hf=>by
  obtain ⟨v,hv,rfl⟩:=ptl_mem hf;exact F29.shqb hD b1 (b2 v hv)
 have key:∀num:Rw ->Int,(∀r∈rs,(num r).natAbs<=4503599627370496) ->VFit (rs.map num) (ptl rs.length Y D)/\ SzQ (vsum (rs.map num) (ptl rs.length Y D)):=fun num hn=>by
  obtain ⟨a1,a2,a3⟩:=vfit29 (N:=rs.length) (D:=D) (X:=Y) (c:=rs.map num) (by rw [List.length_map];omega) (fun i=>by
   rcases Nat.lt_or_ge i (rs.map num).length with h4|h4
   · obtain ⟨r,hr,e⟩:=List.mem_map.1 (XX (z:=(0:Int)) h4);have:=hn r hr;rw [<- e];omega
   · rw [getD_ge h4];decide) v3 hD b1 b2
  exact ⟨a1,⟨by omega,by omega⟩⟩
 refine ⟨ptl_len ..,fun f hf=>(hF f hf).vf,ptl_nn hD h,fun j hj=>key _ fun r hr=> ?_,key _ fun r hr=>(v4 r hr).2.2⟩;rcases Nat.lt_or_ge j r.cs.length with h4|h4
 · have:=(v4 r hr).2.1 _ (XX (z:=(0:Int)) h4);omega
 · rw [getD_ge h4];decide
end
attribute [local irreducible] OkB OkF OkL OkN OkT
theorem Prove_ok(l:List Rs)(mo qu:Int)(w:Wr)(O1 O2:Oc){p:Int × Int}{e:Int}(hE:Ok prog 26 [rssC l,tiC mo qu,wrC w] (.tup [ocC O1,ocC O2,ivC p,intC e])):
  Ok prog 10 [rssC l,tiC mo qu,wrC w] (.tup [fracsC O1.dual,fracsC O2.dual,intC e]):=by
 obtain ⟨q1,⟨g1,m1,d1⟩,o1,y1,u1⟩:=O1;obtain ⟨q2,⟨g2,m2,d2⟩,o2,y2,u2⟩:=O2
 refine Ok.enter func10 J _ ntmps10 J ?_
 intro S w0;refine Qj 14 J (Qv (gT J) hE J (Qq 15 J (XY 8 0x800706230521040200 J ?_)));refine Qq 11 J ?_;refine Qw J J
theorem Check_ex(l:List Rs)(hl:l.length<=10000)(mo qu:Int)(w:Wr)(p:Int × Int)(lo up:List Fr){k:Nat}{V1 V2:Int}(h0:(rwO l mo qu).2.2=0)(hu:Up cmpW (vrO l).1)(hvl:(vrO l).1.length<=16)(hw:w∈(vrO l).1)(hk:posD (vrO l).1 w=k)
  (hp:(-10000<=p.1/\ p.1<=10000)/\ -10000<=p.2/\ p.2<=10000)
  (hC1:Ok prog 29 [intC (vrO l).1.length,rowsC (rwO l mo qu).1,intsC (unL (vrO l).1.length k 1),fracsC up] (.tup [intC V1,boolC true]))
  (hC2:Ok prog 29 [intC (vrO l).1.length,rowsC (rwO l mo qu).1,intsC (unL (vrO l).1.length k (-1)),fracsC lo] (.tup [intC V2,boolC true])):
  Ok prog 11 [rssC l,tiC mo qu,wrC w,ivC p,fracsC lo,fracsC up] (boolC (decide (V1<=p.2)&&decide (V2<= -p.1))):=by
 have hR:=DRows_ok l hl mo qu;have hV:=JJ l hl;have hS:=BSearch_ok (vrO l).1 w hu (by omega);have hkl:=((posD_at hu).1 hw).1;rw [hk] at hkl hS;rw [decide_eq_true hw] at hS;have hU1:=unit_ok (vrO l).1.length k hkl (by omega) 1;have hU2:=unit_ok (vrO l).1.length k hkl (by omega) (-1);rw [h0] at hR;clear hw hk h0;generalize (rwO l mo qu).1=rs at*;generalize (rwO l mo qu).2.1=is at hR;generalize (vrO l).2=ve at hV;generalize (vrO l).1=vs at*;obtain ⟨pl,ph⟩:=p;obtain ⟨⟨p1,p2⟩,p3,p4⟩:=hp;dsimp only at p1 p2 p3 p4 ⊢;generalize e:(decide (V1<=ph)&&decide (V2<= -pl))=R
 refine Ok.enter func11 J _ ntmps11 J ?_
 intro S w0;refine Qj 12 J (Qv (gT J) hR J (Qq 19 J (Ops.min2 J J J J (Qq 3 J (QQ 41 J (fun g1=>absurd (show min pl ph< -4503599627370496 from g1) (by omega)) (fun _=> ?_))))));refine Qq 4 J (Ops.max2 J J J J (Qq 4 J ?_));refine Qy J (fun g2=>absurd (show 4503599627370496<max pl ph from g2) (by omega)) (fun _=> ?_);refine Qj 5 J (Qv (gT J) hV J (Qq 11 J (Qv (gT J) hS J (Qq 20 J (QV sWrs.und J (Qq 2 J (QV sWrs.und J (Qq 1 J (Qv (gT J) hU1 J (Qq 1 J (Qv (gT J) hC1 J (Qq 10 J (QV sWrs.und J (Qq 2 J (QV sWrs.und J (Qq 1 J (Qv (gT J) hU2 J (Qq 1 J (Qv (gT J) hC2 J ?_)))))))))))))))))));clear hC1 hC2 hU1 hU2 hS hV hR;refine Qq 20 J (QQ 96 J (fun g3=> ?_) (fun g3=> ?_));rotate_left
 · rw [decide_eq_false g3,Bool.false_and] at e;subst e;refine Qq 10 J ?_;refine Qw J J
 rw [decide_eq_true g3,Bool.true_and] at e;subst e;refine QZ 10 J (by omega) ?_;refine Qw J J
end Go.Proofs.YtfimckpnnbibcaaGreat
namespace Go.Own
open Go.RowKit
variable {X : Ctx} {L : AL} {B : BL}
theorem Ops.nilRow{ops:Array Oper}{K:Act ->World ->Prop}{l:Pl}(dd i:Nat)(e n:Nat)(hd:look L dd=some (.ct (.ex (.slice none 0 0))))(hN:noN i L=true)(hB:bget B i=none)(h:Ops X ops l ((dd, .own i)::L) ((i, .row e n [])::B) K):Ops X ops l L B K:=Fin.nilRow dd i e n hd hN hB h
theorem addW(x y:Int):IBin .add .i64 x .i64 y (.int .i64 (IntKind.i64.wrap (x+y))):= .of fun _ _ _=>rfl
end Go.Own
namespace Go.Proofs.YtfimckpnnbibcaaGreat
open Go.Own Go.Proofs.Tryz
attribute [local irreducible] St Ops Go.Own.Fin Ok OkB OkN OkT OkL OkF wpR
instance : Inhabited Nt := ⟨⟨0, 0, 0, [], 0⟩⟩
abbrev nt0 : Nt := ⟨0, 0, 0, [], 0⟩
theorem nt_len(q:Nt):(ntCs q).length=5:=rfl
abbrev zNums : Value := .agg #[.int .i64 0, .int .i64 0, .int .i64 0, .int .i64 0, .int .i64 0, .int .i64 0, .int .i64 0, .int .i64 0, .int .i64 0, .int .i64 0, .int .i64 0, .int .i64 0, .int .i64 0, .int .i64 0, .int .i64 0, .int .i64 0]
theorem aNums:ArrT prog 119 3 16 1 zNums:=⟨underlying119,by kernel_rfl,by kernel_rfl⟩
theorem rss_snocD(l:List Rs)(r:Rs):rss (l++ [r])=rss l++rsCs r:=by rw [rss_app];simp [rss]
theorem nets_get{l:List Nt}(h:∀q∈l,NtIn q){i:Nat}(hi:i<l.length):NtIn (l.getD i nt0):=by
 rw [List.getD_eq_getElem?_getD,List.getElem?_eq_getElem hi];exact h _ (List.getElem_mem hi)
theorem mem_getG{α:Type}{P:α ->Prop}{xs:List α}{z:α}(h:∀y∈xs,P y){i:Nat}(hi:i<xs.length):P (xs.getD i z):=by
 rw [List.getD_eq_getElem?_getD,List.getElem?_eq_getElem hi];exact h _ (List.getElem_mem hi)
theorem mem_setG{α:Type}{P:α ->Prop}{xs:List α}{x:α}(h:∀y∈xs,P y)(hx:P x)(i:Nat):∀y∈xs.set i x,P y:=fun y hy=>by
 rcases List.mem_or_eq_of_mem_set hy with h1|h1
 · exact h y h1
 · rw [h1];exact hx
structure RSt where
  k : Int
  ns : List Nt
  tm : Int
  id : Int
  nu : List Int
  out : List Rs
  p : Nat
def drR (r : Rs) : Prop := okR r = true ∧ r.tt ≤ 4 ∧ r.bk - r.tm ≤ 40
structure ROk (most : Int) (s : RSt) : Prop where
  k0 : 0 ≤ s.k
  kl : s.out.length + s.k ≤ most
  n1 : 1 ≤ s.ns.length
  n2 : s.ns.length ≤ 2
  nt : ∀ q ∈ s.ns, NtIn q
  t0 : 0 ≤ s.tm
  t1 : s.tm + 100 * s.k ≤ 20000
  i0 : 0 ≤ s.id
  i1 : s.id + 10 * s.k ≤ 80000
  nl : s.nu.length = 16
  nb : ∀ x ∈ s.nu, 0 ≤ x ∧ x ≤ s.out.length
  ok : ∀ r ∈ s.out, drR r
  lt : ∀ r ∈ s.out, 0 ≤ r.va ∧ r.va < 2 ∧ r.nu < s.nu.getD r.va.toNat 0
  un : s.out.Pairwise fun a b => ¬ (a.va = b.va ∧ a.nu = b.nu)
theorem getD_set{α:Type}{l:List α}{i j:Nat}{x z:α}(h:i<l.length):(l.set i x).getD j z=if i=j then x else l.getD j z:=by
 rw [List.getD_eq_getElem?_getD,List.getD_eq_getElem?_getD,List.getElem?_set];split
 · rfl
 · rfl
theorem numbers{out:List Rs}{nu:List Int}{va:Int}{r:Rs}(hl:nu.length=16)(v0:0<=va)(v1:va<2)(h1:r.va=va)(h2:r.nu=nu.getD va.toNat 0)
  (lt:∀r∈out,0<=r.va/\ r.va<2/\ r.nu<nu.getD r.va.toNat 0) (un:out.Pairwise fun a b=>¬(a.va=b.va/\ a.nu=b.nu)):
  (∀x∈out++ [r],0<=x.va/\ x.va<2/\ x.nu<(nu.set va.toNat (nu.getD va.toNat 0+1)).getD x.va.toNat 0)/\ (out++ [r]).Pairwise fun a b=>¬(a.va=b.va/\ a.nu=b.nu):=by
 constructor
 · intro x hx;rw [getD_set (by omega)];rcases List.mem_append.1 hx with hx|hx
   · obtain ⟨a,b,c⟩:=lt x hx;refine ⟨a,b,?_⟩;by_cases e:va.toNat=x.va.toNat
     · rw [if_pos e,e];omega
     · rw [if_neg e];exact c
   · rw [List.mem_singleton] at hx;subst hx;rw [h1,if_pos J,h2];exact ⟨v0,v1,by omega⟩
 · rw [List.pairwise_append];refine ⟨un,List.pairwise_singleton _ _,fun a ha b hb h=> ?_⟩;rw [List.mem_singleton] at hb;subst hb;obtain ⟨_,_,c⟩:=lt a ha;rw [h.1,h1,h.2,h2] at c;exact Int.lt_irrefl _ c
theorem wrap64_small{n:Int}(h1:0<=n)(h2:n<4294967296):IntKind.i64.wrap n=n:=by
 simp [IntKind.wrap,IntKind.bits,IntKind.signed];omega
theorem okR_of{r:Rs}(h1:¬P1 r)(h2:¬P2 r)(h3:¬P3 r)(h4:¬P4 r)(h5:r.dst≠0)(h6:r.an=true ->r.fr≠0):okR r=true:=by
 have e:ckE r=0:=by unfold ckE;rw [if_neg h1,if_neg h2,if_neg h3,if_neg h4]
 have hv:∀a:Ad,a≠0 ->a.val≠0:=fun a h e=>h (_root_.Fin.ext e)
 unfold okR;rw [decide_eq_true e,decide_eq_true (hv _ h5)]
 cases h:r.an with
 |false=>rfl
 |true=>rw [decide_eq_true (hv _ (h6 h))];rfl
theorem okR_dead{va nu tm pr f tt bk:Int}{ds:Ad}(h1:0<=va/\ va<=15)(h2:0<=nu/\ nu<=999)(h3:0<=tm/\ tm<=bk/\ bk<=100000)(h4:0<=f/\ f<=1023)(h5:1<=tt/\ tt<=255)(hp:pr=17 \/pr=1 \/pr=6)(hd:ds≠0):
  okR ⟨va,0,nu,tm,ds,pr,f,tt,false,false,bk,0,0,0,0,0,0⟩=true:=by
 refine okR_of ?_ ?_ ?_ ?_ hd (fun h=>by cases h)
 · unfold P1;dsimp only;omega
 · unfold P2;dsimp only;omega
 · rintro ⟨_,h|h⟩
   · cases h
   · exact h J
 · rintro ⟨h,_⟩;cases h
theorem okR_live{va nu tm pr f tt bk ki id:Int}{ds a:Ad}{db:Bool}(h1:0<=va/\ va<=15)(h2:0<=nu/\ nu<=999)(h3:0<=tm/\ tm<=bk/\ bk<=100000)(h4:0<=f/\ f<=1023)(h5:1<=tt/\ tt<=255)(hp:pr=17 \/pr=1 \/pr=6)(hd:ds≠0)(ha:a≠0)(hk:1<=ki/\ ki<=5)(hi:0<=id/\ id<=65535):
  okR ⟨va,0,nu,tm,ds,pr,f,tt,true,db,bk,a,ki,0,60,id,1⟩=true:=by
 refine okR_of ?_ ?_ ?_ ?_ hd (fun _=>ha)
 · unfold P1;dsimp only;omega
 · unfold P2;dsimp only;omega
 · rintro ⟨h,_⟩;cases h
 · rintro ⟨_,h⟩;dsimp only at h;omega
end Go.Proofs.YtfimckpnnbibcaaGreat
namespace Go.Proofs.YtfimckpnnbibcaaGreat
open Go.Own Go.Proofs.Tryz
attribute [local irreducible] Go.Own.Fin Ok OkB OkF OkL OkN OkT Ops St wpR
theorem Results_ok2(bs:List Int)(p:Nat)(most:Int)(st:Bool)(h0:0<=most)(h1:most<=100)(hb:Bytes bs):OkB prog 19 109 (codes bs p) [intC most,boolC st] (fun q:List Rs × Nat=>(q.1.length:Int)<=most/\ (∀r∈q.1,drR r)/\ q.1.Pairwise fun a b=>¬(a.va=b.va/\ a.nu=b.nu)) (fun q=>rssC q.1) (fun q=>codes bs q.2):=by
 refine OkB.enter func19 J _ ntmps19 J ?_
 intro S w g;refine Qj 8 J (Xy (gT J) (scene_ok bs p hb) J J J J J (fun q hq=> ?_));obtain ⟨n1,p1⟩:=q;dsimp only at hq ⊢
 refine Ops.litE 1 (m:=1) (n:=5) (zv:=zNet) (cs:=nts [n1]) J J sNets (.agg (n:=5) J J J J .nil) (by decide) J J J ?_;refine Qq 7 J (Xy (gT J) (BoolB_ok bs p1 3 (by decide) (by decide) hb) J J J J J (fun q _=> ?_));obtain ⟨b1,p2⟩:=q;dsimp only;refine Qq 2 J ?_;refine X4 (α:=List Nt × Nat) (fun x=>1<=x.1.length/\ x.1.length<=2/\ ∀q∈x.1,NtIn q) (fun _=>[(0, .own 0),(1, .ct (intC most)),(2, .ct (boolC st)),(7, .own 1)]) (fun x=>[(1, .row 114 5 (nts x.1)),(0, .box 109 (codes bs x.2))]) (fun x hx=> ?_) (fun KK hN=> ?_);rotate_left
 · refine Xx J (fun _=> ?_) (fun _=> ?_)
   · refine Qj 3 J (Xy (gT J) (scene_ok bs p2 hb) J J J J J (fun q hq2=> ?_));obtain ⟨n2,p3⟩:=q;dsimp only at hq2 ⊢
     refine Zv (n:=5) J J sNets J J (by decide) J ?_;refine QJ 1 (nts [n1,n2]) J J J J sNets J J (by decide) (by decide) J J ?_;refine Qq 2 J ?_;exact Q7 hN ([n1,n2],p3) ⟨by simp,by simp,by simp [hq,hq2]⟩ (by exact Qx J)
   · refine Qj 1 J ?_
     exact Q7 hN ([n1],p2) ⟨by simp,by simp,by simp [hq]⟩ (by exact Qx J)
 clear hq;obtain ⟨ns0,p3⟩:=x;obtain ⟨hn1,hn2,hnt⟩:=hx;dsimp only at hn1 hn2 hnt ⊢;refine Qj 8 J (Ops.nilRow 8 2 62 17 J J J ?_);refine Xy goNext (NextA_ok bs p3 50 (by decide) (by decide) hb) J J J J J (fun q hq=> ?_);obtain ⟨at0,p4⟩:=q;dsimp only at hq ⊢;refine Qq 1 J (Xy goNext (NextA_ok bs p4 700 (by decide) (by decide) hb) J J J J J (fun q hq2=> ?_));obtain ⟨id0,p5⟩:=q;dsimp only at hq2 ⊢
 refine QZ 16 J (by omega) ?_;refine Xy goNext (NextA_ok bs p5 (most+1) (by omega) (by omega) hb) J J J J J (fun q hq3=> ?_);obtain ⟨k0,p6⟩:=q;dsimp only at hq3 ⊢;refine Qq 4 J ?_
 refine QY (α:=RSt) (ROk most)
  (fun x=>[(0, .own 0),(1, .ct (intC most)),(2, .ct (boolC st)),(7, .own 1),(8, .own 2),(9, .ct (intC x.tm)),(10, .ct (intC x.id)),(11, .own 3),(12, .ct (intC x.k))])
  (fun x=>[(3, .box 119 (ints x.nu)),(2, .row 62 17 (rss x.out)),(1, .row 114 5 (nts x.ns)),(0, .box 109 (codes bs x.p))])
  (fun x=>x.k.toNat) ⟨k0,ns0,at0,100*id0,List.replicate 16 0,[],p6⟩ ⟨hq3.1,by simp;omega,hn1,hn2,hnt,hq.1,by dsimp only;omega,by dsimp only;omega,by dsimp only;omega,rfl,by simp,by simp,by simp,List.Pairwise.nil⟩ (by exact Qx J) ?_
 rintro ⟨k,ns,tm,id,nu,out,q0⟩ ⟨hk0,hkl,hn1,hn2,hnt,ht0,ht1,hi0,hi1,hnl,hnb,hok,hlt9,hun⟩
 dsimp only at hk0 hkl hn1 hn2 hnt ht0 ht1 hi0 hi1 hnl hnb hok hlt9 hun ⊢;refine Qj 7 J ?_;refine Qy J (fun hk=> ?_) (fun hk=> ?_)
 · refine Qj 8 J (Yy _ J J J (by decide) (nts_len _) sNets.und J ?_);refine Xy goNext (NextA_ok bs q0 ns.length (by omega) (by omega) hb) J J J J J (fun q hq4=> ?_);obtain ⟨i,q1⟩:=q;dsimp only at hq4 ⊢;refine Qq 4 J ?_
   refine X4 (α:=List Nt × Nat) (fun x=>x.1.length=ns.length/\ ∀q∈x.1,NtIn q)
    (fun x=>[(0, .own 0),(1, .ct (intC most)),(2, .ct (boolC st)),(7, .own 1),(8, .own 2),(9, .ct (intC tm)),(10, .ct (intC id)),(11, .own 3),(12, .ct (intC k)),(13, .ct (intC i))])
    (fun x=>[(3, .box 119 (ints nu)),(2, .row 62 17 (rss out)),(1, .row 114 5 (nts x.1)),(0, .box 109 (codes bs x.2))]) (fun x hx=> ?_) (fun KK hN=> ?_)
   rotate_left
   · have hu:prog.underlying 114=_:=underlying114;refine Qj 5 J (Xk 48 (b:= !st) J (fun hs=> ?_) (fun hs=> ?_))
     · refine Qq 1 J (Xy (gT J) (BoolB_ok bs q1 12 (by decide) (by decide) hb) J J J J J (fun q _=> ?_));obtain ⟨b2,q2⟩:=q;dsimp only;refine Qq 3 J ?_;refine Xx J (fun _=> ?_) (fun _=> ?_)
       · refine Qj 4 J (Xy (gT J) (scene_ok bs q2 hb) J J J J J (fun q hq5=> ?_));obtain ⟨n2,q3⟩:=q;dsimp only at hq5 ⊢;refine Ops.fldV (off:=3) (cs:=ntCs n2) (c:=pthsC n2.ps) J J hu J J underlying112 J J J (Qf ns.length J J J (nts_len ns) J sNets (by omega) (by omega) J ?_);refine Ops.fldA J J fH1 J (stE1 (j:=i.toNat) (o:=3) (n:=5) ntCs nt0 ⟨(ns.getD i.toNat nt0).va,(ns.getD i.toNat nt0).ds,(ns.getD i.toNat nt0).pr,n2.ps,(ns.getD i.toNat nt0).la⟩ nt_len J J J J J (by omega) (by decide) J zPths ?_);refine Qz ?_
         have hi9:NtIn (ns.getD i.toNat nt0):=nets_get hnt (by omega);exact Q7 hN (ns.set i.toNat ⟨(ns.getD i.toNat nt0).va,(ns.getD i.toNat nt0).ds,(ns.getD i.toNat nt0).pr,n2.ps,(ns.getD i.toNat nt0).la⟩,q3) ⟨by simp,by refine mem_setG hnt ?_ _;exact ⟨hi9.v0,hi9.v1,hi9.d0,hi9.p0,hi9.a0,hq5.l0,hq5.l1,hq5.pl⟩⟩ (by exact Qx J)
       · refine Qj 1 J ?_
         exact Q7 hN (ns,q2) ⟨rfl,hnt⟩ (by exact Qx J)
     · refine Qq 7 J ?_;exact Q7 hN (ns,q1) ⟨rfl,hnt⟩ (by exact Qx J)
   obtain ⟨ns',q2⟩:=x;obtain ⟨hnl',hnt'⟩:=hx;dsimp only at hnl' hnt' ⊢;refine Qj 4 J (Qf ns'.length J J J (nts_len ns') J sNets (by omega) (by omega) J ?_);refine ldE ntCs nt0 nt_len J J J J J (by omega) lNet J ?_
   have hn9:NtIn (ns'.getD i.toNat nt0):=nets_get hnt' (by omega);generalize ns'.getD i.toNat nt0=n9 at hn9;obtain ⟨va,ds,pr,ps,la⟩:=n9;obtain ⟨v0,v1,d0,p0,a0,l0,l1,pl⟩:=hn9;dsimp only at v0 v1 d0 p0 a0 l0 l1 pl ⊢;have hnv:0<=nu.getD va.toNat 0/\ nu.getD va.toNat 0<=out.length:=mem_getG hnb (by omega);refine Qq 9 J (QV sPths.und J (Xy goNext (NextA_ok bs q2 ps.length (by omega) (by omega) hb) J J J J J (fun q hq5=> ?_)));obtain ⟨f,q3⟩:=q;dsimp only at hq5 ⊢;refine Qq 8 J (Ops.idxF J J J sPths (by omega) (pths_at (ps:=ps) (j:=f) (by omega) (by omega)) J ?_);refine Qq 1 J ?_
   have hp9:1<=(ps.getD f.toNat []).length/\ (ps.getD f.toNat []).length<=3:=mem_getG pl (by omega);generalize ps.getD f.toNat []=pp at hp9;refine Qq 7 J (Xy goNext (NextA_ok bs q3 40 (by decide) (by decide) hb) J J J J J (fun q hq6=> ?_));obtain ⟨dt,q4⟩:=q;dsimp only at hq6 ⊢
   refine QZ 6 J (by omega) ?_
   refine X4 (α:=Int × Nat) (fun x=>0<=x.1/\ x.1<=pp.length) (fun _=>[(0, .own 0),(1, .ct (intC most)),(2, .ct (boolC st)),(7, .own 1),(8, .own 2),(9, .ct (intC (tm+(1+dt)))),(10, .ct (intC id)),(11, .own 3),(12, .ct (intC k)),(14, .own 4),(16, .ct (adrsC pp)),(17, .own 5)])
    (fun x=>[(5, .box 62 [intC va,intC 0,intC (nu.getD va.toNat 0),intC (tm+(1+dt)),adrF ds,intC pr,intC f,intC (1+x.1),boolC false,boolC false,intC 0,adrF 0,intC 0,intC 0,intC 0,intC 0,intC 0]),(4, .box 114 [intC va,adrF ds,intC pr,pthsC ps,adrF la]),(3, .box 119 (ints nu)),(2, .row 62 17 (rss out)),(1, .row 114 5 (nts ns')),(0, .box 109 (codes bs x.2))]) (fun x hx=> ?_) (fun KK hN=> ?_)
   rotate_left
   · refine St.drawR mixed 24 (.p 0 (.p 1 (.p 3 (.p 4 (.p 8 (.p 9 (.p 10 (.p 12 (.p 13 (.p 15 (.p 16 (.p 17 (.p 18 (.p 19 (.f 2 (.f 5 (.p 6 (.f 7 (.f 11 (.f 14 (.fork 20 (.p 21 (.p 22 (.m 23 (.a 24 .done)))) 23 (.m 20 (.p 21 (.p 22 (.a 24 .done))))))))))))))))))))))))) (by kernel_rfl) (fun K hK=> ?_);refine Zb (Q2 2 J (Zb (Q2 2 J (Zb (Q2 2 J (Zb (Q2 2 J (Zb (Q2 2 J (Zb (Q2 2 J (Zb (Q2 2 J (Zb (Q2 2 J (Zb (Q2 2 J (Zb (Q2 2 J (Zb (Q2 2 J (Zb (Q2 2 J (Zb (QV sAdrs.und J (Qz (Zb (Zf 2 J (by omega) ?_))))))))))))))))))))))))))));refine Fin.rfA J J J J J lInt (Ya J) J (Fin.rfA J J J J J lInt (Ya J) J (Zb (Ops.idxO (j:=va) J J J J aNums (by omega) (by omega) J ?_)));refine Qz (Fin.rfA (c:=intC (nu.getD va.toNat 0)) J J J J (by rw [Nat.mul_one];exact XK (by omega)) lInt (Ya J) J ?_);refine Fin.rfA J J J J J lAddr (Ya J) J (Fin.rfA J J J J J lInt (Ya J) J (Fin.rfork ?_ ?_))
     · refine Fin.rmB J goNext (NextA_ok bs q4 (pp.length+1) (by omega) (by omega) hb) J J J J J (fun y hy0=> ?_);obtain ⟨t,q5⟩:=y;dsimp only at hy0 ⊢;refine Zb (Zf 2 J (by omega) ?_);refine Zb (Q2 2 J (Fin.rm (Q2 2 J (Fin.ra (Q2 2 J (Fin.rdone ?_))))));exact hK _ _ (Q7 hN (t,q5) ⟨hy0.1,by dsimp only;omega⟩ (by exact Qx J))
     · refine Fin.rm (Q2 2 J (Fin.rmB J goNext (NextA_ok bs q4 (pp.length+1) (by omega) (by omega) hb) J J J J J (fun y hy0=> ?_)));obtain ⟨t,q5⟩:=y;dsimp only at hy0 ⊢;refine Zb (Zf 2 J (by omega) ?_);refine Zb (Q2 2 J (Fin.ra (Q2 2 J (Fin.rdone ?_))));exact hK _ _ (Q7 hN (t,q5) ⟨hy0.1,by dsimp only;omega⟩ (by exact Qx J))
   obtain ⟨t,q5⟩:=x;obtain ⟨ht0,ht1⟩:=hx;dsimp only at ht0 ht1 ⊢;refine Qj 5 J (Ops.idxO (j:=va) J J J J aNums (by omega) (by omega) J ?_);refine QK J J J J (by rw [Nat.mul_one];exact XK (by omega)) lInt J ?_;refine Qh (addW _ _) J J J J (Ops.idxO (j:=va) J J J J aNums (by omega) (by omega) J ?_);refine Qa J J J J J zInt (by show va.toNat*1<(ints nu).length;rw [ints_length];omega) ?_
   simp only [Ent.setc,Zz,Nat.mul_one];refine Qq 3 J ?_;refine St.drawR mixed 10 (.p 0 (.p 2 (.p 6 (.f 1 (.f 3 (.p 4 (.p 5 (.m 7 (.p 8 (.p 9 (.a 10 .done))))))))))) (by kernel_rfl) (fun K hK=> ?_);refine Zb (Q2 2 J (Zb (Q2 2 J (Zb (Q2 2 J (Fin.rfA (c:=intC (tm+(1+dt))) J J J J J lInt (Ya J) J (Fin.rfA (c:=intC (1+t)) J J J J J lInt (Ya J) J (Zb (Zf 2 J (by omega) ?_)))))))));refine Zb (Zf 2 J (by omega) ?_);refine Fin.rmB J goNext (NextA_ok bs q5 4 (by decide) (by decide) hb) J J J J J (fun y hy0=> ?_);obtain ⟨dd,q6⟩:=y;dsimp only at hy0 ⊢;refine Zb (Zf 2 J (by omega) ?_);refine Zb (Q2 2 J (Fin.ra (Q2 2 J (Fin.rdone (hK _ _ ?_)))));clear hK K;generalize hbk:tm+(1+dt)+5*(1+t)+dd=bk;generalize hnu:nu.set va.toNat (IntKind.i64.wrap (nu.getD va.toNat 0+1))=nu2
   have hnl2:nu2.length=16:=by rw [<- hnu,List.length_set];exact hnl
   have hnb2:∀x∈nu2,0<=x/\ x<=((out.length+1:Nat):Int):=by
    rw [<- hnu,wrap64_small (by omega) (by omega)];exact mem_setG (fun y hy=>by have:=hnb y hy;omega) (by omega) _
   have hnum:=fun (r:Rs) (a:r.va=va) (b:r.nu=nu.getD va.toNat 0)=>numbers (r:=r) hnl v0 v1 a b hlt9 hun
   rw [wrap64_small (by omega) (by omega)] at hnu;rw [hnu] at hnum;clear hnu;refine Xs 5 J (Xy goNext (NextA_ok bs q6 5 (by decide) (by decide) hb) J J J J J (fun q hq7=> ?_));obtain ⟨di,q7⟩:=q;dsimp only at hq7 ⊢
   refine QZ 18 J (by omega) ?_;refine QV sAdrs.und J (Qq 3 J ?_)
   refine X4 (α:=Ad) (fun _=>True) (fun a=>[(0, .own 0),(1, .ct (intC most)),(2, .ct (boolC st)),(7, .own 1),(8, .own 2),(10, .ct (intC (id+(1+di)))),(11, .own 3),(12, .ct (intC k)),(17, .own 5),(16, .ct (adrsC pp)),(18, .ct (adrF a))])
    (fun _=>[(5, .box 62 [intC va,intC 0,intC (nu.getD va.toNat 0),intC (tm+(1+dt)),adrF ds,intC pr,intC f,intC (1+t),boolC false,boolC false,intC bk,adrF 0,intC 0,intC 0,intC 0,intC 0,intC 0]),(4, .box 114 [intC va,adrF ds,intC pr,pthsC ps,adrF la]),(3, .box 119 (ints nu2)),(2, .row 62 17 (rss out)),(1, .row 114 5 (nts ns')),(0, .box 109 (codes bs q7))]) (fun a _=> ?_) (fun KK hN=> ?_)
   rotate_left
   · refine Qy J (fun h7=> ?_) (fun h7=> ?_)
     · refine Xz 5 J (by omega) ?_;refine Q8 0 sAdrs J (by omega) ?_;refine Qq 3 J ?_;exact Q7 hN _ trivial (by exact Qx J)
     · refine Qj 1 J ?_
       exact Q7 hN la trivial (by exact Qx J)
   refine Qj 1 J ?_
   refine X4 (α:=Rs × Nat) (fun x=>x.1.bk=bk/\ drR x.1/\ x.1.va=va/\ x.1.nu=nu.getD va.toNat 0) (fun _=>[(0, .own 0),(1, .ct (intC most)),(2, .ct (boolC st)),(7, .own 1),(8, .own 2),(10, .ct (intC (id+(1+di)))),(11, .own 3),(12, .ct (intC k)),(17, .own 5)])
    (fun x=>[(5, .box 62 (rsCs x.1)),(4, .box 114 [intC va,adrF ds,intC pr,pthsC ps,adrF la]),(3, .box 119 (ints nu2)),(2, .row 62 17 (rss out)),(1, .row 114 5 (nts ns')),(0, .box 109 (codes bs x.2))]) (fun x hx=> ?_) (fun KK hN=> ?_)
   rotate_left
   · refine Qj 5 J (Xk 138 J (fun h8=> ?_) (fun h8=> ?_))
     · have ha:a≠0:=fun h=>of_decide_eq_true h8 (by rw [h];rfl)
       refine Qq 1 J (Xy (gT J) (BoolB_ok bs q7 5 (by decide) (by decide) hb) J J J J J (fun q _=> ?_));obtain ⟨b3,q8⟩:=q;dsimp only;refine Qq 4 J ?_;refine Xx J (fun _=> ?_) (fun _=> ?_)
       · refine Qj 3 J (Xy (gT J) (BoolB_ok bs q8 30 (by decide) (by decide) hb) J J J J J (fun q _=> ?_));obtain ⟨b4,q9⟩:=q;dsimp only;refine Qq 10 J (Qh (irem (p:=id+(1+di)) (by omega) (by omega)) J J J J ?_)
         have hidr:0<=(id+(1+di))%65536/\ (id+(1+di))%65536<=65535:=by omega
         generalize (id+(1+di))%65536=idr at hidr ⊢;refine Qq 2 J (Ops.stNA J J J J J (by exact szAns) (Nat.le_of_ble_eq_true J) ?_);refine Qq 3 J ?_
         refine X4 (α:=Int × Nat) (fun x=>1<=x.1/\ x.1<=5) (fun _=>[(0, .own 0),(1, .ct (intC most)),(2, .ct (boolC st)),(7, .own 1),(8, .own 2),(10, .ct (intC (id+(1+di)))),(11, .own 3),(12, .ct (intC k)),(17, .own 5),(16, .ct (adrsC pp))])
          (fun x=>[(5, .box 62 [intC va,intC 0,intC (nu.getD va.toNat 0),intC (tm+(1+dt)),adrF ds,intC pr,intC f,intC (1+t),boolC true,boolC b4,intC bk,adrF a,intC x.1,intC 0,intC 60,intC idr,intC 1]),(4, .box 114 [intC va,adrF ds,intC pr,pthsC ps,adrF la]),(3, .box 119 (ints nu2)),(2, .row 62 17 (rss out)),(1, .row 114 5 (nts ns')),(0, .box 109 (codes bs x.2))]) (fun x hki=> ?_) (fun KK2 hN2=> ?_)
         rotate_left
         · refine Qj 5 J (QV sAdrs.und J (Qq 3 J ?_));refine Qy J (fun h9=> ?_) (fun h9=> ?_)
           · refine Qj 2 J (Ops.litI [3,3,2] rfl rfl sInts J ⟨rfl,rfl,rfl,rfl,rfl,rfl,trivial⟩ (by decide) J ?_);refine Xy (gT J) (Pick_ok bs q9 [3,3,2] (by decide) (by decide) hb) J J J J J (fun q hq8=> ?_);obtain ⟨ki,q10⟩:=q
             have hki:1<=ki/\ ki<=5:=by simp only [List.mem_cons,List.not_mem_nil,or_false] at hq8;omega
             dsimp only;refine Qq 4 J ?_;exact Q7 hN2 (ki,q10) hki (by exact Qx J)
           · refine Qj 1 J ?_
             exact Q7 hN2 (1,q9) ⟨Int.le_refl _,by show (1:Int)<=5;decide⟩ (by exact Qx J)
         obtain ⟨ki,q10⟩:=x;dsimp only at hki ⊢;refine Qj 3 J (Xy (gT J) (BoolB_ok bs q10 5 (by decide) (by decide) hb) J J J J J (fun q _=> ?_));obtain ⟨b5,q11⟩:=q;dsimp only;refine Qq 2 J ?_;refine Xx J (fun _=> ?_) (fun _=> ?_)
         · refine Qj 2 J (Xy goNext (NextA_ok bs q11 65536 (by decide) (by decide) hb) J J J J J (fun q hq9=> ?_));obtain ⟨id2,q12⟩:=q;dsimp only at hq9 ⊢;refine Qq 4 J ?_;exact Q7 hN (⟨va,0,nu.getD va.toNat 0,tm+(1+dt),ds,pr,f,1+t,true,b4,bk,a,ki,0,60,id2,1⟩,q12) ⟨rfl,⟨okR_live ⟨v0,by omega⟩ ⟨hnv.1,by omega⟩ ⟨by omega,by omega,by omega⟩ ⟨by omega,by omega⟩ ⟨by omega,by omega⟩ p0 d0 ha hki ⟨hq9.1,by omega⟩,by dsimp only;omega,by dsimp only;omega⟩,rfl,rfl⟩ (by exact Qx J)
         · refine Qj 1 J ?_
           exact Q7 hN (⟨va,0,nu.getD va.toNat 0,tm+(1+dt),ds,pr,f,1+t,true,b4,bk,a,ki,0,60,idr,1⟩,q11) ⟨rfl,⟨okR_live ⟨v0,by omega⟩ ⟨hnv.1,by omega⟩ ⟨by omega,by omega,by omega⟩ ⟨by omega,by omega⟩ ⟨by omega,by omega⟩ p0 d0 ha hki hidr,by dsimp only;omega,by dsimp only;omega⟩,rfl,rfl⟩ (by exact Qx J)
       · refine Qj 1 J ?_
         exact Q7 hN (⟨va,0,nu.getD va.toNat 0,tm+(1+dt),ds,pr,f,1+t,false,false,bk,0,0,0,0,0,0⟩,q8) ⟨rfl,⟨okR_dead ⟨v0,by omega⟩ ⟨hnv.1,by omega⟩ ⟨by omega,by omega,by omega⟩ ⟨by omega,by omega⟩ ⟨by omega,by omega⟩ p0 d0,by dsimp only;omega,by dsimp only;omega⟩,rfl,rfl⟩ (by exact Qx J)
     · refine Qq 8 J ?_;exact Q7 hN (⟨va,0,nu.getD va.toNat 0,tm+(1+dt),ds,pr,f,1+t,false,false,bk,0,0,0,0,0,0⟩,q7) ⟨rfl,⟨okR_dead ⟨v0,by omega⟩ ⟨hnv.1,by omega⟩ ⟨by omega,by omega,by omega⟩ ⟨by omega,by omega⟩ ⟨by omega,by omega⟩ p0 d0,by dsimp only;omega,by dsimp only;omega⟩,rfl,rfl⟩ (by exact Qx J)
   obtain ⟨r,q8⟩:=x;obtain ⟨hx,hrk,hva9,hnu9⟩:=hx;dsimp only at hx hrk hva9 hnu9 ⊢;obtain ⟨hn1',hn2'⟩:=hnum r hva9 hnu9;refine Qj 10 J (Zv (n:=17) J J sRes J J (by decide) J ?_);refine QJ out.length (rss (out++ [r])) J J J J sRes (rss_len out) J (by omega) (by omega) (rss_snocD out r) J ?_;refine QZ 9 J (by omega) ?_;refine Qc 5 (Qc 4 (Qk ⟨k - 1,ns',r.bk,id+(1+di),nu2,out++ [r],q8⟩ (by dsimp only;omega) ⟨by dsimp only;omega,by simp;omega,by dsimp only;omega,by dsimp only;omega,hnt',by dsimp only;omega,by dsimp only;omega,by dsimp only;omega,by dsimp only;omega,hnl2,by dsimp only;rw [List.length_append];exact hnb2,mem_snocG hok hrk,hn1',hn2'⟩ (by exact Qx J)))
 · refine St.frz 2 _ J (rss_frozen _ _) (Jj J) (Qj 9 J ?_);refine Y6 (out,q0) [_] rfl (Q4 J Q3) J J ⟨by dsimp only;omega,hok,hun⟩
open Go.Limbs
attribute [local irreducible] OkM
theorem ones_rss:∀l:List Rs,ones (rss l)=true
 | []=>rfl
 |r::l=>by
  have:=ones_rss l
  show ones (rsCs r++rss l)=true
  simp only [rsCs,List.cons_append,List.nil_append,ones,CT.one,Value.oneCell',Bool.true_and,this]
theorem DConsistent_ok2(bs:List Int)(p:Nat)(most:Int)(h0:0<=most)(h1:most<=100)(hb:Bytes bs):OkB prog 6 109 (codes bs p) [intC most] (fun q:List Rs × Nat=>(q.1.length:Int)<=most/\ pwB q.1=true/\ (∀r∈q.1,drR r)/\ q.1.Pairwise fun a b=>¬(a.va=b.va/\ a.nu=b.nu)) (fun q=>rssC q.1) (fun q=>codes bs q.2):=by
 refine OkB.enter func6 J _ ntmps6 J ?_
 intro S w g;refine Qj 9 J (Xy (gT J) (Results_ok2 bs p most true h0 h1 hb) J J J J J (fun q hq=> ?_));obtain ⟨x,p1⟩:=q;dsimp only at hq ⊢;obtain ⟨hq,hokR,hunR⟩:=hq;refine Qq 15 J (Xo 6 2 62 17 J J J ?_)
 refine QY (α:=Nat × List Rs) (fun q=>q.1<=x.length/\ q.2.Sublist (x.take q.1)/\ (q.2≠ [] ->pwB q.2=true))
  (fun q=>[(0, .own 0),(5, .ct (rssC x)),(6, .own 2),(7, .ct (intC q.1))]) (fun q=>[(2, .row 62 17 (rss q.2)),(0, .box 109 (codes bs p1))])
  (fun q=>x.length - q.1) (0,[]) ⟨Nat.zero_le _,List.nil_sublist _,fun h=>absurd J h⟩ (by exact Qx J) ?_
 intro ⟨i,out⟩ ⟨hi,hsub,hco⟩
 try dsimp only at hi hsub hco ⊢
 refine Qj 5 J (QV sRes.und J (Qq 3 J ?_));refine Qy J (fun h=> ?_) (fun h=> ?_)
 · have e2:(i:Int).toNat=i:=Int.toNat_natCast i;have hsn:=take_snoc (z:=rs0) (l:=x) (i:=i) (by omega);have hol:=hsub.length_le;rw [List.length_take] at hol;generalize hc:x.getD i rs0=c at hsn;refine Qj 5 J ?_;refine Yx mixed [1,7] 0xa0a0a0a0a08048676146a0a0a0804867466145a0a0a080486746256104030200 J (by kernel_rfl) (fun K hK=> ?_);refine Xw 3 J (X7 (Q8 rs0 sRes J (by omega) ?_));rw [e2,hc];refine Qz (Q0 ?_ ?_)
   · refine Ops.appRow 5 out.length J J J J sRes (rss_len out) (ones_rss out) (by omega) (by omega) J J J ?_;refine Qz (Xw 1 J (Ql ?_ Qu));refine Zv (n:=17) J J sRes J J (by decide) J ?_;refine Qz (Q0 ?_ Qu);refine QJ out.length (rss (out++ [c])) J J J J sRes (rss_len out) J (by omega) (by omega) (rss_snoc out c) J ?_;refine Ops.frz 5 _ J (rss_frozen _ _) (Jj J) (Qz (Ql ?_ Qu));refine Qv (gT J) (rConsistent_ok (out++ [c]) (by rw [List.length_append,List.length_singleton];omega)) J ?_;refine Qz (Qb (hK _ _ (Xs 1 J (Xx J (fun h2=> ?_) (fun h2=> ?_)))))
     · refine Qj 4 J (Q8 rs0 sRes J (by omega) ?_);rw [e2,hc];refine Qq 1 J (Zv (n:=17) J J sRes J J (by decide) J ?_);refine QJ out.length (rss (out++ [c])) J J J J sRes (rss_len out) J (by omega) (by omega) (rss_snoc out c) J ?_;refine QZ 9 J (by omega) ?_;refine Qk (i+1,out++ [c]) (by dsimp only;omega) ⟨by dsimp only;omega,by rw [hsn];exact hsub.append (List.Sublist.refl _),fun _=>h2⟩ (by exact Qx J)
     · refine Xz 8 J (by omega) ?_;refine Qk (i+1,out) (by dsimp only;omega) ⟨by dsimp only;omega,by rw [hsn];exact hsub.trans (List.sublist_append_left _ _),hco⟩ (by exact Qx J)
   refine Xw 1 J (Q0 ?_ ?_)
   · refine Ops.appRow 5 out.length J J J J sRes (rss_len out) (ones_rss out) (by omega) (by omega) J J J ?_;refine Qz (Ql ?_ Qu);refine Zv (n:=17) J J sRes J J (by decide) J ?_;refine Qz (Q0 ?_ Qu);refine QJ out.length (rss (out++ [c])) J J J J sRes (rss_len out) J (by omega) (by omega) (rss_snoc out c) J ?_;refine Ops.frz 5 _ J (rss_frozen _ _) (Jj J) (Qz (Ql ?_ Qu));refine Qv (gT J) (rConsistent_ok (out++ [c]) (by rw [List.length_append,List.length_singleton];omega)) J ?_;refine Qz (Qb (hK _ _ (Xs 1 J (Xx J (fun h2=> ?_) (fun h2=> ?_)))))
     · refine Qj 4 J (Q8 rs0 sRes J (by omega) ?_);rw [e2,hc];refine Qq 1 J (Zv (n:=17) J J sRes J J (by decide) J ?_);refine QJ out.length (rss (out++ [c])) J J J J sRes (rss_len out) J (by omega) (by omega) (rss_snoc out c) J ?_;refine QZ 9 J (by omega) ?_;refine Qk (i+1,out++ [c]) (by dsimp only;omega) ⟨by dsimp only;omega,by rw [hsn];exact hsub.append (List.Sublist.refl _),fun _=>h2⟩ (by exact Qx J)
     · refine Xz 8 J (by omega) ?_;refine Qk (i+1,out) (by dsimp only;omega) ⟨by dsimp only;omega,by rw [hsn];exact hsub.trans (List.sublist_append_left _ _),hco⟩ (by exact Qx J)
   refine Fin.qm1 (Zv (n:=17) J J sRes J J (by decide) J ?_);refine Qz (Q0 ?_ Qu);refine Ops.appRow 5 out.length J J J J sRes (rss_len out) (ones_rss out) (by omega) (by omega) J J J ?_;refine Qz (Q0 ?_ Qu);refine QJ out.length (rss (out++ [c])) J J J J sRes (rss_len out) J (by omega) (by omega) (rss_snoc out c) J ?_;refine Ops.frz 5 _ J (rss_frozen _ _) (Jj J) (Qz (Ql ?_ Qu));refine Qv (gT J) (rConsistent_ok (out++ [c]) (by rw [List.length_append,List.length_singleton];omega)) J ?_;refine Qz (Qb (hK _ _ (Xs 1 J (Xx J (fun h2=> ?_) (fun h2=> ?_)))))
   · refine Qj 4 J (Q8 rs0 sRes J (by omega) ?_);rw [e2,hc];refine Qq 1 J (Zv (n:=17) J J sRes J J (by decide) J ?_);refine QJ out.length (rss (out++ [c])) J J J J sRes (rss_len out) J (by omega) (by omega) (rss_snoc out c) J ?_;refine QZ 9 J (by omega) ?_;refine Qk (i+1,out++ [c]) (by dsimp only;omega) ⟨by dsimp only;omega,by rw [hsn];exact hsub.append (List.Sublist.refl _),fun _=>h2⟩ (by exact Qx J)
   · refine Xz 8 J (by omega) ?_;refine Qk (i+1,out) (by dsimp only;omega) ⟨by dsimp only;omega,by rw [hsn];exact hsub.trans (List.sublist_append_left _ _),hco⟩ (by exact Qx J)
 · have hi' :i=x.length:=by omega
   have hol:=hsub.length_le;rw [List.length_take] at hol;refine Qj 9 J (Fin.frz 2 _ J (rss_frozen _ _) (Jj J) (Y6 (out,p1) [_] rfl (Q4 J Q3) J J ⟨by dsimp only;omega,?_,fun r hr=>hokR r (List.mem_of_mem_take (hsub.subset hr)),hunR.sublist (hsub.trans (List.take_sublist _ _))⟩));by_cases ho:out=[]
   · subst ho;exact decide_eq_true fun k h=>absurd h (Nat.not_lt_zero _)
   · exact hco ho
theorem zvTi:(prog.info? 29).map (·.zero)=some (some (.agg #[.int .i64 0, .int .i64 0])):=by kernel_rfl
theorem Timing_ok(bs:List Int)(p:Nat)(hb:Bytes bs):OkB prog 7 109 (codes bs p) [] (fun q:(Int × Int) × Nat=>(0<=q.1.1/\ q.1.1<=1000)/\ 0<=q.1.2/\ q.1.2<=1000) (fun q=>tiC q.1.1 q.1.2) (fun q=>codes bs q.2):=by
 refine OkB.enter func7 J _ ntmps7 J ?_
 intro S w g;refine Qj 8 J (Ops.litI [1000,30,10,0] rfl rfl sInts J ⟨rfl,rfl,rfl,rfl,rfl,rfl,rfl,rfl,trivial⟩ (by decide) J ?_);refine Xy (gT J) (Pick_ok bs p [1000,30,10,0] (by decide) (by decide) hb) J J J J J (fun q hq=> ?_);obtain ⟨mo,p1⟩:=q;dsimp only at hq ⊢;refine Qq 1 J (Ops.litI [3,3,10,0,1000] rfl rfl sInts J ⟨rfl,rfl,rfl,rfl,rfl,rfl,rfl,rfl,rfl,rfl,trivial⟩ (by decide) J ?_);refine Xy (gT J) (Pick_ok bs p1 [3,3,10,0,1000] (by decide) (by decide) hb) J J J J J (fun q hq2=> ?_);obtain ⟨qu,p2⟩:=q;dsimp only at hq2 ⊢;refine Qq 5 J (Y6 ((mo,qu),p2) [_] rfl (Qi J J lTi J Q3) J J ?_)
 simp at hq hq2;dsimp only;omega
open Go.Det
theorem reply_ok(n t T:Int)(h1:0<=n/\ n<=1000)(h2:0<=T/\ T<=1000000):Ok prog 14 [intC n,intC t,intC T,adrF (adN t)] (rsC (rpY n t T)):=by
 refine Ok.enter func14 J _ ntmps14 J ?_
 intro S w;refine Xz 22 J (by omega) ?_;refine Qw J J
theorem eIv:EqS prog 44 [.i64, .i64]:=⟨by kernel_rfl,by kernel_rfl,by kernel_rfl,by kernel_rfl⟩
section
variable {X : Ctx} {L : AL} {B : BL} {ops : Array Oper} {K : Act → World → Prop} {r : Pl} {k : Kd}
  {x y z : Operand} {d : Nat} {t t2 t' : TypeId} {pos : String} {af : Array Edge} {g : Option (Nat × Bool)}
theorem eqIvT(p:Int × Int)(hg:gd ops L g=some true)(hx:ev L x=some (.ct (.agg (ivCs p))))(hy:ev L y=some (.ct (.agg (ivCs p))))(hP:X.P=prog)(hn:Nat.blt d X.n=true)
  (h:Ops X ops r ((d, .ct (boolC true))::L) B K):Ops X ops (.cons ⟨some d, .binOp .eql 44 x y t2,t',pos,af,g⟩ k r) L B K:=
 Ops.eqS (ks:=[.i64, .i64]) [p.1,p.2] [p.1,p.2] hg hx hy rfl rfl (hP▸eIv) hn (by rw [decide_eq_true rfl];exact h)
end
abbrev exR : List Rw := [⟨[1, 0], 100⟩, ⟨[0, 1], 100⟩, ⟨[1, 0], 10⟩, ⟨[-1, 0], -8⟩, ⟨[1, 1], 25⟩, ⟨[-1, -1], -23⟩]
theorem ex_sd:sd cmpR ([rpY 0 1 10,rpY 1 2 25].filter okR)=[rpY 0 1 10,rpY 1 2 25]:=by
 rw [show [rpY 0 1 10,rpY 1 2 25].filter okR=[rpY 0 1 10,rpY 1 2 25] by kernel_rfl];exact sd_eq ordR (by unfold Up;decide)
theorem ex_ms:msF [rpY 0 1 10,rpY 1 2 25]=[(rpY 0 1 10,[(0,1)]),(rpY 1 2 25,[(0,1),(1,2)])]:=by
 unfold msF mesB meF paF ofF;simp only [ex_sd]
 kernel_rfl
theorem ex_vr:vrO [rpY 0 1 10,rpY 1 2 25]=([(0,1),(1,2)],0):=by
 have e:vrF [rpY 0 1 10,rpY 1 2 25]=[(0,1),(1,2)]:=by
  unfold vrF;rw [ex_ms]
  exact Up.ext ordW (Yt ordW _).1 (by unfold Up;decide) fun w=>by rw [(Yt ordW _).2];simp [wsA]
 have c:chkF [rpY 0 1 10,rpY 1 2 25]=0:=by
  unfold chkF consB;rw [ex_sd]
  kernel_rfl
 unfold vrO;rw [c,e];rfl
theorem ex_rw:∃is,rwO [rpY 0 1 10,rpY 1 2 25] 100 2=(exR,is,0):=by
 unfold rwO;rw [ex_vr,ex_ms];exact ⟨[idOf (rpY 0 1 10),idOf (rpY 1 2 25)],by kernel_rfl⟩
theorem ex_sol{k:Nat}{f v:Int}(X Y:Nat ->Int){O:Oc}(h:Sol 2 exR (unL 2 k f) O)(hX:Feas 2 exR 1 X)(hY:Dual 2 exR (unL 2 k f) 1 Y)(e1:rsum 2 (unL 2 k f) X=v)(e2:sm (fun i=>cb exR i*Y i) exR.length=v)(hv: -1000<=v/\ v<=1000):OcF O/\ flV O.value=v:=by
 obtain ⟨a,b⟩:=sol_btw h (by decide) hX hY;rw [e1,e2] at b;have l:=sol_len h (by decide);have:=flV_btw b (by omega) (by omega);exact ⟨⟨a,l.1,l.2.1,l.2.2 a⟩,by omega⟩
theorem ex_iv(k:Nat)(hk:k<2){p:Int × Int}{w:Wr}(hw:w∈ [(0,1),((1,2):Wr)])(hp:posD [(0,1),(1,2)] w=k)(h1:∀O,Sol 2 exR (unL 2 k (-1)) O ->OcF O/\ flV O.value= -p.1)(h2:∀O,Sol 2 exR (unL 2 k 1) O ->OcF O/\ flV O.value=p.2)(hle:p.1<=p.2):
  Ok prog 15 [rssC [rpY 0 1 10,rpY 1 2 25],tiC 100 2,wrC w] (.tup [ivC p,intC 0]):=by
 have hv:validR (2:Nat) exR=true:=by decide
 obtain ⟨O1,s1,k1⟩:=Solve_any hv (unL_ok hk (f:= -1) (.inr rfl));obtain ⟨O2,s2,k2⟩:=Solve_any hv (unL_ok hk (f:=1) (.inl rfl));obtain ⟨z1,e1⟩:=h1 O1 s1;obtain ⟨z2,e2⟩:=h2 O2 s2;have hB:=bounds_fine 2 k hk (by decide) exR O1 O2 k1 k2 z1 z2 (by omega);rw [e1,e2,Int.neg_neg] at hB;obtain ⟨is,er⟩:=ex_rw;exact Interval_fine _ _ _ _ (ends_fine _ (by decide) _ _ _ (by rw [er]) (by rw [ex_vr];exact hw) (by rw [ex_vr];unfold Up;decide) (by rw [ex_vr];decide) (by rw [er,ex_vr,hp];exact hB))
theorem DAwake_ok:Ok prog 4 [] (boolC true):=by
 have hr1:Ok prog 14 [intC 0,intC 1,intC 10, .ex (.int .u32 1)] (rsC (rpY 0 1 10)):=reply_ok 0 1 10 (by decide) (by decide);have hr2:Ok prog 14 [intC 1,intC 2,intC 25, .ex (.int .u32 2)] (rsC (rpY 1 2 25)):=reply_ok 1 2 25 (by decide) (by decide)
 have hI1:=ex_iv 0 (by decide) (p:=(8,10)) (w:=(0,1)) (by decide) (by decide)
  (fun O h=>ex_sol (fun v=>[8,16].getD v 0) (fun i=>if i=3 then 1 else 0) h ⟨by decide,by decide,by decide⟩ ⟨by decide,by decide,by decide⟩ (by decide) (by decide) (by decide))
  (fun O h=>ex_sol (fun v=>[10,14].getD v 0) (fun i=>if i=2 then 1 else 0) h ⟨by decide,by decide,by decide⟩ ⟨by decide,by decide,by decide⟩ (by decide) (by decide) (by decide)) (by decide)
 have hI2:=ex_iv 1 (by decide) (p:=(13,17)) (w:=(1,2)) (by decide) (by decide)
  (fun O h=>ex_sol (fun v=>[10,13].getD v 0) (fun i=>if i=2 \/i=5 then 1 else 0) h ⟨by decide,by decide,by decide⟩ ⟨by decide,by decide,by decide⟩ (by decide) (by decide) (by decide))
  (fun O h=>ex_sol (fun v=>[8,17].getD v 0) (fun i=>if i=3 \/i=4 then 1 else 0) h ⟨by decide,by decide,by decide⟩ ⟨by decide,by decide,by decide⟩ (by decide) (by decide) (by decide)) (by decide)
 have hV:=JJ [rpY 0 1 10,rpY 1 2 25] (by decide);rw [ex_vr] at hV;have hVl:([(0,1),(1,2)]:List Wr).length=2:=rfl;dsimp only at hV;generalize ([(0,1),(1,2)]:List Wr)=vs at hV hVl;have hD:=DValid_ok 100 2;rw [show tiB 100 2=true by decide] at hD;have hl:CT.fr (sliceT 17 [rsCs (rpY 0 1 10),rsCs (rpY 1 2 25)])=rssC [rpY 0 1 10,rpY 1 2 25]:=rfl;rw [<- hl] at hI1 hI2 hV
 refine Ok.enter func4 J _ ntmps4 J ?_
 intro S w;refine Qj 7 J (Qv (gT J) hr1 J (Qv (gT J) hr2 J (Ops.lit (m:=2) (n:=17) (cs:=rsCs (rpY 0 1 10)++rsCs (rpY 1 2 25)) J J sRes (.agg J J J J (.agg J J J J .nil)) (by decide) J ?_)));refine Qq 15 J (Qv (gT J) hI1 J (Qq 13 J (Qv (gT J) hI2 J (Qq 11 J (Qv (gT J) hV J (Qq 13 J (Yf J bIv J (.one J J J J (.one J J J J .nil)) J (eqIvT (8,10) J J J J J (Y0 J J J J (Qg J J J (Qg J J J (Qh ieql J J J J (Y0 J J J J (Qg J J J (Xb (n:=2) J J J J J lIv J (Yf J bIv J (.one J J J J (.one J J J J .nil)) J (eqIvT (13,17) J J J J J (Y0 J J J J (Qg J J J (Qg J J J (Qh ieql J J J J (Y0 J J J J (Qg J J J (Qg J J J (Ops.lenF J J sWrs.und (List.length_map ..) J (Qh ieql J J J J (Y0 J J J J (Qg J J J (QQ 57 J (fun _=> ?_) (fun g=>absurd (by show ((vs.length:Nat):Int)=2;omega) g))))))))))))))))))))))))))))));refine Qq 1 J (Qv (gT J) hD J (Qq 5 J ?_));refine Qw J J
end Go.Proofs.YtfimckpnnbibcaaGreat
namespace Go.Det
variable {A : Nat → Vec} {V : Vec → Prop} {M : Nat} {bs : List Nat}
def rq (A : Nat → Vec) (bs : List Nat) (i : Nat) (x : Vec) : Rat := ((dT A bs i x : Int) : Rat) / ((dD A bs : Int) : Rat)
theorem ratc_ne{z:Int}(h:z≠0):(z:Rat)≠0:=fun e=>h (Rat.intCast_inj.1 e)
theorem rq_ne{r:Nat}{x:Vec}(h:rq A bs r x≠0):dT A bs r x≠0:=fun e=>h (by unfold rq;rw [e];exact Rat.zero_mul _)
theorem rq_piv_r(hne:dD A bs≠0){r s:Nat}(hp:rq A bs r (A s)≠0)(x:Vec):rq A (bs.set r s) r x=rq A bs r x/rq A bs r (A s):=by
 have h1:=ratc_ne hne;have h2:=ratc_ne (rq_ne hp);unfold rq;rw [piv_D,piv_r];generalize ((dD A bs:Int):Rat)=d at*;generalize ((dT A bs r (A s):Int):Rat)=p at*;generalize ((dT A bs r x:Int):Rat)=y at*
 grind
theorem Bas.rq_piv_i(h:Bas A V M bs){r s i:Nat}(hr:r<M)(hi:i<M)(hir:i≠r){x:Vec}(hx:V x)(hp:rq A bs r (A s)≠0):
  rq A (bs.set r s) i x=rq A bs i x - rq A bs i (A s)*(rq A bs r x/rq A bs r (A s)):=by
 have h1:=ratc_ne h.ne;have h2:=ratc_ne (rq_ne hp);have h3:=h.piv_i (s:=s) hr hi hir hx
 have h4:((dD A bs:Int):Rat)*((dT A (bs.set r s) i x:Int):Rat)=((dT A bs r (A s):Int):Rat)*((dT A bs i x:Int):Rat) - ((dT A bs r x:Int):Rat)*((dT A bs i (A s):Int):Rat):=by
  rw [<- Rat.intCast_mul,<- Rat.intCast_mul,<- Rat.intCast_mul,<- Rat.intCast_sub,h3]
 unfold rq;rw [piv_D];generalize ((dD A bs:Int):Rat)=d at*;generalize ((dT A bs r (A s):Int):Rat)=p at*;generalize ((dT A bs r x:Int):Rat)=y at*;generalize ((dT A bs i x:Int):Rat)=z at*;generalize ((dT A bs i (A s):Int):Rat)=u at*;generalize ((dT A (bs.set r s) i x:Int):Rat)=v at*
 grind
end Go.Det
namespace Go.Proofs.YtfimckpnnbibcaaGreat
open Go.Own Go.Limbs Go.Det Go.Proofs.Tryz
theorem rq_shq{A:Nat ->Vec}{bs:List Nat}{i:Nat}{x:Vec}(hne:dD A bs≠0):rq A bs i x=shq (tt A bs i x) (Go.Det.den A bs):=by
 have hd:=den_pos hne
 have e:shq (tt A bs i x) (Go.Det.den A bs)=((tt A bs i x:Int):Rat)/((Go.Det.den A bs:Int):Rat):=by
  unfold shq;rw [Rat.mkRat_eq_div,show ((Go.Det.den A bs).natAbs:Rat)=(((Go.Det.den A bs).natAbs:Int):Rat) from rfl,show (((Go.Det.den A bs).natAbs:Nat):Int)=Go.Det.den A bs by omega]
 rw [e];unfold rq tt Go.Det.den;rw [Rat.intCast_mul,Rat.intCast_mul];have h1:=ratc_ne hne;have h2:(((dD A bs).sign:Int):Rat)≠0:=ratc_ne (fun e=>by have:=sgn_sq hne;rw [e] at this;simp at this);generalize ((dD A bs:Int):Rat)=d at*;generalize (((dD A bs).sign:Int):Rat)=s at*;generalize ((dT A bs i x:Int):Rat)=y at*
 grind
end Go.Proofs.YtfimckpnnbibcaaGreat
namespace Go.Proofs.YtfimckpnnbibcaaGreat
open Go.Limbs Go.Own Go.Proofs.Tryz
attribute [local irreducible] Go.Own.Fin Ok Ops St
structure Q9 (q : Rat) : Prop where
  n : (limbs (ofQ q).num).length ≤ 9
  d : (limbs (ofQ q).den).length ≤ 9
theorem mul_lens(p q:Rat):(limbs (ofQ (p*q)).num).length<=(limbs (ofQ p).num).length+(limbs (ofQ q).num).length/\ (limbs (ofQ (p*q)).den).length<=(limbs (ofQ p).den).length+(limbs (ofQ q).den).length:=by
 have h:=redF_mul (ofQ p) (ofQ q) (Zj p) (Zj q);rw [Ym,Ym] at h;rw [<- h];have h2:=redF_den ((ofQ p).neg !=(ofQ q).neg) ((ofQ p).num*(ofQ q).num) ((ofQ p).den*(ofQ q).den) (Nat.mul_pos (Zj p) (Zj q));exact ⟨div_len XZ,Nat.le_trans (Qm h2.2) XZ⟩
theorem q_zero{q:Rat}(h:(limbs (ofQ q).num).length=0):q=0:=by
 have h1:=limbs_len_pos (n:=(ofQ q).num)
 refine Rat.num_eq_zero.1 ?_
 have:(ofQ q).num=q.num.natAbs:=rfl;omega
theorem frR_rats(e:Nat)(qs:List Rat):(Ent.row e 3 (frR (qs.map some))).frozen (.fr (sliceT 3 (qs.map fun q=>frCs (ofQ q)))):=
 ⟨_,by unfold frR;simp only [List.map_map];rfl,fun x hx=>by obtain ⟨f,_,rfl⟩:=List.mem_map.1 hx;rfl,by decide,rfl⟩
def upO (v : Nat → Rat) (n i : Nat) : List (Option Rat) := (List.range n).map fun j => if j < i then some (v j) else none
theorem JV(v:Nat ->Rat)(n i:Nat):(upO v n i).length=n:=by simp [upO]
theorem upO_zero(v:Nat ->Rat)(n:Nat):upO v n 0=List.replicate n none:=by
 unfold upO
 apply List.ext_getElem?
 intro j;simp [List.getElem?_map,List.getElem?_replicate]
 split <;>simp_all
theorem upO_set(v:Nat ->Rat){n i:Nat}(h:i<n):(upO v n i).set i (some (v i))=upO v n (i+1):=by
 unfold upO
 apply List.ext_getElem?
 intro j;rw [List.getElem?_set];by_cases hj:i=j
 · subst hj;simp [h]
 · rw [if_neg hj];simp only [List.getElem?_map]
   cases e:(List.range n)[j]? with
   |none=>rfl
   |some x=>
    obtain ⟨h1,h2⟩:=List.getElem?_eq_some_iff.1 e;simp at h2;subst h2;simp only [Option.map_some]
    congr 1
    by_cases h3:j<i
    · rw [if_pos h3,if_pos (by omega)]
    · rw [if_neg h3,if_neg (by omega)]
theorem upO_done(v:Nat ->Rat)(n:Nat):upO v n n=((List.range n).map v).map some:=by
 unfold upO;rw [List.map_map]
 exact List.map_congr_left fun j hj=>by rw [if_pos (List.mem_range.1 hj)];rfl
def lessV (a : List Rat) (k : Rat) (b : List Rat) (j : Nat) : Rat := a.getD j 0 - k * b.getD j 0
theorem less34_ok(a b:List Rat)(k:Rat)(hl:b.length=a.length)(h1000:a.length<=1000)(ha:∀q∈a,Q9 q)(hb:∀q∈b,Q9 q)(hk:Q9 k):
  Ok prog 68 [ratsC a,ratC k,ratsC b] (ratsC ((List.range a.length).map (lessV a k b))):=by
 refine Ok.enter func68 J _ ntmps68 J ?_
 intro S w;refine Qj 9 J (QV sFracs.und J (ZV 1 a.length J J J J sFracs (by omega) (by omega) J J J ?_));rw [frR_made,<- upO_zero (lessV a k b)];refine Qq 10 J ?_
 refine QY (α:=Nat) (fun i=>i<=a.length)
  (fun i=>[(0, .ct (ratsC a)),(2, .ct (ratsC b)),(4, .own 0),(7, .own 1),(8, .ct (intC i))])
  (fun i=>[(1, .row 54 3 (frR (upO (lessV a k b) a.length i))),(0, .box 54 (frCs (ofQ k)))]) (fun i=>a.length - i) 0 (Nat.zero_le _) (by exact Qx J) ?_
 intro i hi
 (try dsimp only at hi ⊢)
 refine Qj 5 J (QV sFracs.und J (Qq 3 J ?_));refine Qy J (fun h=> ?_) (fun h=> ?_)
 · have e2:(i:Int).toNat=i:=Int.toNat_natCast i
   have hlt:i<a.length:=by omega
   have qa:=ha _ (XX (z:=(0:Rat)) hlt);have qb:=hb _ (XX (z:=(0:Rat)) (show i<b.length by omega));have eset:=upO_set (lessV a k b) hlt;have ev:lessV a k b i=a.getD i 0 - k*b.getD i 0:=rfl;rw [ev] at eset
   have hidx:(frR (upO (lessV a k b) a.length i)).length=a.length*3:=by rw [Xn,JV]
   refine Qj 9 J (Q8 0 sFracs J (by omega) ?_);refine Qq 2 J (QV sNat.und J (Qq 3 J ?_));rw [e2];refine Qy J (fun h0=> ?_) (fun h0=> ?_)
   · have hz:b.getD i 0=0:=q_zero (by omega);rw [hz,Rat.mul_zero,Rat.sub_eq_add_neg,Rat.neg_zero,Rat.add_zero] at eset;refine Qj 6 J (Q8 0 sFracs J (by omega) ?_);refine Qq 1 J ?_
     rw [e2]
     refine Qf a.length J J J hidx J sFracs (by omega) (by omega) J ?_
     rw [e2]
     refine stFr J J J J (by rw [JV];exact hlt) Zs ?_
     rw [eset];refine QZ 10 J (by omega) ?_;refine Qk (i+1) (by omega) (by omega) (by exact Qx J)
   · have ml:=mul_lens k (b.getD i 0);have kn:=hk.n;have kd:=hk.d;have bn:=qb.n;have bd:=qb.d;have an:=qa.n;have ad:=qa.d;have hM:=rFMul_gen (ofQ k) (ofQ (b.getD i 0)) (by omega) (by omega) (Zj _) (Zj _);rw [Ym,Ym] at hM;have hS:=rFSub_q (a.getD i 0) (k*b.getD i 0) (by omega) (by omega) (by omega) (by omega);refine Qj 3 J ?_;refine YU mixed 10 0x800b6a08070645800b6a4908070609c52420030201 J (by kernel_rfl) (fun K hK=> ?_);refine (fun (cont:Go.Own.Fin _ [(0, .ct (ratsC a)),(2, .ct (ratsC b)),(4, .own 0),(7, .own 1),(8, .ct (intC i)),(9, .own 2)] [(2, .box 54 (frCs (ofQ (k*b.getD i 0)))),(1, .row 54 3 (frR (upO (lessV a k b) a.length i))),(0, .box 54 (frCs (ofQ k)))] K)=> ?_) (hK _ _ ?_);rotate_left
     · clear hK K;refine Xs 1 J (XY 12 0x806c0b0a09084726250403020100 J ?_);refine Qq 4 J (Q8 0 sFracs J (by omega) ?_);refine Qq 2 J ?_;rw [e2];refine Qv (gT J) hS J (Qq 3 J (Qf a.length J J J hidx J sFracs (by omega) (by omega) J ?_));rw [e2]
       refine stFr J J J J (by rw [JV];exact hlt) Zs ?_
       rw [eset];refine QZ 8 J (by omega) ?_;refine Qc 2 (Qk (i+1) (by omega) (by omega) (by exact Qx J))
     clear hK;refine Q2 2 J (Q8 0 sFracs J (by omega) ?_);refine Q2 2 J ?_;rw [e2]
     refine Zm ?_ ?_
     · refine Qv (gT J) hM J (Q2 6 J ?_);exact Qz (ZW cont ⟨rfl,rfl,rfl,rfl,rfl,rfl,trivial⟩)
     · refine Q2 1 J (Qv (gT J) hM J (Q2 5 J ?_));exact Qz (ZW cont ⟨rfl,rfl,rfl,rfl,rfl,rfl,trivial⟩)
 · have hi' :i=a.length:=by omega
   subst hi';rw [upO_done];refine X6 1 _ J (frR_rats _ _) noBor_sub (Qj 9 J ?_);refine Qw J J
attribute [local irreducible] OkM
theorem sRat2:SlcT prog 142 47 1 24 (.slice none 0 0):=SlcT.of underlying142 (by kernel_rfl) rfl (by decide)
theorem lRat1:Ld1 prog 47:=Ld1.of _ underlying47 rfl
theorem zFracs:(prog.info? 47).map (·.size)=some 1:=by kernel_rfl
theorem lTab:LdN prog 144 5:=LdN.of _ underlying144 rfl (by kernel_rfl)
abbrev taCs (n m : Nat) (hr : Value) (goal : List Rat) (hb : Value) : List CT := [intC n, intC m, .ex hr, ratsC goal, .ex hb]
abbrev taC (n m : Nat) (hr : Value) (goal : List Rat) (hb : Value) : CT := .agg (taCs n m hr goal hb)
def rowsR (rows : List (List Rat)) : List CT := rows.map ratsC
theorem rowsR_len(rows:List (List Rat)):(rowsR rows).length=rows.length*1:=by simp [rowsR]
theorem rowsR_at{rows:List (List Rat)}{i:Nat}(h:i<rows.length):(rowsR rows)[i]? =some (ratsC (rows.getD i [])):=by
 unfold rowsR;rw [List.getElem?_map,List.getElem?_eq_getElem h,List.getD_eq_getElem?_getD,List.getElem?_eq_getElem h];rfl
theorem rowsR_set(rows:List (List Rat))(i:Nat)(q:List Rat):(rowsR rows).set i (ratsC q)=rowsR (rows.set i q):=by unfold rowsR;rw [List.map_set]
def mixR (rows rows' : List (List Rat)) (i k : Nat) : List (List Rat) := (List.range rows.length).map fun q => if q < k ∨ q = i then rows'.getD q [] else rows.getD q []
theorem mixR_len(rows rows' :List (List Rat))(i k:Nat):(mixR rows rows' i k).length=rows.length:=by simp [mixR]
theorem mixR_at{rows rows' :List (List Rat)}{i k q:Nat}(h:q<rows.length):(mixR rows rows' i k).getD q []=if q<k \/q=i then rows'.getD q [] else rows.getD q []:=by
 unfold mixR;simp [List.getD_eq_getElem?_getD,List.getElem?_map,h]
theorem mixR_set{rows rows' :List (List Rat)}{i k:Nat}(h:k<rows.length):(mixR rows rows' i k).set k (rows'.getD k [])=mixR rows rows' i (k+1):=by
 unfold mixR
 apply List.ext_getElem?
 intro q;rw [List.getElem?_set];by_cases hq:k=q
 · subst hq;simp [h]
 · rw [if_neg hq];simp only [List.getElem?_map]
   cases e:(List.range rows.length)[q]? with
   |none=>rfl
   |some x=>
    obtain ⟨h1,h2⟩:=List.getElem?_eq_some_iff.1 e;simp at h2;subst h2;simp only [Option.map_some]
    congr 1
    by_cases h3:q<k \/q=i
    · rw [if_pos h3,if_pos (by omega)]
    · rw [if_neg h3,if_neg (by omega)]
theorem mixR_skip{rows rows' :List (List Rat)}{i k:Nat}(h:k<rows.length)(he:k=i \/rows.getD k []=rows'.getD k []):mixR rows rows' i k=mixR rows rows' i (k+1):=by
 rw [<- mixR_set h];refine (Go.Det.set_same ?_).symm;have h1:=mixR_at (rows:=rows) (rows' :=rows') (i:=i) (k:=k) h
 have h2:(mixR rows rows' i k)[k]? =some ((mixR rows rows' i k).getD k []):=by
  rw [List.getD_eq_getElem?_getD,List.getElem?_eq_getElem (by rw [mixR_len];exact h)];rfl
 rw [h2,h1];rcases he with he|he
 · rw [if_pos (.inr he)]
 · split
   · rfl
   · rw [he]
theorem mixR_first{rows rows' :List (List Rat)}{i:Nat}(h:i<rows.length):rows.set i (rows'.getD i [])=mixR rows rows' i 0:=by
 unfold mixR
 apply List.ext_getElem?
 intro q;rw [List.getElem?_set];by_cases hq:i=q
 · subst hq;simp [h]
 · rw [if_neg hq];rcases Nat.lt_or_ge q rows.length with h1|h1
   · simp [h1,Ne.symm hq,List.getD_eq_getElem?_getD]
   · rw [List.getElem?_eq_none h1,List.getElem?_eq_none (by simpa using h1)]
theorem mixR_done{rows rows' :List (List Rat)}{i:Nat}(hl:rows'.length=rows.length):mixR rows rows' i rows.length=rows' :=by
 unfold mixR
 apply List.ext_getElem?
 intro q;simp only [List.getElem?_map];rcases Nat.lt_or_ge q rows.length with h1|h1
 · simp [h1,List.getD_eq_getElem?_getD,List.getElem?_eq_getElem (show q<rows'.length by omega)]
 · rw [List.getElem?_eq_none (by simpa using h1),List.getElem?_eq_none (by omega)];rfl
structure Piv (W : Nat) (rows rows' : List (List Rat)) (goal goal' : List Rat) (i j : Nat) : Prop where
  hi : i < rows.length
  hj : j < W
  few : rows.length ≤ 100
  thin : W ≤ 200
  len : rows'.length = rows.length
  w : ∀ k, k < rows.length → (rows.getD k []).length = W
  w' : ∀ k, k < rows.length → (rows'.getD k []).length = W
  g : goal.length = W
  g' : goal'.length = W
  q : ∀ k, k < rows.length → ∀ x ∈ rows.getD k [], Q9 x
  q' : ∀ x ∈ rows'.getD i [], Q9 x
  qg : ∀ x ∈ goal, Q9 x
  ne : (rows.getD i []).getD j 0 ≠ 0
  pr : ∀ c, c < W → (rows'.getD i []).getD c 0 = (rows.getD i []).getD c 0 / (rows.getD i []).getD j 0
  po : ∀ k, k < rows.length → k ≠ i → ∀ c, c < W → (rows'.getD k []).getD c 0 = (rows.getD k []).getD c 0 - (rows.getD k []).getD j 0 * (rows'.getD i []).getD c 0
  pg : ∀ c, c < W → goal'.getD c 0 = goal.getD c 0 - goal.getD j 0 * (rows'.getD i []).getD c 0
theorem list_of{W:Nat}{l:List Rat}{v:Nat ->Rat}(hl:l.length=W)(h:∀c,c<W ->l.getD c 0=v c):(List.range W).map v=l:=by
 apply List.ext_getElem?
 intro c;rcases Nat.lt_or_ge c W with h1|h1
 · have:=h c h1;rw [List.getD_eq_getElem?_getD,List.getElem?_eq_getElem (by omega)] at this;simp [h1,<- this,List.getElem?_eq_getElem (show c<l.length by omega)]
 · rw [List.getElem?_eq_none (by simpa using h1),List.getElem?_eq_none (by omega)]
theorem list_eq{W:Nat}{a b:List Rat}(ha:a.length=W)(hb:b.length=W)(h:∀c,c<W ->a.getD c 0=b.getD c 0):a=b:=by
 rw [<- list_of ha h,list_of hb fun _ _=>rfl]
section
variable {W : Nat} {rows rows' : List (List Rat)} {goal goal' : List Rat} {i j : Nat}
theorem Piv.row(h:Piv W rows rows' goal goal' i j){k:Nat}(hk:k<rows.length)(hki:k≠i):(List.range (rows.getD k []).length).map (lessV (rows.getD k []) ((rows.getD k []).getD j 0) (rows'.getD i []))=rows'.getD k []:=by
 rw [h.w k hk];exact list_of (h.w' k hk) (h.po k hk hki)
theorem Piv.row0(h:Piv W rows rows' goal goal' i j){k:Nat}(hk:k<rows.length)(hki:k≠i)(h0:(rows.getD k []).getD j 0=0):rows.getD k []=rows'.getD k []:=
 list_eq (h.w k hk) (h.w' k hk) fun c hc=>by rw [h.po k hk hki c hc,h0,Rat.zero_mul,Rat.sub_eq_add_neg,Rat.neg_zero,Rat.add_zero]
theorem Piv.goalr(h:Piv W rows rows' goal goal' i j):(List.range goal.length).map (lessV goal (goal.getD j 0) (rows'.getD i []))=goal' :=by
 rw [h.g];exact list_of h.g' h.pg
theorem Piv.goal0(h:Piv W rows rows' goal goal' i j)(h0:goal.getD j 0=0):goal=goal' :=
 list_eq h.g h.g' fun c hc=>by rw [h.pg c hc,h0,Rat.zero_mul,Rat.sub_eq_add_neg,Rat.neg_zero,Rat.add_zero]
end
abbrev tEnt (hr : Value) (rows : List (List Rat)) (hb : Value) (bas : List Int) : BL := [(8, .rowx hr 47 1 (rowsR rows)), (9, .rowx hb 3 1 (ints bas))]
def low8 : BL → Bool
  | [] => true
  | (j, _) :: E => Nat.blt j 8 && low8 E
theorem te_sub{hr hb:Value}{rows:List (List Rat)}{bas:List Int}:∀{E:BL},low8 E=true ->∀i e,bget (tEnt hr rows hb bas) i=some e ->bget (E++tEnt hr rows hb bas) i=some e
 | [],_,_,_,h=>h
 |(j,f)::E,hE,i,e,h=>by
  simp only [low8,Bool.and_eq_true] at hE
  have hj:j<8:=Nat.le_of_ble_eq_true hE.1
  have hji:j≠i:=fun e2=>by
   subst e2
   rw [QX _ _ (by omega),QX _ _ (by omega)] at h
   cases h
  rw [List.cons_append,QX _ _ hji]
  exact te_sub hE.2 i e h
theorem pivot34_ok(n m W:Nat)(rows rows' :List (List Rat))(goal goal' :List Rat)(bas:List Int)(i j:Nat)(h:Piv W rows rows' goal goal' i j)(hbl:bas.length=rows.length)(ar ab:Option Addr)(lr cr lb cb:Nat):
  OkM prog 64 [.ct (taC n m (.slice ar lr cr) goal (.slice ab lb cb)), .ct (intC i), .ct (intC j)] (tEnt (.slice ar lr cr) rows (.slice ab lb cb) bas) [] (fun _:Unit=>True)
   (fun _=> .ct (taC n m (.slice ar lr cr) goal' (.slice ab lb cb))) (fun _=>tEnt (.slice ar lr cr) rows' (.slice ab lb cb) (bas.set i j)):=by
 have hi:=h.hi;have hj:=h.hj;have few:=h.few;have thin:=h.thin;have hwi:=h.w i hi;have e2:(i:Int).toNat=i:=Int.toNat_natCast i;have e3:(j:Int).toNat=j:=Int.toNat_natCast j
 have k1:(i:Int).toNat*1=i:=by omega
 refine OkM.enter func64 J _ ntmps64 J (fun i hi=>absurd hi (by simp)) ?_
 intro S w ρ0 hbor;refine Qj 11 J (Q5 8 rows.length J J J (rowsR_len _) J sRat2 (by omega) (by omega) J ?_);rw [k1];refine QK J J J J (rowsR_at hi) lRat1 J (QV sFracs.und J (ZV 2 W J J J (by omega) sFracs (by omega) (by omega) J J J ?_));rw [frR_made,<- upO_zero (fun c=>(rows'.getD i []).getD c 0)];refine Qq 10 J ?_
 refine QY (α:=Nat) (fun c=>c<=W)
  (fun c=>[(1, .ct (intC i)),(2, .ct (intC j)),(3, .own 0),(6, .own 1),(7, .own 2),(8, .ct (intC c))])
  (fun c=>(2, .row 54 3 (frR (upO (fun c=>(rows'.getD i []).getD c 0) W c)))::(1, .box 144 [.ex (.int .i64 0), .ex (.int .i64 0), .ex (.slice none 0 0), .ex (.slice none 0 0), .ex (.slice none 0 0)])::(0, .box 144 (taCs n m (.slice ar lr cr) goal (.slice ab lb cb)))::tEnt (.slice ar lr cr) rows (.slice ab lb cb) bas) (fun c=>W - c) 0 (Nat.zero_le _) (by exact Qx J) ?_
 intro c hc
 (try dsimp only at hc ⊢)
 refine Qj 5 J (Yy W J J J (by decide) (by rw [Xn,JV]) sFracs.und J ?_);refine Qq 3 J ?_;refine Qy J (fun hcl=> ?_) (fun hcl=> ?_)
 · have e4:(c:Int).toNat=c:=Int.toNat_natCast c
   have hlt:c<W:=by omega
   have eset:=upO_set (fun c=>(rows'.getD i []).getD c 0) hlt;have hpr:=h.pr c hlt;have q0:=h.q i hi _ (XX (z:=(0:Rat)) (show c<(rows.getD i []).length by omega));have qp:=h.q i hi _ (XX (z:=(0:Rat)) (show j<(rows.getD i []).length by omega));have hne:=h.ne
   have hlc:(frR (upO (fun c=>(rows'.getD i []).getD c 0) W c)).length=W*3:=by rw [Xn,JV]
   have hul:=JV (fun c=>(rows'.getD i []).getD c 0) W c;rw [hpr] at eset;generalize upO (fun c=>(rows'.getD i []).getD c 0) W c=cur at hlc hul eset ⊢;refine Qj 11 J (Q5 8 rows.length J J J (rowsR_len _) J sRat2 (by omega) (by omega) J ?_);rw [k1];refine QK J J J J (rowsR_at hi) lRat1 J (Qq 1 J (Q8 0 sFracs J (by omega) ?_));refine Qq 1 J ?_
   rw [e4]
   refine Qf W J J J hlc J sFracs (by omega) (by omega) J ?_
   rw [e4]
   refine stFr J J J J (by omega) Zs ?_
   have hl2:(frR (cur.set c (some ((rows.getD i []).getD c 0)))).length=W*3:=by rw [Xn,List.length_set];omega
   have hg2:(cur.set c (some ((rows.getD i []).getD c 0))).getD c none=some ((rows.getD i []).getD c 0):=by
    rw [List.getD_eq_getElem?_getD,List.getElem?_set_self (by omega)];rfl
   have hc1:(frR (cur.set c (some ((rows.getD i []).getD c 0))))[c*3+1]? =some (natC (ofQ ((rows.getD i []).getD c 0)).num):=by
    have:=el_cell (f:=frO) (n:=3) frO_len (l:=cur.set c (some ((rows.getD i []).getD c 0))) (i:=c) (o:=1) none (by rw [List.length_set];omega) (by decide);rw [hg2] at this;exact this
   refine Qq 6 J (Qf W J J J hl2 J sFracs (by omega) (by omega) J ?_);rw [e4];refine Qq 1 J (QK J J J J hc1 lNat J (QV sNat.und J (Qq 3 J ?_)));refine Qy J (fun h0=> ?_) (fun h0=> ?_)
   · have q0n:=q0.n;have q0d:=q0.d;have qpn:=qp.n;have qpd:=qp.d;have hD:=rFDiv_q ((rows.getD i []).getD c 0) ((rows.getD i []).getD j 0) hne (by omega) (by omega) (by omega) (by omega)
     refine XY 19 0x80731211100f4e2d0c2a0927250b08060403020100 J ?_;refine Qq 4 J (Qf W J J J hl2 J sFracs (by omega) (by omega) J ?_);rw [e4];refine Qq 2 J (Qg J J J (ldE (f:=frO) (n:=3) (l:=cur.set c (some ((rows.getD i []).getD c 0))) none frO_len J J J J J (by rw [List.length_set];omega) lFrac J ?_));rw [hg2];refine Qq 1 J (Q5 8 rows.length J J J (rowsR_len _) J sRat2 (by omega) (by omega) J ?_);rw [k1];refine QK J J J J (rowsR_at hi) lRat1 J (Q8 0 sFracs J (by omega) ?_);refine Qq 1 J ?_
     rw [e3];refine Qv (gT J) hD J (Qq 3 J (Qf W J J J hl2 J sFracs (by omega) (by omega) J ?_));rw [e4]
     refine stFr J J J J (by rw [List.length_set];omega) Zs ?_
     rw [List.set_set,eset];refine QZ 8 J (by omega) ?_;refine Qk (c+1) (by omega) (by omega) (by exact Qx J)
   · have hz:(rows.getD i []).getD c 0=0:=q_zero (by omega)
     have hz2:(rows.getD i []).getD c 0/(rows.getD i []).getD j 0=(rows.getD i []).getD c 0:=by rw [hz,Rat.div_def,Rat.zero_mul]
     rw [hz2] at eset;rw [eset];refine Xz 8 J (by omega) ?_;refine Qk (c+1) (by omega) (by omega) (by exact Qx J)
 have hcW:c=W:=by omega
 subst hcW;rw [upO_done,list_of (h.w' i hi) fun _ _=>rfl];refine X6 2 _ J (frR_rats _ _) hbor (Qj 3 J ?_);refine Yx mixed [9,11] 0xa0a0a0806b0a4469a0a0806b0a69440821070605030200 J (by kernel_rfl) (fun K hK=> ?_);refine (fun (cont:Go.Own.Fin _ [(1, .ct (intC i)),(2, .ct (intC j)),(3, .own 0),(6, .own 1),(7, .ct (ratsC (rows'.getD i [])))] ((1, .box 144 [.ex (.int .i64 0), .ex (.int .i64 0), .ex (.slice none 0 0), .ex (.slice none 0 0), .ex (.slice none 0 0)])::(0, .box 144 (taCs n m (.slice ar lr cr) goal (.slice ab lb cb)))::[(8, .rowx (.slice ar lr cr) 47 1 ((rowsR rows).set i (ratsC (rows'.getD i [])))),(9, .rowx (.slice ab lb cb) 3 1 ((ints bas).set i (intC j)))]) K)=> ?_) (hK _ _ ?_);rotate_left
 · clear hK K;rw [rowsR_set,mixR_first hi,show (ints bas).set i (intC j)=ints (bas.set i j) by unfold ints;rw [List.map_set]];refine Xs 8 J ?_
   refine QY (α:=Nat) (fun k=>k<=rows.length)
    (fun k=>[(1, .ct (intC i)),(2, .ct (intC j)),(3, .own 0),(6, .own 1),(7, .ct (ratsC (rows'.getD i []))),(9, .ct (intC k))])
    (fun k=>(1, .box 144 [.ex (.int .i64 0), .ex (.int .i64 0), .ex (.slice none 0 0), .ex (.slice none 0 0), .ex (.slice none 0 0)])::(0, .box 144 (taCs n m (.slice ar lr cr) goal (.slice ab lb cb)))::tEnt (.slice ar lr cr) (mixR rows rows' i k) (.slice ab lb cb) (bas.set i j)) (fun k=>rows.length - k) 0 (Nat.zero_le _) (by exact Qx J) ?_
   intro k hk
   (try dsimp only at hk ⊢)
   have hml:=mixR_len rows rows' i k
   have hms:=fun h=>mixR_set (rows:=rows) (rows' :=rows') (i:=i) (k:=k) h
   have hmk:=fun h=>mixR_skip (rows:=rows) (rows' :=rows') (i:=i) (k:=k) h
   have hma:=fun h=>mixR_at (rows:=rows) (rows' :=rows') (i:=i) (k:=k) (q:=k) h
   have hmd:=mixR_done (rows:=rows) (rows' :=rows') (i:=i) h.len;refine Qj 6 J (ZU 8 rows.length J J J (by decide) (by rw [rowsR_len,hml]) sRat2.und J ?_);refine Qq 3 J ?_;refine Qy J (fun hkl=> ?_) (fun hkl=> ?_)
   · have e5:(k:Int).toNat=k:=Int.toNat_natCast k
     have k5:(k:Int).toNat*1=k:=by omega
     have hlt:k<rows.length:=by omega
     have hwk:=h.w k hlt;refine Qj 10 J (QQ 80 J (fun hne=> ?_) (fun hne=> ?_))
     · have hki:k≠i:=fun e=>hne (by rw [e])
       have hat:=hma hlt;rw [if_neg (by omega)] at hat
       have hat2:(rowsR (mixR rows rows' i k))[k]? =some (ratsC (rows.getD k [])):=by
        rw [rowsR_at (by rw [hml];exact hlt),hat]
       have hrow:=h.row hlt hki;have hrow0:=h.row0 hlt hki;have qk:=h.q k hlt _ (XX (z:=(0:Rat)) (show j<(rows.getD k []).length by omega));have hS:=Sign_ok (ofQ ((rows.getD k []).getD j 0));rw [sgnF_q] at hS;have hl34:=less34_ok (rows.getD k []) (rows'.getD i []) ((rows.getD k []).getD j 0) (by rw [h.w' i hi,hwk]) (by omega) (h.q k hlt) h.q' qk;rw [hrow] at hl34;have hms1:=hms hlt;have hmk1:=hmk hlt;generalize mixR rows rows' i k=mx at*;refine Qq 3 J (Q5 8 rows.length J J J (by rw [rowsR_len,hml]) J sRat2 (by omega) (by omega) J ?_);rw [k5];refine QK J J J J hat2 lRat1 J (Qq 1 J (Q8 0 sFracs J (by omega) ?_));refine Qq 1 J ?_
       rw [e3];refine Qv (gT J) hS J (Qq 4 J ?_);refine Qy J (fun hs=> ?_) (fun hs=> ?_)
       · skip
         refine XY 19 0x807312512f0e2c0b2927062421100d0a0805030200 J ?_;refine Qq 10 J (Q5 8 rows.length J J J (by rw [rowsR_len,hml]) J sRat2 (by omega) (by omega) J ?_);rw [k5];refine QK J J J J hat2 lRat1 J (Qq 1 J (Q5 8 rows.length J J J (by rw [rowsR_len,hml]) J sRat2 (by omega) (by omega) J ?_));rw [k5];refine QK J J J J hat2 lRat1 J (Q8 0 sFracs J (by omega) ?_);refine Qq 1 J ?_
         rw [e3];refine Qv (gT J) hl34 J (Q5 8 rows.length J J J (by rw [rowsR_len,hml]) J sRat2 (by omega) (by omega) J ?_);rw [k5]
         have es:(rowsR mx).set k (ratsC (rows'.getD k []))=rowsR (mixR rows rows' i (k+1)):=by rw [rowsR_set,hms1]
         refine Qa J J J J J zFracs (by show k<(rowsR mx).length;rw [rowsR_len,hml];omega) ?_;refine QZ 8 J (by omega) ?_;refine Qk (k+1) (by omega) (by omega) (by exact QW (by unfold tEnt;rw [<- es];rfl) ⟨rfl,rfl,rfl,rfl,rfl,by simp only [Int.natCast_add];rfl,trivial⟩)
       · have hz:(rows.getD k []).getD j 0=0:=Rat.num_eq_zero.1 (Int.sign_eq_zero_iff_zero.1 (by omega));rw [hmk1 (.inr (hrow0 hz))];refine Xz 8 J (by omega) ?_;refine Qk (k+1) (by omega) (by omega) (by exact Qx J)
     · have hki:k=i:=by omega
       rw [hmk hlt (.inl hki)];refine QZ 22 J (by omega) ?_;refine Qk (k+1) (by omega) (by omega) (by exact Qx J)
   have hkm:k=rows.length:=by omega
   rw [hkm,hmd];have hS:=Sign_ok (ofQ (goal.getD j 0));rw [sgnF_q] at hS;have hgl:=h.g;have hl34:=less34_ok goal (rows'.getD i []) (goal.getD j 0) (by rw [h.w' i hi,hgl]) (by omega) h.qg h.q' (h.qg _ (XX (z:=(0:Rat)) (by omega)));rw [h.goalr] at hl34;have hg0:=h.goal0;refine Qj 8 J (Q8 0 sFracs J (by omega) ?_);refine Qq 1 J ?_
   rw [e3];refine Qv (gT J) hS J (Qq 3 J ?_);refine Qy J (fun hs=> ?_) (fun hs=> ?_)
   · skip
     refine XY 10 0x806a09482605232107040200 J ?_;refine Qq 6 J (Q8 0 sFracs J (by omega) ?_);refine Qq 1 J ?_
     rw [e3];refine Qv (gT J) hl34 J (Qq 11 J ?_);refine YW () [_] rfl (Qi (n:=5) J J lTab J Q3) J (te_sub (E:=[(1,_),(0,_)]) J) (fun i hi=>absurd hi (by simp)) trivial
   · have hz:goal.getD j 0=0:=Rat.num_eq_zero.1 (Int.sign_eq_zero_iff_zero.1 (by omega));rw [<- hg0 hz];refine Qj 9 J ?_;refine YW () [_] rfl (Qi (n:=5) J J lTab J Q3) J (te_sub (E:=[(1,_),(0,_)]) J) (fun i hi=>absurd hi (by simp)) trivial
 clear hK;refine Xw 7 J (X7 (Q5 8 rows.length J J J (rowsR_len _) J sRat2 (by omega) (by omega) J ?_));refine Qz ?_;rw [k1]
 refine Ql ?_ ?_
 · refine Q2 2 J ?_;refine Q0 (Qa J J J J J zFracs (by show i<(rowsR rows).length;rw [rowsR_len];omega) (Qz ?_)) Qu;refine X7 (Q5 9 bas.length J J J (by simp [ints]) J sInts (by omega) (by omega) J ?_);refine Qz ?_;rw [k1];refine Q0 (Qa J J J J J zInt (by show i<(ints bas).length;simp [ints];omega) (Qz ?_)) Qu;exact Qb (ZW cont ⟨rfl,rfl,rfl,rfl,rfl,trivial⟩)
 · refine Q0 (Qa J J J J J zFracs (by show i<(rowsR rows).length;rw [rowsR_len];omega) (Qz ?_)) Qu;refine Xw 1 J (X7 (Q5 9 bas.length J J J (by simp [ints]) J sInts (by omega) (by omega) J ?_));refine Qz ?_;rw [k1];refine Q0 (Qa J J J J J zInt (by show i<(ints bas).length;simp [ints];omega) (Qz ?_)) Qu;exact Qb (ZW cont ⟨rfl,rfl,rfl,rfl,rfl,trivial⟩)
end Go.Proofs.YtfimckpnnbibcaaGreat
