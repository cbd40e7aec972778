/- The proof that DelayNarrows holds for every input, without conditions: part 6 of 7. -/
import Derived.Test.YtojkdfilabmafaaGreatZ5
import Derived.ProofKit
import Derived.OpenShut
import Derived.ShutString
import Derived.ChangeOld
import Derived.DataElems
namespace Go.Proofs.YtojkdfilabmafaaGreat
open Go.Own Go.Limbs Go.Det
theorem wiT_subB:∀f,f<2→∀t,t<5→((wsG 0 ((ptT.getD f []).take t)).all fun w=>decide (w∈wiB 2))=true:=by decide
theorem wiT_sub(f:Nat)(hf:f<2)(t:Nat)(ht:t<5)(w:Wr)(hw:w∈wsG 0 ((ptT.getD f []).take t)):w∈wiB 2:=
  of_decide_eq_true (List.all_eq_true.1 (wiT_subB f hf t ht) w hw)
theorem wiT_len:(wiB 2).length=7:=by decide
def wiS : List Wr := [(0, 1), (1, 2), (1, 5), (2, 3), (3, 4), (3, 6), (5, 3)]
theorem wiS_up:Up cmpW wiS:=by unfold Up;decide
theorem wiS_mem:∀w∈wiB 2,w∈wiS:=by decide
theorem wiT_preB:∀f,f<2→∀t,t<5→(decide (t=0)||(wsG 0 ((ptT.getD f []).take t)).any fun w=>decide (w=(0,1)))=true:=by decide
theorem wiT_pre(f:Nat)(hf:f<2)(t:Nat)(ht:t<5)(h1:1≤t):(0,1)∈wsG 0 ((ptT.getD f []).take t):=by
  have h:=wiT_preB f hf t ht;rw [decide_eq_false (by omega),Bool.false_or] at h;obtain ⟨w,hw,e⟩:=List.any_eq_true.1 h;rw [←of_decide_eq_true e];exact hw
theorem up_sub_len{vs:List Wr}(hu:Up cmpW vs)(h:∀w∈vs,w∈wiS):vs.length≤7:=by
  have e:vs=wiS.filter fun w=>decide (w∈vs):=by
    refine Up.ext ordW hu (List.Pairwise.filter _ wiS_up) fun w=> ?_
    rw [List.mem_filter,decide_eq_true_eq];exact ⟨fun hw=>⟨h w hw,hw⟩,fun hw=>hw.2⟩
  rw [e];exact List.length_filter_le _ _
section
variable {ts : List Int} {q : Int} {M : Nat → Nat} {out : List Rs}
def tmF (ts : List Int) (w : Wr) : Int := tmK (wiB 2) ts w (wiB 2).length
theorem tmF_at(ts:List Int){w:Wr}(h:w∈wiB 2):∃k,k<(wiB 2).length∧(wiB 2).getD k wr0=w∧tmF ts w=ts.getD k 0:=by
  have e:wiB 2=[(0,1),(1,2),(2,3),(3,4),(1,5),(5,3),(3,6)]:=by decide
  rw [e] at h;simp only [List.mem_cons,List.not_mem_nil,or_false] at h;rcases h with rfl|rfl|rfl|rfl|rfl|rfl|rfl
  · exact ⟨0,by decide,by decide,by show (0:Int)+ts.getD 0 0=_;rw [Int.zero_add]⟩
  · exact ⟨1,by decide,by decide,by show (0:Int)+ts.getD 1 0=_;rw [Int.zero_add]⟩
  · exact ⟨2,by decide,by decide,by show (0:Int)+ts.getD 2 0=_;rw [Int.zero_add]⟩
  · exact ⟨3,by decide,by decide,by show (0:Int)+ts.getD 3 0=_;rw [Int.zero_add]⟩
  · exact ⟨4,by decide,by decide,by show (0:Int)+ts.getD 4 0=_;rw [Int.zero_add]⟩
  · exact ⟨5,by decide,by decide,by show (0:Int)+ts.getD 5 0=_;rw [Int.zero_add]⟩
  · exact ⟨6,by decide,by decide,by show (0:Int)+ts.getD 6 0=_;rw [Int.zero_add]⟩
theorem tr_ms(hl:ts.length=(wiB 2).length)(hts:∀y∈ts,0≤y∧y≤60)(hq:0≤q∧q≤100)(hM:∀f,f<2→2≤M f∧M f≤4)(h:TrP ts q M out)(ho:out.length≤13):
    (msF out).length=out.length∧chkF out=0∧∀m∈msF out,∃(f t:Nat),f<2∧1≤t∧t≤4∧m.2=wsG 0 ((ptT.getD f []).take t)∧smT (tmF ts) m.2≤m.1.bk - m.1.tm∧m.1.bk - m.1.tm≤smT (tmF ts) m.2+q:=by
  have hF:=tr_fan hl hts hq hM h ho
  have hMT:∀f,MT M f<256:=fun f=>by
    unfold MT;split
    · have:=hM f.toNat (by omega);omega
    · decide
  have hms:=hF.ms hMT (fun r hr=>by
    obtain ⟨i,f,t,u,hi,hf,ht1,ht2,hu,rfl⟩:=tr_at h hr;have hMf:=hM f hf;show (adF aT (f:Int) (MT M (f:Int)) 1).all _=true;rw [MT_nat M hf,adF_pt1 hf hMf.2]
    have:∀f,f<2→(ptT.getD f []).all (fun x=>decide (x≠0))=true:=by decide
    have:=this f hf;rw [List.all_eq_true] at this ⊢
    exact fun x hx=>this x (List.mem_of_mem_take hx))
  refine ⟨by rw [hms,List.length_map],hF.chk (by omega),fun m hm=> ?_⟩;rw [hms] at hm;obtain ⟨r,hr,rfl⟩:=List.mem_map.1 hm;obtain ⟨i,f,t,u,hi,hf,ht1,ht2,hu,rfl⟩:=tr_at h hr;have hMf:=hM f hf
  have e2:wsG 0 (adF aT (f:Int) t 1)=wsG 0 ((ptT.getD f []).take t):=by rw [adF_pt1 hf (by omega)]
  have e3:=smT_wsG (wiB 2) ts (ptT.getD f []) t (by rw [ptT_len hf];omega);refine ⟨f,t,hf,ht1,by omega,e2,?_,?_⟩
  · show smT (tmF ts) (wsG 0 (adF aT (f:Int) t 1))≤1000*(i:Int)+(smK (wiB 2) ts (ptT.getD f []) t+u) - 1000*i;rw [e2];have:smT (tmF ts) (wsG 0 ((ptT.getD f []).take t))=smK (wiB 2) ts (ptT.getD f []) t:=e3;omega
  · show 1000*(i:Int)+(smK (wiB 2) ts (ptT.getD f []) t+u) - 1000*i≤smT (tmF ts) (wsG 0 (adF aT (f:Int) t 1))+q;rw [e2];have:smT (tmF ts) (wsG 0 ((ptT.getD f []).take t))=smK (wiB 2) ts (ptT.getD f []) t:=e3;omega
theorem tr_vr(hl:ts.length=(wiB 2).length)(hts:∀y∈ts,0≤y∧y≤60)(hq:0≤q∧q≤100)(hM:∀f,f<2→2≤M f∧M f≤4)(h:TrP ts q M out)(ho:out.length≤13):
    vrO out=(vrF out,0)∧Up cmpW (vrF out)∧(∀w∈vrF out,w∈wiB 2)∧(vrF out).length≤7∧0<(vrF out).length∧∀m∈msF out,∀w∈m.2,w∈vrF out:=by
  obtain ⟨h1,h2,h3⟩:=tr_ms hl hts hq hM h ho;have hs:=sd_spec ordW (wsA (msF out))
  have hin:∀w∈vrF out,w∈wiB 2:=fun w hw=>by
    have hw:=(hs.2 w).1 hw;obtain ⟨m,hm,hw⟩:=List.mem_flatMap.1 hw;obtain ⟨f,t,hf,_,ht,e,_⟩:=h3 m hm;rw [e] at hw;exact wiT_sub f hf t (Nat.lt_succ_of_le ht) w hw
  have hlen:=up_sub_len hs.1 (fun w hw=>wiS_mem w (hin w hw));have hlen:(vrF out).length≤7:=hlen
  have hsub:∀m∈msF out,∀w∈m.2,w∈vrF out:=fun m hm w hw=>(hs.2 w).2 (List.mem_flatMap.2 ⟨m,hm,hw⟩)
  refine ⟨?_,hs.1,hin,hlen,?_,hsub⟩
  · unfold vrO;rw [if_neg (fun h=>h h2),if_neg (by omega)]
  · have hM0:=hM 0 (by decide);obtain ⟨r,hr,_⟩:=h.2 0 (by decide) 1 (by decide) (by omega)
    have hp:0<(msF out).length:=by rw [h1];exact List.length_pos_of_mem hr
    have hm:(msF out)[0]∈msF out:=List.getElem_mem hp;obtain ⟨f,t,hf,ht1,ht,e,_⟩:=h3 _ hm;exact List.length_pos_of_mem (hsub _ hm (0,1) (by rw [e];exact wiT_pre f hf t (Nat.lt_succ_of_le ht) ht1))
end
def ImpR (rs rs' : List Rw) : Prop := ∀ r' ∈ rs', ∃ r ∈ rs, r.cs = r'.cs ∧ r.b ≤ r'.b
theorem Feas.impR{n:Nat}{rs rs' :List Rw}{D:Int}{X:Nat→Int}(h:Feas n rs D X)(hi:ImpR rs rs'):Feas n rs' D X:=
  ⟨h.den,h.nn,fun i hl=>by
    obtain ⟨r,hr,e,hb⟩:=hi _ (rws_mem hl)
    obtain ⟨k,hk,ek⟩:=rws_at hr
    have h1:=h.row k hk
    have e1:∀j,ca rs' i j=ca rs k j:=fun j=>by unfold ca;rw [ek,e]
    have e2:cb rs k≤cb rs' i:=by unfold cb;rw [ek];exact hb
    rw [Xa (g:=fun j=>ca rs k j*X j) fun j _=>by rw [e1 j]]
    exact Int.le_trans h1 (Int.mul_le_mul_of_nonneg_left e2 (Int.le_of_lt h.den))⟩
def Sml (f : Fr) : Prop := ∃ A B : Int, Btw A B f ∧ -1152921504606846976 ≤ A ∧ B ≤ 1152921504606846976
theorem Sml.fl{f:Fr}(h:Sml f):0<f.den∧flV f=sg f.neg f.num/(f.den:Int):=by
  obtain ⟨A,B,h,hA,hB⟩:=h;have hd:=h.den;have hz:=floor_sg f.neg f.num f.den hd;have h1:A≤sg f.neg f.num/(f.den:Int):=Int.le_ediv_of_mul_le (by omega) h.lo;have h2:sg f.neg f.num/(f.den:Int)≤B:=Int.ediv_le_of_le_mul (by omega) h.hi;rw [←hz] at h1 h2;have h3:=natAbs_sg f.neg (rnd f.num f.den f.neg);unfold flV;rw [if_pos (by omega)];exact ⟨hd,hz⟩
theorem Sml.le{f g:Fr}(h:Sml f)(h' :Sml g)(hl:sg f.neg f.num*(g.den:Int)≤sg g.neg g.num*(f.den:Int)):flV f≤flV g:=by
  obtain ⟨d1,e1⟩:=h.fl;obtain ⟨d2,e2⟩:=h'.fl;rw [e1,e2];generalize sg f.neg f.num=a at hl;generalize sg g.neg g.num=c at hl
  have hb0:(0:Int)<(f.den:Int):=by omega
  have hd0:(0:Int)<(g.den:Int):=by omega
  clear e1 e2;generalize (f.den:Int)=b at*;generalize (g.den:Int)=d at*;refine Int.le_ediv_of_mul_le hd0 (Int.le_of_mul_le_mul_right (a:=b) ?_ hb0);have h1:a/b*b≤a:=Int.ediv_mul_le a (by omega);have h2:=Int.mul_le_mul_of_nonneg_right h1 (Int.le_of_lt hd0);rw [show a/b*d*b=a/b*b*d by grind];exact Int.le_trans h2 hl
theorem mkRat_cross{a c:Int}{b d:Nat}(hb:0<b)(hd:0<d)(h:a*d≤c*b):(mkRat a b).num*((mkRat c d).den:Int)≤(mkRat c d).num*((mkRat a b).den:Int):=by
  have h1:=mkRat_rel a hb;have h2:=mkRat_rel c hd;have p1:=(mkRat a b).den_pos;have p2:=(mkRat c d).den_pos;generalize (mkRat a b).num=n at*;generalize (mkRat c d).num=n' at*;generalize (mkRat a b).den=p at*;generalize (mkRat c d).den=p' at*;have hpos:(0:Int)<b*d:=Int.mul_pos (by omega) (by omega)
  refine Int.le_of_mul_le_mul_right (a:=(b:Int)*d) ?_ hpos
  have h3:(0:Int)≤p*p' :=Int.mul_nonneg (by omega) (by omega);have h4:=Int.mul_le_mul_of_nonneg_right h h3;rw [show n*(p' :Int)*(b*d)=(n*b)*(p' *d) by grind,show n' *(p:Int)*(b*d)=(n' *d)*(p*b) by grind,←h1,←h2];rw [show a*(p:Int)*(p' *d)=a*d*(p*p') by grind,show c*(p' :Int)*(p*b)=c*b*(p*p') by grind];exact h4
theorem sol_fl{n:Nat}{rs rs' :List Rw}{c:List Int}{O O' :Oc}(h:Sol n rs c O)(h' :Sol n rs' c O')(hi:ImpR rs rs')(k1:O.kind=1)(k2:O'.kind=1)(b1:Sml O.value)(b2:Sml O'.value):flV O.value≤flV O'.value:=by
  cases h with
  |opt D X Y val hX hv hY hw=>
    cases h' with
    |opt D' X' Y' val' hX' hv' hY' hw' =>
      have w:=weak (hX.impR hi) hY';rw [hw',hv] at w;have d1:=hX.den;have d2:=hX'.den
      refine b1.le b2 ?_
      dsimp only;rw [ofQ_sg,ofQ_sg];unfold shq
      refine mkRat_cross (by omega) (by omega) ?_
      rw [show ((D'.natAbs:Nat):Int)=D' by omega,show ((D.natAbs:Nat):Int)=D by omega,Int.mul_comm val,Int.mul_comm val'];exact w
    |unb=>exact absurd (show (2:Int)=1 from k2) (by decide)
    |emp=>exact absurd (show (3:Int)=1 from k2) (by decide)
  |unb=>exact absurd (show (2:Int)=1 from k1) (by decide)
  |emp=>exact absurd (show (3:Int)=1 from k1) (by decide)
structure IvS (n : Nat) (rs : List Rw) (k : Nat) (O1 O2 : Oc) (p : Int × Int) : Prop where
  s1 : Sol n rs (unL n k (-1)) O1
  s2 : Sol n rs (unL n k 1) O2
  k1 : O1.kind = 1
  k2 : O2.kind = 1
  b1 : Sml O1.value
  b2 : Sml O2.value
  e : p = (-flV O1.value, flV O2.value)
theorem IvS.mono{n k:Nat}{rs rs' :List Rw}{O1 O2 O1' O2' :Oc}{p p' :Int × Int}(h:IvS n rs k O1 O2 p)(h' :IvS n rs' k O1' O2' p')(hi:ImpR rs rs'):p'.1≤p.1∧p.2≤p'.2:=by
  have f1:=sol_fl h.s1 h'.s1 hi h.k1 h'.k1 h.b1 h'.b1;have f2:=sol_fl h.s2 h'.s2 hi h.k2 h'.k2 h.b2 h'.b2;rw [h.e,h'.e];dsimp only;omega
section
variable {vs : List Wr} (hu : Up cmpW vs) (T : Wr → Int)
include hu
theorem bounds_S{ms:List Me}{mo qu:Int}(hv:vs.length≤16)(hl:vs.length+2*ms.length≤64)(ht:tiB mo qu=true)(hT:∀v∈vs,0≤T v∧T v≤mo)
    (hm:∀m∈ms,(m.2.length≤256∧0≤m.1.bk - m.1.tm∧m.1.bk - m.1.tm≤2251799813685248)∧(∀w∈m.2,w∈vs)∧smT T m.2≤m.1.bk - m.1.tm∧m.1.bk - m.1.tm≤smT T m.2+qu) {k:Nat} (hk:k<vs.length):
    ∃(p:Int × Int) (O1 O2:Oc),Ok Tryz.prog 44 [rowsC (rowsD vs mo qu ms),intC vs.length,intC k] (.fr (tupT [ocC O1,ocC O2,ivC p,intC 0]))∧IvS vs.length (rowsD vs mo qu ms) k O1 O2 p:=by
  have hrv:=rowsD_valid (vs:=vs) (ms:=ms) (mo:=mo) (qu:=qu) hv hl (fun m hmm=>(hm m hmm).1) ht;have hF:=feas_T hu T hT (fun m hmm=>(hm m hmm).2);have hrl:=rowsD_len vs mo qu ms;have ht2:0≤mo∧mo≤1073741824∧0≤qu∧qu≤1073741824:=of_decide_eq_true ht
  have hmem:vs.getD k wr0∈vs:=by rw [List.getD_eq_getElem?_getD,List.getElem?_eq_getElem hk];exact List.getElem_mem _
  have hTk:=hT _ hmem;obtain ⟨O1,s1,k1⟩:=Solve_any hrv (unL_ok hk (f:= -1) (.inr rfl));obtain ⟨O2,s2,k2⟩:=Solve_any hrv (unL_ok hk (f:=1) (.inl rfl));obtain ⟨Y1,d1,v1⟩:=dual_zero (n:=vs.length) (rs:=rowsD vs mo qu ms) (c:=unL vs.length k (-1)) (fun j _=>by rw [unL_getD (-1) hk];split <;>decide)
  obtain ⟨Y2,d2,v2⟩:=dual_one (n:=vs.length) (rs:=rowsD vs mo qu ms) (c:=unL vs.length k 1) (r1:=⟨cfW vs [vs.getD k wr0] 1,mo⟩) (by unfold rowsD;exact List.mem_append.2 (.inl (List.mem_map.2 ⟨_,hmem,rfl⟩))) (fun j hj=>by
    rw [unL_getD 1 hk];dsimp only;rw [cfW_at _ _ hj,List.count_singleton];by_cases e:j=k
    · subst e;simp
    · rw [if_neg e];split <;>decide)
  obtain ⟨a1,b1⟩:=sol_btw s1 (by omega) hF d1;obtain ⟨a2,b2⟩:=sol_btw s2 (by omega) hF d2;rw [v1,rsum_un _ hk] at b1;rw [v2,rsum_un _ hk] at b2;dsimp only at b1 b2;generalize T (vs.getD k wr0)=x at*;have l1:=sol_len s1 (by omega);have l2:=sol_len s2 (by omega);have f1:=flV_btw b1 (by omega) (by omega);have f2:=flV_btw b2 (by omega) (by omega);have hB:=bounds_fine vs.length k hk hv (rowsD vs mo qu ms) O1 O2 k1 k2 ⟨a1,l1.1,l1.2.1,l1.2.2 a1⟩ ⟨a2,l2.1,l2.2.1,l2.2.2 a2⟩ (by omega);exact ⟨_,O1,O2,hB,s1,s2,a1,a2,⟨_,_,b1,by omega,by omega⟩,⟨_,_,b2,by omega,by omega⟩,rfl⟩
end
section
variable {ts : List Int} {q : Int} {M : Nat → Nat} {out : List Rs}
theorem tr_rw(hl:ts.length=(wiB 2).length)(hts:∀y∈ts,0≤y∧y≤60)(hq:0≤q∧q≤100)(hM:∀f,f<2→2≤M f∧M f≤4)(h:TrP ts q M out)(ho:out.length≤13){mo qu:Int}(ht:tiB mo qu=true):
    rwO out mo qu=(rowsD (vrF out) mo qu (msF out),(msF out).map (fun m=>idOf m.1),0):=by
  obtain ⟨h1,h2,h3⟩:=tr_ms hl hts hq hM h ho;obtain ⟨v1,v2,v3,v4,v5,v6⟩:=tr_vr hl hts hq hM h ho;unfold rwO;rw [v1];dsimp only;rw [if_neg (by rw [ht];decide),if_neg (fun h=>h J),if_neg (by omega)]
theorem tr_bounds(hl:ts.length=(wiB 2).length)(hts:∀y∈ts,0≤y∧y≤60)(hq:0≤q∧q≤100)(hM:∀f,f<2→2≤M f∧M f≤4)(h:TrP ts q M out)(ho:out.length≤13){mo qu:Int}(hmo:60≤mo)(hqu:q≤qu)(ht:tiB mo qu=true){k:Nat}(hk:k<(vrF out).length):
    ∃(p:Int × Int) (O1 O2:Oc),Ok Tryz.prog 44 [rowsC (rowsD (vrF out) mo qu (msF out)),intC (vrF out).length,intC k] (.fr (tupT [ocC O1,ocC O2,ivC p,intC 0]))∧IvS (vrF out).length (rowsD (vrF out) mo qu (msF out)) k O1 O2 p:=by
  obtain ⟨h1,h2,h3⟩:=tr_ms hl hts hq hM h ho;obtain ⟨v1,v2,v3,v4,v5,v6⟩:=tr_vr hl hts hq hM h ho
  have hT:∀v∈vrF out,0≤tmF ts v∧tmF ts v≤mo:=fun v hv=>by
    obtain ⟨k,hk,_,e⟩:=tmF_at ts (v3 v hv);rw [e];have:=hts (ts.getD k 0) (by rw [List.getD_eq_getElem?_getD,List.getElem?_eq_getElem (by omega)];exact List.getElem_mem _);omega
  exact bounds_S v2 (tmF ts) (ms:=msF out) (mo:=mo) (qu:=qu) (by omega) (by omega) ht hT (fun m hm=>by
    obtain ⟨f,t,hf,ht1,ht,e,e2,e3⟩:=h3 m hm
    exact ⟨⟨me_wires out m hm,(me_time out m hm).2⟩,v6 m hm,e2,by omega⟩) hk
theorem tr_msE(hl:ts.length=(wiB 2).length)(hts:∀y∈ts,0≤y∧y≤60)(hq:0≤q∧q≤100)(hM:∀f,f<2→2≤M f∧M f≤4)(h:TrP ts q M out)(ho:out.length≤13):
    msF out=out.map fun r=>(r,wsG 0 (adF aT r.fl r.tt.toNat 1)):=by
  have hF:=tr_fan hl hts hq hM h ho;refine hF.ms (fun f=> ?_) (fun r hr=> ?_)
  · unfold MT;split
    · have:=hM f.toNat (by omega);omega
    · decide
  · obtain ⟨i,f,t,u,hi,hf,ht1,ht2,hu,rfl⟩:=tr_at h hr;have hMf:=hM f hf;show (adF aT (f:Int) (MT M (f:Int)) 1).all _=true;rw [MT_nat M hf,adF_pt1 hf hMf.2]
    have:∀f,f<2→(ptT.getD f []).all (fun x=>decide (x≠0))=true:=by decide
    have:=this f hf;rw [List.all_eq_true] at this ⊢
    exact fun x hx=>this x (List.mem_of_mem_take hx)
theorem tr_sub{o2:List Rs}(hl:ts.length=(wiB 2).length)(hts:∀y∈ts,0≤y∧y≤60)(hq:0≤q∧q≤100)(hM:∀f,f<2→2≤M f∧M f≤4)(h:TrP ts q M out)(ho:out.length≤13)(h2:TrP ts q M o2)(ho2:o2.length≤13)(hs:∀r∈o2,r∈out):
    vrF o2=vrF out∧∀m∈msF o2,m∈msF out:=by
  have e1:=tr_msE hl hts hq hM h ho;have e2:=tr_msE hl hts hq hM h2 ho2
  have hsub:∀m∈msF o2,m∈msF out:=fun m hm=>by
    rw [e2] at hm;obtain ⟨r,hr,rfl⟩:=List.mem_map.1 hm;rw [e1];exact List.mem_map.2 ⟨r,hs r hr,rfl⟩
  refine ⟨?_,hsub⟩;have s1:=sd_spec ordW (wsA (msF out));have s2:=sd_spec ordW (wsA (msF o2))
  refine Up.ext ordW s2.1 s1.1 fun w=> ?_
  refine (s2.2 w).trans (Iff.trans ?_ (s1.2 w).symm);constructor
  · intro hw;obtain ⟨m,hm,hw⟩:=List.mem_flatMap.1 hw;exact List.mem_flatMap.2 ⟨m,hsub m hm,hw⟩
  · intro hw;obtain ⟨m,hm,hw⟩:=List.mem_flatMap.1 hw;rw [e1] at hm;obtain ⟨r,hr,rfl⟩:=List.mem_map.1 hm;obtain ⟨i,f,t,u,hi,hf,ht1,ht2,hu,rfl⟩:=tr_at h hr;obtain ⟨r',hr',e3,e4⟩:=h2.2 f hf t ht1 ht2;refine List.mem_flatMap.2 ⟨(r',wsG 0 (adF aT r'.fl r'.tt.toNat 1)),?_,?_⟩
    · rw [e2];exact List.mem_map.2 ⟨r',hr',rfl⟩
    · dsimp only;rw [e3,e4];exact hw
theorem rowsD_sub{vs:List Wr}{mo qu:Int}{ms ms' :List Me}(h:∀m∈ms',m∈ms):ImpR (rowsD vs mo qu ms) (rowsD vs mo qu ms'):=fun r hr=>by
  refine ⟨r,?_,rfl,Int.le_refl _⟩
  unfold rowsD at hr ⊢
  rcases List.mem_append.1 hr with hr|hr
  · exact List.mem_append.2 (.inl hr)
  · obtain ⟨m,hm,hr⟩:=List.mem_flatMap.1 hr
    exact List.mem_append.2 (.inr (List.mem_flatMap.2 ⟨m,h m hm,hr⟩))
theorem rowsD_wide{vs:List Wr}{mo qu mo' qu' :Int}{ms:List Me}(h1:mo≤mo')(h2:qu≤qu'):ImpR (rowsD vs mo qu ms) (rowsD vs mo' qu' ms):=fun r hr=>by
  unfold rowsD at hr ⊢
  rcases List.mem_append.1 hr with hr|hr
  · obtain ⟨v,hv,rfl⟩:=List.mem_map.1 hr
    exact ⟨_,List.mem_append.2 (.inl (List.mem_map.2 ⟨v,hv,rfl⟩)),rfl,h1⟩
  · obtain ⟨m,hm,hr⟩:=List.mem_flatMap.1 hr
    rcases List.mem_cons.1 hr with rfl|hr
    · exact ⟨_,List.mem_append.2 (.inr (List.mem_flatMap.2 ⟨m,hm,List.mem_cons_self ..⟩)),rfl,Int.le_refl _⟩
    · rw [List.mem_singleton.1 hr]
      exact ⟨_,List.mem_append.2 (.inr (List.mem_flatMap.2 ⟨m,hm,List.mem_cons_of_mem _ (List.mem_singleton.2 rfl)⟩)),rfl,by show qu - _≤qu' - _;omega⟩
end
end Go.Proofs.YtojkdfilabmafaaGreat
namespace Go.Proofs.YtojkdfilabmafaaGreat
open Go.Own Go.Limbs
attribute [local irreducible] St Ops Go.Own.Fin Ok OkB OkN OkT OkL OkF OkM
theorem oc_w:argW [.ex (.int .i64 0), .ex (.bool false), .ex (.slice none 0 0), .ex (.slice none 0 0), .ex (.slice none 0 0), .ex (.slice none 0 0), .ex (.slice none 0 0)] (ocCs oc0):=⟨Yk,Yk,w_nat0,w_nat0,YQ,YQ,YQ,trivial⟩
set_option maxHeartbeats 8000000 in
theorem ends_miss(l:List Rs)(hl:l.length≤10000)(mo qu:Int)(w:Wr)(h0:(rwO l mo qu).2.2=0)(hw:w ∉ (vrO l).1)(hu:Up cmpW (vrO l).1)(hvl:(vrO l).1.length≤16):
    Ok Tryz.prog 43 [rssC l,tiC mo qu,wrC w] (.fr (tupT [ocC oc0,ocC oc0,ivC (0,0),intC 8])):=by
  have hR:=DRows_ok l hl mo qu;have hV:=Variables_ok l hl;have hS:=BSearch_ok (vrO l).1 w hu (by omega);rw [decide_eq_false hw] at hS;rw [h0] at hR;have ho:=oc_w;generalize (rwO l mo qu).1=rs at hR;generalize (rwO l mo qu).2.1=is at hR;generalize (vrO l).2=ve at hV;generalize posD (vrO l).1 w=k at hS;generalize (vrO l).1=vs at hV hS;generalize oc0=O0 at ho ⊢
  refine Ok.enter Tryz.func43 J _ Tryz.ntmps43 J ?_
  intro S w0
  refine Qy ?_
  refine Qx (fun K hK=> ?_)
  refine Xu 3 J J J J J J J ?_
  refine Xu 4 J J J J J J J ?_
  refine Qf 0 J J (by with_reducible exact zvOut) J J J ?_
  refine Qf 1 J J (by with_reducible exact zvOut) J J J ?_
  refine Qf 2 J J (by with_reducible exact zvIv) J J J ?_
  (refine Qv J J J ?_;refine Qj (hK _ _ (Qz (Qy ?_)));clear hK K;refine Qx (fun K hK=> ?_);refine Qq J J J ?_)
  refine Qc (n:=2) J J J J J (by with_reducible exact lTi) J ?_
  refine QV goDRows hR J J J J ?_
  (refine Qq J J J ?_;refine QK J J J J ?_;refine QK J J J J ?_;refine QK J J J J ?_;refine Qv J J J ?_;refine Qv J J J ?_;refine Qv J J J ?_;refine Qj (hK _ _ (Qz (Qy (Qy ?_))));clear hK K;refine Qx (fun K hK=> ?_);refine Qq J J J ?_;refine Qk ineq J J J J ?_;refine Qj (hK _ _ (Qz (Xy J (QW (Qz (Qy ?_))))));clear hK K;refine Qx (fun K hK=> ?_);refine Qq J J J ?_)
  refine QV goVariables hV J J J J ?_
  (refine Qq J J J ?_;refine QK J J J J ?_;refine QK J J J J ?_;refine Qv J J J ?_;refine Qv J J J ?_;refine Qj (hK _ _ (Qz (Qy ?_)));clear hK K;refine Qx (fun K hK=> ?_);refine Qq J J J ?_;refine Qc (n:=2) J J J J J (by with_reducible exact Zs) J ?_)
  refine QV goBSearch hS J J J J ?_
  (refine Qq J J J ?_;refine QK J J J J ?_;refine QK J J J J ?_;refine Qv J J J ?_;refine Qv J J J ?_;refine Qj (hK _ _ (Qz (Qy (Qy ?_))));clear hK K;refine Qx (fun K hK=> ?_);refine Qq J J J ?_;refine Xz J J J ?_;refine Qj (hK _ _ (Qz (XZ J (Qy ?_))));clear hK K)
  refine Yy (by with_reducible exact mixed) [3,4,5] (.f 0 (.m 1 (.m 2 (.a 3 (.a 4 (.a 5 (.p 6 .done) .non) .non) .non) (.a 3 (.m 2 (.a 4 (.a 5 (.p 6 .done) .non) .non) (.a 4 (.f 2 (.a 5 (.p 6 .done) .non)) .non)) .non)) (.m 2 (.m 1 (.a 3 (.a 4 (.a 5 (.p 6 .done) .non) .non) .non) (.a 3 (.f 1 (.a 4 (.a 5 (.p 6 .done) .non) .non)) .non)) (.a 3 (.f 1 (.m 2 (.a 4 (.a 5 (.p 6 .done) .non) .non) (.a 4 (.f 2 (.a 5 (.p 6 .done) .non)) .non))) .non)))) (by kernel_rfl) (fun K hK=> ?_)
  repeat' (first
    |refine Q8
    |refine Qr ?_
    |refine Xp ?_
    |refine XW ?_ ?_
    |refine Qn ?_ ?_
    |refine Qj ?_
    |refine Qv J J J ?_
    |refine Qc (n:=7) J J J J J (by with_reducible exact lOut) J ?_
    |refine Qc (n:=2) J J J J J (by with_reducible exact lIv) J ?_
    |refine Qa 7 J J J J J (by with_reducible exact szOut) J J ?_
    |refine Qa 2 J J J J J (by with_reducible exact szIv) J J ?_
    |(refine Xv (hK _ _ ?_)
      refine Qz (Q4 (QY ?_))
      refine Q1 [_,_,_,_] rfl (X7 (w_agg ho) (Qg (n:=7) J J (by with_reducible exact lOut) J (X7 (w_agg ho) (Qg (n:=7) J J (by with_reducible exact lOut) J (Qg (n:=2) J J (by with_reducible exact lIv) J (QX J QZ)))))) J J))
set_option maxHeartbeats 4000000 in
theorem Interval_gen(l:List Rs)(mo qu:Int)(w:Wr){O1 O2:Oc}{p:Int × Int}{e:Int}(hE:Ok Tryz.prog 43 [rssC l,tiC mo qu,wrC w] (.fr (tupT [ocC O1,ocC O2,ivC p,intC e]))):
    Ok Tryz.prog 13 [rssC l,tiC mo qu,wrC w] (.fr (tupT [ivC p,intC e])):=by
  obtain ⟨q1,⟨g1,m1,d1⟩,o1,y1,u1⟩:=O1;obtain ⟨q2,⟨g2,m2,d2⟩,o2,y2,u2⟩:=O2
  refine Ok.enter Tryz.func13 J _ Tryz.ntmps13 J ?_
  intro S w0;refine Qy (Qx (fun K hK=> ?_));refine Xu 3 J J J J J J J (Xu 4 J J J J J J J (Qf 0 J J zvIv J J J (Qv J J J (Qj (hK _ _ (Qz (Qy ?_)))))));clear hK K;refine Qx (fun K hK=> ?_);refine Qq J J J (Qc (n:=2) J J J J J lTi J (Qc (n:=2) J J J J J Zs J (QV goends hE J J J J (Qq J J J (QK J J J J (QK J J J J (QK J J J J (QK J J J J (Qf 5 J J zvOut J J J (Qf 6 J J zvOut J J J (Qf 7 J J zvIv J J J (Qa 7 J J J J J szOut J J (Qa 7 J J J J J szOut J J (Qa 2 J J J J J szIv J J (Qv J J J (Qj (hK _ _ (Qz (Qy ?_)))))))))))))))))));clear hK K;refine Qx (fun K hK=> ?_);refine Qc (n:=2) J J J J J lIv J (Qq J J J (Qa 2 J J J J J szIv J J (Qv J J J (Qj (hK _ _ (Qz (Q4 ?_)))))));clear hK K;refine Q1 [_,_] rfl (Qg (n:=2) J J lIv J (QX J QZ)) J J
section
variable {ts : List Int} {q : Int} {M : Nat → Nat} {out : List Rs}
theorem Interval_in(hl:ts.length=(wiB 2).length)(hts:∀y∈ts,0≤y∧y≤60)(hq:0≤q∧q≤100)(hM:∀f,f<2→2≤M f∧M f≤4)(h:TrP ts q M out)(ho:out.length≤13){mo qu:Int}(hmo:60≤mo)(hqu:q≤qu)(ht:tiB mo qu=true){w:Wr}(hw:w∈vrF out):
    ∃(p:Int × Int) (O1 O2:Oc),Ok Tryz.prog 13 [rssC out,tiC mo qu,wrC w] (.fr (tupT [ivC p,intC 0]))∧IvS (vrF out).length (rowsD (vrF out) mo qu (msF out)) (posD (vrF out) w) O1 O2 p:=by
  obtain ⟨v1,v2,v3,v4,v5,v6⟩:=tr_vr hl hts hq hM h ho;have hrw:=tr_rw hl hts hq hM h ho ht;obtain ⟨p,O1,O2,hB,hI⟩:=tr_bounds hl hts hq hM h ho hmo hqu ht ((posD_at v2).1 hw).1;refine ⟨p,O1,O2,Interval_gen out mo qu w (O1:=O1) (O2:=O2) (ends_fine out (by omega) mo qu w (by rw [hrw]) (by rw [v1];exact hw) (by rw [v1];exact v2) (by rw [v1];dsimp only;omega) ?_),hI⟩;rw [hrw,v1];exact hB
theorem Interval_miss(hl:ts.length=(wiB 2).length)(hts:∀y∈ts,0≤y∧y≤60)(hq:0≤q∧q≤100)(hM:∀f,f<2→2≤M f∧M f≤4)(h:TrP ts q M out)(ho:out.length≤13){mo qu:Int}(ht:tiB mo qu=true){w:Wr}(hw:w ∉ vrF out):
    Ok Tryz.prog 13 [rssC out,tiC mo qu,wrC w] (.fr (tupT [ivC (0,0),intC 8])):=by
  obtain ⟨v1,v2,v3,v4,v5,v6⟩:=tr_vr hl hts hq hM h ho;have hrw:=tr_rw hl hts hq hM h ho ht;exact Interval_gen out mo qu w (O1:=oc0) (O2:=oc0) (ends_miss out (by omega) mo qu w (by rw [hrw]) (by rw [v1];exact hw) (by rw [v1];exact v2) (by rw [v1];dsimp only;omega))
theorem tr_narrow{o2:List Rs}(hl:ts.length=(wiB 2).length)(hts:∀y∈ts,0≤y∧y≤60)(hq:0≤q∧q≤100)(hM:∀f,f<2→2≤M f∧M f≤4)(h:TrP ts q M out)(ho:out.length≤13)(h2:TrP ts q M o2)(ho2:o2.length≤13)(hs:∀r∈o2,r∈out)
    {mo qu:Int} (hmo:60≤mo∧mo≤1000) (hqu:q≤qu∧qu≤1000) (w:Wr):
    ∃(e:Int) (a b d:Int × Int),(e=0∨e=8)∧Ok Tryz.prog 13 [rssC out,tiC 60 q,wrC w] (.fr (tupT [ivC a,intC e]))∧Ok Tryz.prog 13 [rssC o2,tiC 60 q,wrC w] (.fr (tupT [ivC b,intC e]))∧
      Ok Tryz.prog 13 [rssC out,tiC mo qu,wrC w] (.fr (tupT [ivC d,intC e]))∧b.1≤a.1∧a.2≤b.2∧d.1≤a.1∧a.2≤d.2:=by
  obtain ⟨e1,e2⟩:=tr_sub hl hts hq hM h ho h2 ho2 hs;have t1:tiB 60 q=true:=decide_eq_true (by omega);have t2:tiB mo qu=true:=decide_eq_true (by omega);by_cases hw:w∈vrF out
  · obtain ⟨a,A1,A2,oa,ia⟩:=Interval_in hl hts hq hM h ho (Int.le_refl _) (Int.le_refl _) t1 hw;obtain ⟨b,B1,B2,ob,ib⟩:=Interval_in hl hts hq hM h2 ho2 (Int.le_refl _) (Int.le_refl _) t1 (w:=w) (by rw [e1];exact hw);obtain ⟨d,D1,D2,od,id⟩:=Interval_in hl hts hq hM h ho hmo.1 hqu.1 t2 hw;rw [e1] at ib;obtain ⟨m1,m2⟩:=ia.mono ib (rowsD_sub e2);obtain ⟨m3,m4⟩:=ia.mono id (rowsD_wide hmo.1 hqu.1);exact ⟨0,a,b,d, .inl J,oa,ob,od,m1,m2,m3,m4⟩
  · exact ⟨8,(0,0),(0,0),(0,0), .inr J,Interval_miss hl hts hq hM h ho t1 hw,Interval_miss hl hts hq hM h2 ho2 t1 (by rw [e1];exact hw),Interval_miss hl hts hq hM h ho t2 hw,Int.le_refl _,Int.le_refl _,Int.le_refl _,Int.le_refl _⟩
end
def Stp (d : List Int) : Prop := ∀ t, t < d.length → 20 ≤ tmT d (t + 1) - tmT d t ∧ tmT d (t + 1) - tmT d t ≤ 49
theorem fIv0:fldInfo Tryz.prog 39 0=some (0,some 1):=by kernel_rfl
theorem fIv1:fldInfo Tryz.prog 39 1=some (1,some 1):=by kernel_rfl
attribute [local irreducible] OkMv
set_option maxHeartbeats 32000000 in
set_option maxRecDepth 20000 in
theorem DelayNarrows_ok(bs:List Int)(mb:Int)(hb:∀b∈bs,0≤b∧b<256)(hmb:0≤mb∧mb<256):Ok Tryz.prog 3 [bytesC bs, .ex (.int .u8 mb)] (boolC true):=by
  refine Ok.enter Tryz.func3 J _ Tryz.ntmps3 J ?_
  intro S w;have hB:Bytes (bs.take 400):=⟨fun b h=>(hb b (List.mem_of_mem_take h)).1,fun b h=>(hb b (List.mem_of_mem_take h)).2,by simp;omega⟩;have hcm:IntKind.i64.wrap mb=mb:=Z2 (by omega) (by omega);have hT4:=truth_ok bs hB 4 4 (by omega) (by omega);have hT2:=truth_ok bs hB 4 2 (by omega) (by omega);refine Qy (Qx fun K hK=> ?_);refine Qv J J J (Qj (hK _ _ (Qz (Qy (Qy ?_)))));clear hK K;refine Qx (fun K hK=> ?_);refine QV goDAwake DAwake_ok J J J J (Xz J J J (Qj (hK _ _ (Qz (Xy J (QW (Qz (Qy ?_))))))));clear hK K;refine Qx (fun K hK=> ?_);refine Qq J J J (Ops.callM [] (fun _=>true) gotruth hT4 J J J (fun _ h=>h.elim) (fun _=>rfl) (fun j hj=>by cases hj) (fun j _=> .inr fun _=>rfl) (fun p hp=>by cases hp) (fun q j hj=>by rcases hj with hj|⟨o,hj⟩ <;>cases hj) (fun x hx=> ?_));obtain ⟨ts,M,ox⟩:=x;obtain ⟨hl,hts,hM,hP,hol,hD⟩:=hx;dsimp only at hl hts hM hP hol ⊢;refine Qq J J J (QK J J J J (QK J J J J (QK J J J J (Qv J J J (Qv J J J (Qv J J J (Qj (hK _ _ (Qz (Qy ?_))))))))));clear hK K;refine Qx (fun K hK=> ?_);refine Qq J J J (Ops.callN 0 goRoll (Roll_ok bs) J J J J J J (Qv J J J (Qj (hK _ _ (Qz (Qy ?_))))));clear hK K;refine Qx (fun K hK=> ?_)
  refine Qq J J J (Ops.callM [(0,_)] (fun _=>true) gotruth hT2 J J J (fun _ h=>h.elim) (fun _=>rfl) (fun j _=>⟨rfl,fun _=>rfl⟩) (fun j _=> .inr fun _=>rfl) (fun p hp=>by cases hp) (fun q j hj=>by rcases hj with hj|⟨o,hj⟩ <;>cases hj) (fun y hy=> ?_));obtain ⟨ts2,M2,oy⟩:=y;obtain ⟨hl2,hts2,hM2,hP2,hol2,hD2⟩:=hy;dsimp only at hl2 hts2 hM2 hP2 hol2 ⊢;have hpre:=TrD.pre (m:=2) (j:=2) hD hD2;obtain ⟨e1,e2,ext,e3⟩:=hpre;dsimp only at e1 e2 e3;subst e1;subst e2
  have hN:=fun (mo qu:Int) (hmo:60≤mo∧mo≤1000) (hqu:4≤qu∧qu≤1000) (w:Wr)=>tr_narrow hl hts (by omega) hM hP hol hP2 hol2 (fun r hr=>by rw [e3];exact List.mem_append.2 (.inl hr)) hmo hqu w
  have hlen:oy.length≤ox.length:=by rw [e3,List.length_append];omega
  have hw7:=wiT_len;clear hT4 hT2 hP hP2 hD hD2 hM hM2 hts hts2 e3 hl hl2;generalize wiB 2=ws at*;generalize bs.take 400=B0 at*;refine Qq J J J (QK J J J J (QK J J J J (QK J J J J (Qv J J J (Qv J J J (Qv J J J (Qj (hK _ _ (Qz (Qy (Qy ?_)))))))))));clear hK K;refine Qx (fun K hK=> ?_);refine Qq J J J (Qh J J sRes.und (List.length_map ..) J (Qq J J J (Qh J J sRes.und (List.length_map ..) J (Qk igtr J J J J (Qj (hK _ _ (Qz ?_)))))));clear hK K;refine Q2 J (fun g=>absurd g (by omega)) (fun _=> ?_);refine QW (Qz (Qy (Qx fun K hK=> ?_)));refine Qo J bTi J (.one J J J J (.one J J J J .nil)) J (Qq J J J (Z5 (q:=mb) J J uU8 uInt hcm J (Qk (iadd (by omega) (by omega)) J J J J ?_)));refine Qq J J J (Ops.callB goNext (Next_ok B0 0 5 (by decide) (by decide) hB) J J J J J (fun z hz=> ?_));obtain ⟨u,c1⟩:=z;dsimp only at hz ⊢
  refine Qk (iadd (by omega) (by omega)) J J J J ?_
  refine Qo J bTi J (.one J J J J (.one J J J J .nil)) J (Qf 2 J J zvTi J J J (Qf 3 J J zvTi J J J (Qa 2 J J J J J szTi J J (Qa 2 J J J J J szTi J J ?_))));have hN:=hN (60+mb) (4+u) (by omega) (by omega);generalize 60+mb=mo at*;generalize 4+u=qu at*;refine Qj (hK _ _ (Qz (Qy (Qy ?_))));clear hK K;refine Qx (fun K hK=> ?_);refine Qq J J J (Qh J J sWrs.und (List.length_map ..) J (Qq J J J (Qj (hK _ _ (Qz (Q3 ?_))))));clear hK K
  refine Qs (α:=Nat) (fun i=>i≤ws.length)
    (fun i=>[(5, .ct (rssC ox)),(9, .ct (rssC oy)),(12, .own 2),(13, .own 3),(51, .ct (wrsC ws)),(52, .ct (intC ws.length)),(53, .ct (intC i))])
    (fun _=>[(3, .box 32 (tiCs mo qu)),(2, .box 32 (tiCs 60 4)),(0, .box 98 (codes B0 c1))]) (fun i=>ws.length - i) 0 (Nat.zero_le _) (by exact Qu J ⟨rfl,rfl,rfl,rfl,rfl,rfl,rfl,trivial⟩) ?_
  intro i hi
  try dsimp only at hi ⊢
  refine Qy (Qx fun K hK=> ?_);refine Qk ilss J J J J (Qj (hK _ _ (Qz (Qy ?_))));clear hK K;refine Q2 J (fun g=> ?_) (fun g=> ?_);rotate_left
  · refine Qm (Qz (Qy (Qx fun K hK=> ?_)));refine Qv J J J (Qj (hK _ _ (Qz (Q4 ?_))));clear hK K;refine Q1 [_] rfl (QX J QZ) J J
  refine QW (Qz (Qy (Q3 (Qy (Qx fun K hK=> ?_)))))
  refine Xx J J J sWrs (by omega) (wrs_at (by omega) (by omega)) J ?_
  rw [show (i:Int).toNat=i from rfl];generalize ws.getD i wr0=x;obtain ⟨e,a,b,d,he,hA,hBq,hC,m1,m2,m3,m4⟩:=hN x;refine Xc (n:=2) J J J Zs J J (Qf 1 J J zvWire J J J (Qa 2 J J J J J szWire J J (Qj (hK _ _ (Qz (Qy ?_))))));clear hK K;refine Qx (fun K hK=> ?_);refine Qq J J J (Qc (n:=2) J J J J J lTi J (Qc (n:=2) J J J J J Zs J (QV goInterval hA J J J J (Qq J J J (QK J J J J (QK J J J J (Qf 4 J J zvIv J J J (Qa 2 J J J J J szIv J J (Qv J J J (Qj (hK _ _ (Qz (Qy ?_)))))))))))));clear hK K;refine Qx (fun K hK=> ?_);refine Qq J J J (Qc (n:=2) J J J J J lTi J (Qc (n:=2) J J J J J Zs J (QV goInterval hBq J J J J (Qq J J J (QK J J J J (QK J J J J (Qf 5 J J zvIv J J J (Qa 2 J J J J J szIv J J (Qv J J J (Qj (hK _ _ (Qz (Qy ?_)))))))))))));clear hK K;refine Qx (fun K hK=> ?_);refine Qq J J J (Qc (n:=2) J J J J J lTi J (Qc (n:=2) J J J J J Zs J (QV goInterval hC J J J J (Qq J J J (QK J J J J (QK J J J J (Qf 6 J J zvIv J J J (Qa 2 J J J J J szIv J J ?_))))))));clear hA hBq hC hN;rcases he with rfl|rfl
  · refine Qv J J J (Qj (hK _ _ (Qz (Qy (Qy ?_)))));clear hK K;refine Qx (fun K hK=> ?_);refine Qq J J J (Qq J J J (Qk ineq J J J J (Qq J J J (Qq J J J (Qq J J J (Qk ineq J J J J (Q7 J J J J (Qj (hK _ _ (Qz (Xy J (QW (Qz (Qy (Qy ?_)))))))))))))));clear hK K;refine Qx (fun K hK=> ?_);refine Qq J J J (Qk ineq J J J J (Qj (hK _ _ (Qz (Xy J (QW (Qz (Qy ?_))))))));clear hK K;refine Qx (fun K hK=> ?_);refine QJ J J J fIv0 J (QQ J J J J J lInt J (QJ J J J fIv0 J (QQ J J J J J lInt J (Qk igtr J J J J (Qq J J J (Qi 95 J (fun g=>absurd g (by omega)) (fun _=> ?_)))))));refine QJ J J J fIv1 J (QQ J J J J J lInt J (QJ J J J fIv1 J (QQ J J J J J lInt J (Qk ilss J J J J (Q7 J J J J (Qq J J J (Qi 102 J (fun g=>absurd g (by omega)) (fun _=> ?_))))))));refine QJ J J J fIv0 J (QQ J J J J J lInt J (QJ J J J fIv0 J (QQ J J J J J lInt J (Qk igtr J J J J (Q7 J J J J (Qq J J J (Qi 109 J (fun g=>absurd g (by omega)) (fun _=> ?_))))))));refine QJ J J J fIv1 J (QQ J J J J J lInt J (QJ J J J fIv1 J (QQ J J J J J lInt J (Qk ilss J J J J (Q7 J J J J (Qj (hK _ _ (Qz ?_))))))));clear hK K
    refine Q2 J (fun g=>absurd g (by omega)) (fun _=> ?_);refine QW (Qz (Qx fun K hK=> ?_))
    refine Qk (iadd (by omega) (by omega)) J J J J ?_
    refine Qq J J J (Qj (hK _ _ (Q6 ?_)));clear hK K;refine Xq 6 (Xq 5 (Xq 4 (Xq 1 ?_)));refine Q9 (i+1) (by omega) (by omega) (by exact Qu J ⟨rfl,rfl,rfl,rfl,rfl,rfl,by simp only [Int.natCast_add];rfl,trivial⟩)
  · refine Qv J J J (Qj (hK _ _ (Qz (Qy (Qy ?_)))));clear hK K;refine Qx (fun K hK=> ?_);refine Qq J J J (Qq J J J (Qk ineq J J J J (Qq J J J (Qq J J J (Qq J J J (Qk ineq J J J J (Q7 J J J J (Qj (hK _ _ (Qz (Xy J (QW (Qz (Qy (Qy ?_)))))))))))))));clear hK K;refine Qx (fun K hK=> ?_);refine Qq J J J (Qk ineq J J J J (Qj (hK _ _ (Qz (XZ J (Qy (Qy ?_)))))));clear hK K;refine Qx (fun K hK=> ?_);refine Qq J J J (Qk ineq J J J J (Qj (hK _ _ (Qz (Xy J (QW (Qz (Qm (Qz ?_)))))))));clear hK K;refine Qx (fun K hK=> ?_)
    refine Qk (iadd (by omega) (by omega)) J J J J ?_
    refine Qq J J J (Qj (hK _ _ (Q6 ?_)));clear hK K;refine Xq 6 (Xq 5 (Xq 4 (Xq 1 ?_)));refine Q9 (i+1) (by omega) (by omega) (by exact Qu J ⟨rfl,rfl,rfl,rfl,rfl,rfl,by simp only [Int.natCast_add];rfl,trivial⟩)
end Go.Proofs.YtojkdfilabmafaaGreat
namespace Go.Proofs.YtojkdfilabmafaaGreat
open Go.Own Go.Limbs
section
variable {H : Type} {enc : TypeId × Value → H} {P : Program} {w : World} {base : Nat} {spare : Nat → Bool} {held : Bool}
theorem slice_in{α:Type}{t e:TypeId}{n fuel:Nat}{cs0:List Value}{x:DataW H × List MemPlace}(ht:P.underlying t=some (.slice e))(hn:P.cellsOf e=n)(hn0:0<n)(f:α→List CT)(hf:∀z,(f z).length=n)(good:α→Prop)
    (hE:∀m cs y,DataW.trod enc P w base spare held m e cs=some y→cs.length=n→∃z,cells (fun _=>True) w (f z) cs∧good z)
    (h:DataW.trod enc P w base spare held fuel t cs0=some x):∃(v:Value) (zs:List α),cs0=[v]∧zs.length≤9223372036854775807∧(∀z∈zs,good z)∧(CT.fr (sliceT n (zs.map f))).p (fun _=>True) w v:=by
  rcases DataW.trod_slice ht h with ⟨h0,_⟩|⟨a,len,cap,elems,rest,m,_,rfl,rfl,_,hl,hm,hlen,hel,_⟩
  · exact ⟨_,[],h0,Nat.zero_le _,(fun z hz=>nomatch hz),nil_is n _ w⟩
  rw [hn] at hel
  have key:∀k,k≤len→∃(zs:List α) (vs:List Value),zs.length=k∧(∀z∈zs,good z)∧cells (fun _=>True) w (zs.map f).flatten vs∧vs.length=k*n∧∀i u,vs[i]? =some u→w.cell? (a.add i)=some u:=by
    intro k
    induction k with
    |zero=>intro _;exact ⟨[],[],rfl,(fun z hz=>nomatch hz),trivial,(Nat.zero_mul n).symm,fun i u hu=>by simp at hu⟩
    |succ k ih=>
      intro hk
      obtain ⟨zs,vs,e1,e2,e3,e4,e5⟩:=ih (by omega)
      have h1:=hel k (by omega)
      rw [List.getElem?_eq_getElem (show k<elems.length by omega),Option.bind_eq_some_iff] at h1
      obtain ⟨cs,h2,h3⟩:=h1
      obtain ⟨_,h4,h5⟩:=World.cells?_some h2
      obtain ⟨z,h6,h7⟩:=hE _ _ _ h3 h4
      refine ⟨zs++ [z],vs++cs,by simp [e1],?_,?_,by rw [List.length_append,e4,h4,Nat.succ_mul],?_⟩
      · intro y hy
        rcases List.mem_append.1 hy with hy|hy
        · exact e2 y hy
        · rw [List.mem_singleton.1 hy];exact h7
      · rw [List.map_append,List.flatten_append]
        refine cells.append e3 ?_
        simpa using h6
      · intro i u hu
        rcases Nat.lt_or_ge i (k*n) with hi|hi
        · rw [List.getElem?_append_left (by omega)] at hu
          exact e5 i u hu
        · rw [List.getElem?_append_right (by omega),e4] at hu
          have hlt:i - k*n<n:=by
            have:=(List.getElem?_eq_some_iff.1 hu).1
            omega
          have:=h5 (i - k*n) hlt
          rw [Addr.add_add,show k*n+(i - k*n)=i by omega] at this
          rw [this,hu]
  obtain ⟨zs,vs,e1,e2,e3,e4,e5⟩:=key len (Nat.le_refl _)
  have hmx:maxLen=9223372036854775807:=by decide
  refine ⟨_,zs,rfl,by omega,e2,some a,cap,by rw [List.length_map,e1],by rw [List.length_map,e1];exact hl,hm,fun y hy=>by obtain ⟨z,_,rfl⟩:=List.mem_map.1 hy;exact hf z,fun hne=> ?_⟩
  have hpos:0<len:=by
    rcases Nat.eq_zero_or_pos len with h0|h0
    · rw [h0] at e1;rw [List.length_eq_zero_iff.1 e1] at hne;exact absurd rfl hne
    · exact h0
  have hvl:0<vs.length:=by rw [e4];exact Nat.mul_pos hpos hn0
  have h0:=e5 0 _ (List.getElem?_eq_getElem hvl)
  obtain ⟨b,o,sp⟩:=a
  have hsp:sp=none∧b<w.heap.size:=by
    simp only [Addr.add,if_true,World.cell?] at h0
    cases e:w.heap[b]? with
    |none=>rw [e] at h0;cases h0
    |some ob=>
      rw [e] at h0
      cases ob with
      |cells c t r=>
        refine ⟨?_,ZJ e⟩
        cases sp with
        |none=>rfl
        |some q=>simp at h0
      |_=>cases h0
  obtain ⟨rfl,hb⟩:=hsp
  refine ⟨b,o,rfl,trivial,hb,vs,e3,fun i u hu=> ?_⟩
  have h1:=e5 i u hu
  have h3:(⟨b,o,none⟩:Addr).add i=⟨b,o+i,none⟩:=by
    unfold Addr.add
    split
    · rename_i h;subst h;rfl
    · rfl
  rw [h3] at h1
  exact h1
theorem bytes_in{t e:TypeId}{fuel:Nat}{cs0:List Value}{x:DataW H × List MemPlace}(ht:P.underlying t=some (.slice e))(he:P.underlying e=some (.int .u8))(hn:P.cellsOf e=1)
    (h:DataW.trod enc P w base spare held fuel t cs0=some x):∃(v:Value) (zs:List Int),cs0=[v]∧(∀z∈zs,0≤z∧z<256)∧(bytesC zs).p (fun _=>True) w v:=by
  obtain ⟨v,zs,h1,_,h2,h3⟩:=slice_in ht hn (by decide) (fun z:Int=>[CT.ex (Value.int .u8 z)]) (fun _=>rfl) (fun z=>0≤z∧z<256) (fun m cs y hy _=>by
    obtain ⟨z,rfl,_,hw⟩:=DataW.trod_int he hy
    exact ⟨z,⟨rfl,trivial⟩,by have:=bounds_u8 hw;omega⟩) h
  exact ⟨v,zs,h1,h2,h3⟩
end
end Go.Proofs.YtojkdfilabmafaaGreat
