/- The proof that DelayTruth holds for every input, without conditions: part 6 of 6. -/
import Derived.Test.YtojkdfilabmafaaGreatZ5
import Derived.ProofKit
import Derived.OpenShut
import Derived.ShutString
import Derived.ChangeOld
import Derived.DataElems
import Derived.Test.YtojkdfilabmafaaGreatRows
namespace Go.Proofs.YtojkdfilabmafaaGreat
open Go.Own Go.Limbs
def TrP (ts : List Int) (q : Int) (M : Nat → Nat) (out : List Rs) : Prop :=
  (∀ i, i < out.length → ∃ (f t : Nat) (u : Int), f < 2 ∧ 1 ≤ t ∧ t ≤ M f ∧ (0 ≤ u ∧ u ≤ q) ∧ out.getD i rs0 = rpH f i t (smK (wiB 2) ts (ptT.getD f []) t + u) ((ptT.getD f []).getD (t - 1) 0)) ∧
  (∀ f, f < 2 → ∀ t : Nat, 1 ≤ t → t ≤ M f → ∃ r ∈ out, r.fl = f ∧ r.tt = t)
def upM (M : Nat → Nat) (f t : Nat) : Nat → Nat := fun g => if g = f then t else M g
theorem upM_self(M:Nat→Nat)(f t:Nat):upM M f t f=t:=if_pos rfl
theorem upM_ne{M:Nat→Nat}{f t g:Nat}(h:g≠f):upM M f t g=M g:=if_neg h
theorem TrP.nil(ts:List Int)(q:Int):TrP ts q (fun _=>0) []:=⟨fun _ h=>absurd h (Nat.not_lt_zero _),fun _ _ t h1 h2=>by have:t≤0:=h2;omega⟩
theorem getD_snocL{out:List Rs}{r:Rs}{i:Nat}(h:i<out.length):(out++ [r]).getD i rs0=out.getD i rs0:=by
  rw [List.getD_eq_getElem?_getD,List.getElem?_append_left h,←List.getD_eq_getElem?_getD]
theorem getD_snocR{out:List Rs}{r:Rs}:(out++ [r]).getD out.length rs0=r:=by
  rw [List.getD_eq_getElem?_getD,List.getElem?_append_right (Nat.le_refl _),Nat.sub_self];rfl
theorem TrP.add{ts:List Int}{q:Int}{M:Nat→Nat}{out:List Rs}(h:TrP ts q M out){f t:Nat}{u:Int}(hf:f<2)(h1:1≤t)(h2:t≤M f)(hu:0≤u∧u≤q):
    TrP ts q M (out++ [rpH f out.length t (smK (wiB 2) ts (ptT.getD f []) t+u) ((ptT.getD f []).getD (t - 1) 0)]):=by
  refine ⟨fun i hi=> ?_,fun g hg s hs1 hs2=> ?_⟩
  · rw [List.length_append] at hi
    by_cases hc:i<out.length
    · rw [getD_snocL hc];exact h.1 i hc
    · have:i=out.length:=by simp only [List.length_cons,List.length_nil] at hi;omega
      subst this
      rw [getD_snocR]
      exact ⟨f,t,u,hf,h1,h2,hu,rfl⟩
  · obtain ⟨r,hr,e⟩:=h.2 g hg s hs1 hs2
    exact ⟨r,List.mem_append.2 (.inl hr),e⟩
theorem TrP.grow{ts:List Int}{q:Int}{M:Nat→Nat}{out:List Rs}(h:TrP ts q M out){f:Nat}{u:Int}(hf:f<2)(hu:0≤u∧u≤q):
    TrP ts q (upM M f (M f+1)) (out++ [rpH f out.length (M f+1:Nat) (smK (wiB 2) ts (ptT.getD f []) (M f+1)+u) ((ptT.getD f []).getD (M f) 0)]):=by
  refine ⟨fun i hi=> ?_,fun g hg s hs1 hs2=> ?_⟩
  · rw [List.length_append] at hi
    by_cases hc:i<out.length
    · rw [getD_snocL hc]
      obtain ⟨g,t,v,a1,a2,a3,a4,a5⟩:=h.1 i hc
      refine ⟨g,t,v,a1,a2,?_,a4,a5⟩
      unfold upM
      split
      · rename_i e;subst e;omega
      · exact a3
    · have:i=out.length:=by simp only [List.length_cons,List.length_nil] at hi;omega
      subst this
      rw [getD_snocR]
      exact ⟨f,M f+1,u,hf,by omega,by rw [upM_self];omega,hu,rfl⟩
  · by_cases hc:g=f∧s=M f+1
    · obtain ⟨rfl,rfl⟩:=hc
      exact ⟨_,List.mem_append.2 (.inr (List.mem_cons_self ..)),rfl,rfl⟩
    · have:s≤M g:=by
        unfold upM at hs2
        split at hs2
        · rename_i e
          subst e
          have:s≠M g+1:=fun e=>hc ⟨rfl,e⟩
          omega
        · exact hs2
      obtain ⟨r,hr,e⟩:=h.2 g hg s hs1 this
      exact ⟨r,List.mem_append.2 (.inl hr),e⟩
theorem TrP.le{ts:List Int}{q:Int}{M:Nat→Nat}{out:List Rs}(h:TrP ts q M out){i:Nat}(hi:i<out.length){f:Nat}(hf:(out.getD i rs0).fl=f):(out.getD i rs0).tt≤M f∧1≤(out.getD i rs0).tt:=by
  obtain ⟨g,t,u,a1,a2,a3,_,a5⟩:=h.1 i hi
  rw [a5] at hf ⊢
  have:(g:Int)=f:=hf
  have:g=f:=by omega
  subst this
  exact ⟨by show (t:Int)≤M g;omega,by show (1:Int)≤t;omega⟩
abbrev TSt := Nat × Nat × (Nat → Nat) × List Rs × Nat
def rpT (ts : List Int) (f t n : Nat) (u : Int) : Rs := rpH f n t (smK (wiB 2) ts (ptT.getD f []) t + u) ((ptT.getD f []).getD (t - 1) 0)
def stT (bs ts : List Int) (q : Int) (x : TSt) : TSt :=
  if x.1 < 2 then
    if (x.2.1 : Int) ≤ 2 + (nxt bs x.2.2.2.2 3).1 then
      (x.1, x.2.1 + 1, upM x.2.2.1 x.1 x.2.1, x.2.2.2.1 ++ [rpT ts x.1 x.2.1 x.2.2.2.1.length (nxt bs (nxt bs x.2.2.2.2 3).2 (q + 1)).1], (nxt bs (nxt bs x.2.2.2.2 3).2 (q + 1)).2)
    else (x.1 + 1, 1, x.2.2.1, x.2.2.2.1, (nxt bs x.2.2.2.2 3).2)
  else x
def itT (bs ts : List Int) (q : Int) (c : Nat) : Nat → TSt
  | 0 => (0, 1, (fun _ => 0), [], c)
  | k + 1 => stT bs ts q (itT bs ts q c k)
theorem itT_add{bs ts:List Int}{q u v:Int}{c c1 c2 k f t a:Nat}{M:Nat→Nat}{out:List Rs}(h:(f,t,M,out,a)=itT bs ts q c k)(hf:f<2)(h1:(u,c1)=nxt bs a 3)(hu:(t:Int)≤2+u)(h2:(v,c2)=nxt bs c1 (q+1)):
    (f,t+1,upM M f t,out++ [rpT ts f t out.length v],c2)=itT bs ts q c (k+1):=by
  show _=stT bs ts q (itT bs ts q c k)
  rw [←h]
  unfold stT
  dsimp only
  rw [if_pos hf,←h1]
  dsimp only
  rw [if_pos hu,←h2]
theorem itT_skip{bs ts:List Int}{q u:Int}{c c1 k f t a:Nat}{M:Nat→Nat}{out:List Rs}(h:(f,t,M,out,a)=itT bs ts q c k)(hf:f<2)(h1:(u,c1)=nxt bs a 3)(hu:¬(t:Int)≤2+u):
    (f+1,1,M,out,c1)=itT bs ts q c (k+1):=by
  show _=stT bs ts q (itT bs ts q c k)
  rw [←h]
  unfold stT
  dsimp only
  rw [if_pos hf,←h1]
  dsimp only
  rw [if_neg hu]
def moT (bs ts : List Int) (q : Int) (M : Nat → Nat) (x : List Rs × Nat) : List Rs × Nat :=
  let f := nxt bs x.2 2
  let t := nxt bs f.2 (M f.1.toNat)
  let u := nxt bs t.2 (q + 1)
  (x.1 ++ [rpT ts f.1.toNat (t.1.toNat + 1) x.1.length u.1], u.2)
def moI (bs ts : List Int) (q : Int) (M : Nat → Nat) (x : List Rs × Nat) : Nat → List Rs × Nat
  | 0 => x
  | k + 1 => moT bs ts q M (moI bs ts q M x k)
theorem moI_add{bs ts:List Int}{q u:Int}{M:Nat→Nat}{x:List Rs × Nat}{k f t a c1 c2 c3:Nat}{out:List Rs}(h:(out,a)=moI bs ts q M x k)(h1:((f:Int),c1)=nxt bs a 2)(h2:((t:Int),c2)=nxt bs c1 (M f))(h3:(u,c3)=nxt bs c2 (q+1)):
    (out++ [rpT ts f (t+1) out.length u],c3)=moI bs ts q M x (k+1):=by
  show _=moT bs ts q M (moI bs ts q M x k)
  rw [←h]
  unfold moT
  dsimp only
  rw [←h1]
  dsimp only
  rw [Int.toNat_natCast,←h2]
  dsimp only
  rw [Int.toNat_natCast,←h3]
def TrD (bs : List Int) (q : Int) (m : Nat) (x : List Int × (Nat → Nat) × List Rs) : Prop :=
  ∃ (c1 k c2 : Nat) (o : List Rs), (x.1, c1) = drT bs (wiB 2).length ∧ (2, 1, x.2.1, o, c2) = itT bs x.1 q c1 k ∧ x.2.2 = (moI bs x.1 q x.2.1 (o, c2) m).1
end Go.Proofs.YtojkdfilabmafaaGreat
namespace Go.Own
open Go.RowKit
theorem St.bext{X:Ctx}{L:AL}{B B' :BL}{c:Code}{Q:Exit→Act→World→Prop}(hb:∀j,bget B' j=bget B j)(h:St X L B' c Q):St X L B c Q:=fun a ρ w hI=>h a ρ w (hI.bext hb)
end Go.Own
namespace Go.Proofs.YtojkdfilabmafaaGreat
open Go.Own Go.Limbs
noncomputable abbrev trX (S : BSet) (w : World) (ρ0 : Nat → Value) (vc v13 v10 v11 v12 v9 v4 : Value) : Ctx := (((((((lentM Tryz.prog 127 S w [] [] ρ0).pin 0 vc).pin 13 v13).pin 10 v10).pin 11 v11).pin 12 v12).pin 9 v9).pin 4 v4
def kpTr (j : Nat) : Bool := Nat.beq j 13 || Nat.beq j 10 || Nat.beq j 11 || Nat.beq j 12 || Nat.beq j 9 || Nat.beq j 0 || Nat.beq j 4
theorem kpTr_mem{v13 v10 v11 v12 v9 vc v4:Value}{j:Nat}(h:kpTr j=true):j∈ [(13,v13),(10,v10),(11,v11),(12,v12),(9,v9),(0,vc),(4,v4)].map (·.1):=by
  unfold kpTr at h
  simp only [Bool.or_eq_true] at h
  rcases h with (((((h|h)|h)|h)|h)|h)|h <;>(rw [Nat.eq_of_beq_eq_true h];simp)
abbrev fvT : FuncId := 41
attribute [local irreducible] St Ops Go.Own.Fin Ok OkB OkN OkT OkL OkF OkM OkMv
section
variable {S : BSet} {w0 : World} {ρ0 : Nat → Value} {vc v13 v10 v11 v12 v9 v4 : Value} {L : AL} {ops : Array Oper} {K : Act → World → Prop} {r : Pl} {x : Operand} {d : Nat} {t' : TypeId} {pos : String} {af : Array Edge} {g : Option (Nat × Bool)}
theorem callTr{bs:List Int}{ts:List Int}{q:Int}{out:List Rs}{c0:Nat}{ho:Value}{args:List Operand}{tys:Array TypeId}(hb:Bytes bs)(hbor:∀gb,(lentM Tryz.prog 127 S w0 [] [] ρ0).bor gb→S gb)(f t:Nat)(hf:f<2)(ht:1≤t∧t≤4)(htl:ts.length=(wiB 2).length)
    (hts:∀y∈ts,0≤y∧y≤60) (hq:0≤q∧q≤100) (hol:out.length≤100)
    (hx:ev L x=some (.ct (.fr (closT fvT ([v13,v10,v11,v12,v9,v4].map CT.ex))))) (hg:gd ops L g=some true) (hargs:evS L args=some [.ct (intC f), .ct (intC t)]) (hn:Nat.blt d 127=true)
    (h:∀(u:Int) (c1:Nat) (v:Value),0≤u∧u≤q→v.oneCell' =true→(u,c1)=nxt bs c0 (q+1)→
      Ops (trX S w0 ρ0 vc v13 v10 v11 v12 v9 v4) ops r ((d, .ct (retC []))::keepL kpTr L) (trB ptT (wiB 2) ts vc q bs v (out++ [rpH f out.length t (smK (wiB 2) ts (ptT.getD f []) t+u) ((ptT.getD f []).getD (t - 1) 0)]) c1) K):
    Ops (trX S w0 ρ0 vc v13 v10 v11 v12 v9 v4) ops (.cons ⟨some d, .call {callee:= .value x,args:=args.toArray,argTypes:=tys},t',pos,af,g⟩ .any r) L (trB ptT (wiB 2) ts vc q bs ho out c0) K:=by
  have hw:=wiB_len 2
  have hp4:(ptT.getD f []).length=4:=by
    have:f=0∨f=1:=by omega
    rcases this with rfl|rfl <;>rfl
  have h1:=truth1_ok bs hb ptT (wiB 2) ts f t q out c0 vc ho v13 v10 v11 v12 v9 v4 ⟨by omega,by show (f:Int)<2;omega⟩ (by decide) (by show (ptT.getD f []).length≤16;omega) (by show 1≤(t:Int)∧(t:Int)≤((ptT.getD f []).length:Nat);omega) htl.symm (by omega) hts hq hol
  have e1:((t:Int) - 1).toNat=t - 1:=by omega
  rw [e1] at h1
  refine Ops.callCM (As:=[.ct (intC f), .ct (intC t)]) (cs:=[v13,v10,v11,v12,v9,v4]) [13,10,11,12,9,4] [] kpTr gotruth1 h1 hx rfl ?_ hg hargs hn hbor (fun j=>by rw [List.append_nil]) (fun j hj=>by cases hj) (fun j hj=> .inl (kpTr_mem hj)) ?_ (fun q j hj=>by rcases hj with hj|⟨o,hj⟩ <;>cases hj) (fun q hJ=> ?_)
  · intro p hp
    simp only [List.mem_cons,List.not_mem_nil,or_false] at hp
    rcases hp with rfl|rfl|rfl|rfl|rfl|rfl|rfl <;>rfl
  · intro p hp
    simp only [List.mem_cons,List.not_mem_nil,or_false] at hp
    right
    rcases hp with rfl|rfl|rfl|rfl|rfl|rfl|rfl|hp
    any_goals (simp;done)
    cases hp
  · rw [List.append_nil]
    exact h q.1 q.2.1 q.2.2 hJ.1.1 hJ.1.2 hJ.2
end
theorem trB_ext{ts:List Int}{vc:Value}{q:Int}{bs:List Int}{c:Nat}:∀j,bget (trB ptT (wiB 2) ts vc q bs nilV [] c) j=
    bget [(22, .rowx nilV 47 17 []),(13, .box 94 [pthsC ptT]),(12, .box 24 [.ex nilV]),(11, .box 26 [intsC ts]),(10, .box 25 [wrsC (wiB 2)]),(9, .box 29 [.ex vc]),(0, .box 98 (codes bs c)),(4, .box 3 [intC q])] j:=by
  intro j
  by_cases h1:j=13
  · subst h1;rfl
  by_cases h2:j=10
  · subst h2;rfl
  by_cases h3:j=11
  · subst h3;rfl
  by_cases h4:j=12
  · subst h4;rfl
  by_cases h5:j=22
  · subst h5;rfl
  by_cases h6:j=9
  · subst h6;rfl
  by_cases h7:j=0
  · subst h7;rfl
  by_cases h8:j=4
  · subst h8;rfl
  rw [QW _ _ (Ne.symm h1),QW _ _ (Ne.symm h2),QW _ _ (Ne.symm h3),QW _ _ (Ne.symm h4),QW _ _ (Ne.symm h5),QW _ _ (Ne.symm h6),QW _ _ (Ne.symm h7),QW _ _ (Ne.symm h8)]
  rw [QW _ _ (Ne.symm h5),QW _ _ (Ne.symm h1),QW _ _ (Ne.symm h4),QW _ _ (Ne.symm h3),QW _ _ (Ne.symm h2),QW _ _ (Ne.symm h6),QW _ _ (Ne.symm h7),QW _ _ (Ne.symm h8)]
end Go.Proofs.YtojkdfilabmafaaGreat
namespace Go.Proofs.YtojkdfilabmafaaGreat
open Go.Own Go.Limbs
attribute [local irreducible] St Ops Go.Own.Fin Ok OkB OkN OkT OkL OkF OkM OkMv
def TrJ (bs : List Int) (q : Int) (m : Nat) (x : List Int × (Nat → Nat) × List Rs) : Prop :=
  x.1.length = (wiB 2).length ∧ (∀ y ∈ x.1, 0 ≤ y ∧ y ≤ 60) ∧ (∀ f, f < 2 → 2 ≤ x.2.1 f ∧ x.2.1 f ≤ 4) ∧ TrP x.1 q x.2.1 x.2.2 ∧ x.2.2.length ≤ 13 ∧ TrD bs q m x
theorem gotruth:InGo Tryz.prog 10:=InGo.of Tryz.func10 rfl (by decide)
set_option maxHeartbeats 16000000 in
set_option maxRecDepth 20000 in
theorem truth_ok(l:List Int)(hb:Bytes (l.take 400))(q more:Int)(hq:0≤q∧q≤100)(hm:0≤more∧more≤5):
    OkM Tryz.prog 10 [.ct (bytesC l), .ct (intC q), .ct (intC more)] [] [] (TrJ (l.take 400) q more.toNat) (fun x=> .ct (.fr (tupT [rssC x.2.2,wrsC (wiB 2),intsC x.1]))) (fun _=>[]):=by
  refine OkM.enter Tryz.func10 rfl _ Tryz.ntmps10 rfl (fun i hi=>by cases hi) ?_
  intro S w ρ0 hbor
  obtain ⟨m,rfl⟩:=Int.eq_ofNat_of_zero_le hm.1
  have hm5:m≤5:=by omega
  clear hm
  rw [Int.toNat_natCast]
  generalize hmm:(m:Int)=more
  refine truth_begin l hb q more S w ρ0 (fun ts c vc h1 h2 hl hts hdr hvc=> ?_)
  generalize l.take 400=bs at hb hdr ⊢
  refine St.frzX 20 10 0 _ rfl rfl rfl (wrs_frozen 0 _) (fun gb hgb=> .inl (hbor gb hgb)) ?_
  refine St.frzX 21 11 0 _ rfl rfl rfl (Zv 0 _) (fun gb hgb=> .inl (hbor gb hgb)) ?_
  refine St.nilX 22 47 17 rfl rfl ?_
  refine St.bext (B' :=trB ptT (wiB 2) ts vc q bs nilV [] c) trB_ext ?_
  refine St.pin 13 rfl (fun v13 _=> ?_)
  refine St.pin 10 rfl (fun v10 _=> ?_)
  refine St.pin 11 rfl (fun v11 _=> ?_)
  refine St.pin 12 rfl (fun v12 _=> ?_)
  refine St.pin 9 rfl (fun v9 _=> ?_)
  refine St.pin 4 rfl (fun v4 _=> ?_)
  refine Qy ?_
  refine Qx (fun K hK=> ?_)
  refine Ops.nameB 13 13 rfl rfl ?_
  refine Ops.nameB 10 10 rfl rfl ?_
  refine Ops.nameB 11 11 rfl rfl ?_
  refine Ops.nameB 12 12 rfl rfl ?_
  refine Ops.nameB 9 9 rfl rfl ?_
  refine Ops.nameB 4 4 rfl rfl ?_
  refine Ops.makeFunc (cs:=[v13,v10,v11,v12,v9,v4].map CT.ex) rfl rfl rfl ?_
  refine Zd 13 13 rfl rfl rfl ?_
  refine Zd 10 10 rfl rfl rfl ?_
  refine Zd 11 11 rfl rfl rfl ?_
  refine Zd 12 12 rfl rfl rfl ?_
  refine Zd 9 9 rfl rfl rfl ?_
  refine Zd 4 4 rfl rfl rfl ?_
  refine Qv rfl rfl rfl ?_
  refine Qj (hK _ _ ?_)
  clear hK K
  refine Qz ?_
  refine Qy ?_
  refine YJ (α:=(Nat→Nat) × List Rs × Nat × Value) (fun x=>(∀f,f<2→2≤x.1 f∧x.1 f≤4)∧TrP ts q x.1 x.2.1∧x.2.1.length≤8∧∃k,(2,1,x.1,x.2.1,x.2.2.1)=itT bs ts q c k)
    (fun _=>[(2, .ct (intC more)),(9, .own 9),(10, .own 10),(11, .own 11),(12, .own 12),(21, .ct (.fr (closT fvT ([v13,v10,v11,v12,v9,v4].map CT.ex))))])
    (fun x=>trB ptT (wiB 2) ts vc q bs x.2.2.2 x.2.1 x.2.2.1) (fun x hx=> ?_) (fun KN hM=> ?_)
  rotate_left
  · refine Qy ?_
    refine Qx (fun K hK=> ?_)
    refine Zk rfl rfl rfl rfl rfl (by with_reducible exact lPths) rfl ?_
    refine Qf (m:=2) rfl rfl (by with_reducible exact sPths.und) rfl rfl ?_
    (refine Qq rfl rfl rfl ?_;refine Qj (hK _ _ (Qz (Q1 ?_)));clear hK K)
    refine Qr (α:=Nat × (Nat→Nat) × List Rs × Nat × Value) (fun x=>x.1≤2∧(∀f,f<x.1→2≤x.2.1 f∧x.2.1 f≤4)∧(∀f,x.1≤f→x.2.1 f=0)∧TrP ts q x.2.1 x.2.2.1∧x.2.2.1.length≤4*x.1∧∃k,(x.1,1,x.2.1,x.2.2.1,x.2.2.2.1)=itT bs ts q c k)
      (fun x=>[(2, .ct (intC more)),(9, .own 9),(10, .own 10),(11, .own 11),(12, .own 12),(21, .ct (.fr (closT fvT ([v13,v10,v11,v12,v9,v4].map CT.ex)))),(80, .ct (intC 2)),(81, .ct (intC x.1))])
      (fun x=>trB ptT (wiB 2) ts vc q bs x.2.2.2.2 x.2.2.1 x.2.2.2.1) (fun x=>2 - x.1) (0,(fun _=>0),[],c,nilV) ⟨Nat.zero_le _,fun f hf=>absurd hf (Nat.not_lt_zero _),fun _ _=>rfl,TrP.nil _ _,Nat.zero_le _,0,rfl⟩ (by exact Qu rfl ⟨rfl,rfl,rfl,rfl,rfl,rfl,rfl,rfl,trivial⟩) ?_
    clear hdr
    generalize c=c0 at hM ⊢
    clear c
    rintro ⟨f,M,out,c,ho⟩ ⟨hf,hM1,hM2,hT,hol,k0,hk0⟩
    try dsimp only at hf hM1 hM2 hT hol hk0 ⊢
    (refine Qy (Qx fun K hK=> ?_);refine Qk ilss rfl rfl rfl rfl ?_;refine Qj (hK _ _ (Qz (Qy ?_)));clear hK K)
    refine Q2 rfl (fun g=> ?_) (fun g=> ?_)
    rotate_left
    · have hf' :f=2:=by omega
      subst hf'
      (refine Qm (Zn (Zn (Fin.blockE ?_))))
      exact Xk hM (M,out,c,ho) ⟨hM1,hT,hol,k0,hk0⟩ (Qu rfl ⟨rfl,rfl,rfl,rfl,rfl,rfl,trivial⟩)
    (refine QK (Qz (Qy (Q1 (Qy (Qx fun K hK=> ?_)))));refine Qq rfl rfl rfl ?_;refine Qv rfl rfl rfl ?_;refine Qj (hK _ _ (Qz (Qy ?_)));clear hK K;refine Qx (fun K hK=> ?_);refine Qv rfl rfl rfl ?_;refine Qj (hK _ _ (Qz (Q1 ?_)));clear hK K)
    refine Qr (α:=Nat × (Nat→Nat) × List Rs × Nat × Value) (fun x=>(1≤x.1∧x.1≤5)∧(∀g,g<f→2≤x.2.1 g∧x.2.1 g≤4)∧(∀g,f<g→x.2.1 g=0)∧x.2.1 f+1=x.1∧TrP ts q x.2.1 x.2.2.1∧x.2.2.1.length+1≤4*f+x.1∧∃k,(f,x.1,x.2.1,x.2.2.1,x.2.2.2.1)=itT bs ts q c0 k)
      (fun x=>[(2, .ct (intC more)),(9, .own 9),(10, .own 10),(11, .own 11),(12, .own 12),(21, .ct (.fr (closT fvT ([v13,v10,v11,v12,v9,v4].map CT.ex)))),(80, .ct (intC 2)),(81, .ct (intC f)),(22, .ct (intC f)),(23, .ct (intC x.1))])
      (fun x=>trB ptT (wiB 2) ts vc q bs x.2.2.2.2 x.2.2.1 x.2.2.2.1) (fun x=>5 - x.1) (1,M,out,c,ho) ⟨⟨Nat.le_refl _,by show 1≤5;decide⟩,hM1,fun g hg=>hM2 g (by omega),by show M f+1=1;rw [hM2 f (Nat.le_refl _)],hT,by show out.length+1≤4*f+1;omega,k0,hk0⟩ (by exact Qu rfl ⟨rfl,rfl,rfl,rfl,rfl,rfl,rfl,rfl,rfl,rfl,trivial⟩) ?_
    clear hM1 hM2 hT hol hk0 k0
    clear M out c ho
    rintro ⟨t,M,out,c,ho⟩ ⟨⟨ht1,ht5⟩,hM1,hM2,hMt,hT,hol,k0,hk0⟩
    try dsimp only at ht1 ht5 hM1 hM2 hMt hT hol hk0 ⊢
    (refine Qy (Qy (Qx fun K hK=> ?_));refine Qq rfl rfl rfl ?_)
    subst hMt
    refine Zk rfl rfl rfl rfl rfl (by with_reducible exact lPCod) rfl ?_
    refine Zd 85 0 rfl rfl rfl ?_
    refine Ops.callB goNext (NextD_ok bs c 3 (by decide) (by decide) hb) rfl rfl rfl rfl rfl (fun z hz=> ?_)
    obtain ⟨u,c1⟩:=z
    dsimp only at hz ⊢
    (refine Qk (iadd (by omega) (by omega)) rfl rfl rfl rfl ?_;refine Qk ileq rfl rfl rfl rfl ?_;refine Qj (hK _ _ (Qz ?_));clear hK K)
    refine Q2 rfl (fun g2=> ?_) (fun g2=> ?_)
    rotate_left
    · (refine Qm (Qz (Qx fun K hK=> ?_));refine Qk (iadd (by omega) (by omega)) rfl rfl rfl rfl ?_;refine Qq rfl rfl rfl ?_;refine Qj (hK _ _ (Q6 ?_));clear hK K)
      refine Q9 (f+1,M,out,c1,ho) (by show 2 - (f+1)<2 - f;omega) ⟨by show f+1≤2;omega,fun g' hg' =>by
        by_cases e:g' =f
        · subst e;show 2≤M g'∧M g'≤4;omega
        · exact hM1 g' (by have:g' <f+1:=hg';omega),fun g' hg' =>hM2 g' (by have:f+1≤g' :=hg';omega),hT,by show out.length≤4*(f+1);omega,k0+1,itT_skip hk0 (by omega) hz.2 g2⟩ (by exact Qu rfl ⟨rfl,rfl,rfl,rfl,rfl,rfl,rfl,by simp only [Int.natCast_add];rfl,trivial⟩)
    (refine QK (Qz (Qy (Q1 (Qx fun K hK=> ?_))));refine Qq rfl rfl rfl ?_;refine Qq rfl rfl rfl ?_;refine Qq rfl rfl rfl ?_)
    refine callTr hb hbor f (M f+1) (by omega) (by omega) hl hts hq (by omega) rfl rfl rfl rfl (fun u2 c2 v2 hu2 hv2 hd2=> ?_)
    have hG:=hT.grow (f:=f) (by omega) hu2
    (refine Qj (hK _ _ (Qz ?_));clear hK K;refine Qx (fun K hK=> ?_);refine Qq rfl rfl rfl ?_;refine Qk (iadd (by omega) (by omega)) rfl rfl rfl rfl ?_;refine Qv rfl rfl rfl ?_;refine Qj (hK _ _ (Q6 ?_));clear hK K)
    refine Q9 (M f+1+1,upM M f (M f+1),_,c2,v2) (by show 5 - (M f+1+1)<5 - (M f+1);omega) ⟨⟨by show 1≤M f+1+1;omega,by show M f+1+1≤5;omega⟩,fun g' hg' =>by
      show 2≤upM M f (M f+1) g'∧upM M f (M f+1) g'≤4
      rw [upM_ne (by omega)];exact hM1 g' hg',fun g' hg' =>by
      show upM M f (M f+1) g' =0
      rw [upM_ne (by omega)];exact hM2 g' hg',by show upM M f (M f+1) f+1=M f+1+1;rw [upM_self],hG,by
      show (out++ [_]).length+1≤4*f+(M f+1+1)
      rw [List.length_append];simp only [List.length_cons,List.length_nil];omega,k0+1,itT_add hk0 (by omega) hz.2 g2 hd2⟩ (by exact Qu rfl ⟨rfl,rfl,rfl,rfl,rfl,rfl,rfl,rfl,rfl,by simp only [Int.natCast_add];rfl,trivial⟩)
  obtain ⟨M,out,c1,ho⟩:=x
  obtain ⟨hM,hT,hol,k0,hk0⟩:=hx
  dsimp only at hM hT hol hk0 ⊢
  clear h1 h2
  generalize ho0:(out,c1)=x0
  have hx0:(out,c1)=moI bs ts q M x0 (m - m):=by rw [Nat.sub_self];exact ho0
  have hfin:∀o,o=(moI bs ts q M x0 m).1→TrD bs q m (ts,M,o):=fun o h=>⟨c,k0,c1,out,hdr,hk0,by rw [ho0];exact h⟩
  clear hdr hk0 ho0
  subst hmm
  (refine Qy (Q1 ?_))
  refine Qr (α:=Nat × List Rs × Nat × Value) (fun x=>x.1≤5∧TrP ts q M x.2.1∧x.2.1.length+x.1≤13∧x.1≤m∧(x.2.1,x.2.2.1)=moI bs ts q M x0 (m - x.1))
    (fun x=>[(2, .ct (intC x.1)),(9, .own 9),(10, .own 10),(11, .own 11),(12, .own 12),(21, .ct (.fr (closT fvT ([v13,v10,v11,v12,v9,v4].map CT.ex))))])
    (fun x=>trB ptT (wiB 2) ts vc q bs x.2.2.2 x.2.1 x.2.2.1) (fun x=>x.1) (m,out,c1,ho) ⟨hm5,hT,by show out.length+m≤13;omega,Nat.le_refl _,hx0⟩ (by exact Qu rfl ⟨rfl,rfl,rfl,rfl,rfl,rfl,trivial⟩) ?_
  clear hT hol hm5 hx0
  generalize m=m0 at hfin ⊢
  clear m out c1 ho c
  rintro ⟨m,out,c,ho⟩ ⟨hm5,hT,hol,hm0,hmo⟩
  try dsimp only at hm5 hT hol hm0 hmo ⊢
  (refine Qy (Qy (Qx fun K hK=> ?_));refine Qq rfl rfl rfl ?_;refine Qk igtr rfl rfl rfl rfl ?_;refine Qj (hK _ _ (Qz ?_));clear hK K)
  refine Q2 rfl (fun g=> ?_) (fun g=> ?_)
  rotate_left
  · (refine Qm (Qz (Qy ?_)))
    refine St.frzX 22 12 0 _ rfl rfl rfl (rss_frozen 0 _) (fun gb hgb=> .inl (hbor gb hgb)) ?_
    refine Yq (by with_reducible exact mixed) [] (.f 0 (.f 1 (.f 2 (.p 3 (.p 4 (.p 5 .done)))))) (by kernel_rfl) (fun K hK=> ?_)
    repeat' (first
      |refine Qs ?_
      |refine Xp ?_
      |refine Qj ?_
      |refine Zk rfl rfl rfl rfl rfl (by with_reducible first|exact lWrs1|exact lInts|exact Zm) rfl ?_
      |refine Qv rfl rfl rfl ?_
      |refine Xv (hK _ _ ?_))
    (refine Qz (Q4 ?_))
    refine Fin.unpin (Fin.unpin (Fin.unpin (Fin.unpin (Fin.unpin (Fin.unpin (Fin.unpin ?_))))))
    refine Fin.retMC [13,12,11,10,9,0,4] (ts,M,out) [_,_,_] rfl (QQ rfl (QQ rfl (QQ rfl QZ))) rfl rfl (fun _=>rfl) ⟨hl,hts,hM,hT,by show out.length≤13;omega,hfin out (by
      have e:m0 - m=m0:=by omega
      rw [e] at hmo
      exact congrArg Prod.fst hmo)⟩
  (refine QK (Qz (Qy (Q1 (Qy (Qx fun K hK=> ?_))))))
  refine Zk rfl rfl rfl rfl rfl (by with_reducible exact lPCod) rfl ?_
  refine Zd 100 0 rfl rfl rfl ?_
  refine Ops.callB goNext (NextD_ok bs c 2 (by decide) (by decide) hb) rfl rfl rfl rfl rfl (fun z hz=> ?_)
  obtain ⟨fi,c1⟩:=z
  dsimp only at hz ⊢
  obtain ⟨f,rfl⟩:=Int.eq_ofNat_of_zero_le hz.1.1
  have hf:f<2:=by omega
  (refine Qv rfl rfl rfl ?_;refine Qj (hK _ _ (Qz (Qy ?_)));clear hK K;refine Qx (fun K hK=> ?_);refine Qv rfl rfl rfl ?_;refine Qj (hK _ _ (Qz (Qy (Qy ?_))));clear hK K;refine Qx (fun K hK=> ?_))
  refine Zk rfl rfl rfl rfl rfl (by with_reducible exact Zm) rfl ?_
  refine Ops.linkX 102 22 rfl rfl ?_
  refine Ops.lenX _ rfl rfl rfl (by decide) (rss_len _) (by with_reducible exact sRes.und) rfl ?_
  (refine Qq rfl rfl rfl ?_;refine Qj (hK _ _ (Qz (Q1 ?_)));clear hK K)
  refine Qr (α:=Nat × Int) (fun x=>x.1≤out.length∧0≤x.2∧x.2≤M f∧∀i,i<x.1→(out.getD i rs0).fl=f→(out.getD i rs0).tt≤x.2)
    (fun x=>[(2, .ct (intC m)),(9, .own 9),(10, .own 10),(11, .own 11),(12, .own 12),(21, .ct (.fr (closT fvT ([v13,v10,v11,v12,v9,v4].map CT.ex)))),(24, .ct (intC f)),(25, .ct (intC x.2)),(102, .own 22),(103, .ct (intC out.length)),(104, .ct (intC x.1))])
    (fun x=>trB ptT (wiB 2) ts vc q bs ho out c1) (fun x=>out.length - x.1) (0,0) ⟨Nat.zero_le _,Int.le_refl _,by show (0:Int)≤M f;omega,fun i hi=>absurd hi (Nat.not_lt_zero _)⟩ (by exact Qu rfl ⟨rfl,rfl,rfl,rfl,rfl,rfl,rfl,rfl,rfl,rfl,rfl,trivial⟩) ?_
  rintro ⟨k,n⟩ ⟨hk,hn0,hnM,hmx⟩
  try dsimp only at hk hn0 hnM hmx ⊢
  have hM4:=hM f hf
  (refine Qy (Qx fun K hK=> ?_);refine Qk ilss rfl rfl rfl rfl ?_;refine Qj (hK _ _ (Qz (Qy ?_)));clear hK K)
  refine Q2 rfl (fun g2=> ?_) (fun g2=> ?_)
  rotate_left
  · have hk' :k=out.length:=by omega
    have hn1:1≤n:=by
      obtain ⟨r,hr,e1,e2⟩:=hT.2 f hf 1 (Nat.le_refl _) (by omega)
      obtain ⟨i,hi,e⟩:=List.getElem_of_mem hr
      have ei:out.getD i rs0=r:=by rw [List.getD_eq_getElem?_getD,List.getElem?_eq_getElem hi];exact e
      have:=hmx i (by omega) (by rw [ei];exact e1)
      rw [ei,e2] at this
      exact this
    have hnM' :n=M f:=by
      obtain ⟨r,hr,e1,e2⟩:=hT.2 f hf (M f) (by omega) (Nat.le_refl _)
      obtain ⟨i,hi,e⟩:=List.getElem_of_mem hr
      have ei:out.getD i rs0=r:=by rw [List.getD_eq_getElem?_getD,List.getElem?_eq_getElem hi];exact e
      have:=hmx i (by omega) (by rw [ei];exact e1)
      rw [ei,e2] at this
      omega
    clear hmx
    (refine Qm (Qz (Qx fun K hK=> ?_));refine Qq rfl rfl rfl ?_;refine Qq rfl rfl rfl ?_)
    refine Zk rfl rfl rfl rfl rfl (by with_reducible exact lPCod) rfl ?_
    (refine Qq rfl rfl rfl ?_)
    refine Zd 119 0 rfl rfl rfl ?_
    refine Ops.callB goNext (NextD_ok bs c1 n hn1 (by omega) hb) rfl rfl rfl rfl rfl (fun z hz2=> ?_)
    obtain ⟨ti,c2⟩:=z
    dsimp only at hz2 ⊢
    obtain ⟨t,rfl⟩:=Int.eq_ofNat_of_zero_le hz2.1.1
    have hdd:=hz2.2
    rw [hnM'] at hdd
    (refine Qk (iadd (by omega) (by omega)) rfl rfl rfl rfl ?_)
    rw [show (1:Int)+t=((t+1:Nat):Int) by omega]
    refine callTr hb hbor f (t+1) hf (by omega) hl hts hq (by omega) rfl rfl rfl rfl (fun u2 c3 v2 hu2 hv2 hd2=> ?_)
    have hG:=hT.add (f:=f) (t:=t+1) hf (by omega) (by omega) hu2
    (refine Qj (hK _ _ (Qz ?_));clear hK K;refine Qx (fun K hK=> ?_);refine Qq rfl rfl rfl ?_;refine Qk (isub (by omega) (by omega)) rfl rfl rfl rfl ?_;refine Qv rfl rfl rfl ?_;refine Qj (hK _ _ (Q6 ?_));clear hK K)
    rw [show (m:Int) - 1=((m - 1:Nat):Int) by omega]
    refine Q9 (m - 1,_,c3,v2) (by show m - 1<m;omega) ⟨by show m - 1≤5;omega,hG,by
      show (out++ [_]).length+(m - 1)≤13
      rw [List.length_append];simp only [List.length_cons,List.length_nil];omega,by show m - 1≤m0;omega,by
      have e:m0 - (m - 1)=m0 - m+1:=by omega
      rw [e]
      exact moI_add hmo hz.2 hdd hd2⟩ (by exact Qu rfl ⟨rfl,rfl,rfl,rfl,rfl,rfl,trivial⟩)
  have hle:=fun h=>hT.le (i:=k) (f:=f) (by omega) h
  have hmx' :∀n',n≤n'→((out.getD k rs0).fl=f→(out.getD k rs0).tt≤n')→∀i,i<k+1→(out.getD i rs0).fl=f→(out.getD i rs0).tt≤n' :=fun n' h1 h2 i hi he=>by
    by_cases e:i=k
    · subst e;exact h2 he
    · exact Int.le_trans (hmx i (by omega) he) h1
  (refine QK (Qz (Qy (Q1 (Qy (Qx fun K hK=> ?_))))))
  refine Ops.idxX _ rfl rfl rfl (rss_len _) rfl (by with_reducible exact sRes) (by omega) (by omega) rfl ?_
  rw [show (k:Int).toNat=k from rfl]
  refine ldE rsCs rs0 rs_len rfl rfl rfl rfl rfl (by omega) (by with_reducible exact lRes) rfl ?_
  generalize out.getD k rs0=rr at hle hmx' ⊢
  (refine Qg 1 rfl rfl (by with_reducible exact zvRes) rfl rfl rfl ?_;refine Qb 17 rfl rfl rfl rfl rfl (by with_reducible exact szRes) rfl rfl ?_;refine Qj (hK _ _ (Qz (Qy ?_)));clear hK K;refine Qx (fun K hK=> ?_);refine QJ rfl rfl rfl (by with_reducible first|exact fS0|exact fS1|exact fS2|exact fS3|exact fS4|exact fS5|exact fS6|exact fS7|exact fS8|exact fS9|exact fS10|exact fS11|exact fN0|exact fN1|exact fN2|exact fN3|exact fN4|exact fN5) rfl ?_;refine QX rfl rfl rfl rfl rfl (by with_reducible first|exact lInt|exact lAddr|exact lBool1|exact Zm) rfl ?_;refine Qq rfl rfl rfl ?_;refine Qk ieql rfl rfl rfl rfl ?_;refine Qj (hK _ _ (Qz ?_));clear hK K)
  refine Q2 rfl (fun g3=> ?_) (fun g3=> ?_)
  · (refine Qx (fun K hK=> ?_);refine Qq rfl rfl rfl ?_;refine QJ rfl rfl rfl (by with_reducible first|exact fS0|exact fS1|exact fS2|exact fS3|exact fS4|exact fS5|exact fS6|exact fS7|exact fS8|exact fS9|exact fS10|exact fS11|exact fN0|exact fN1|exact fN2|exact fN3|exact fN4|exact fN5) rfl ?_;refine QX rfl rfl rfl rfl rfl (by with_reducible first|exact lInt|exact lAddr|exact lBool1|exact Zm) rfl ?_;refine Ops.max2 rfl rfl rfl rfl ?_;refine Qv rfl rfl rfl ?_;refine Qj (hK _ _ (Qz ?_));clear hK K;refine Qx (fun K hK=> ?_);refine Qk (iadd (by omega) (by omega)) rfl rfl rfl rfl ?_;refine Qq rfl rfl rfl ?_;refine Qj (hK _ _ (Q6 ?_));clear hK K)
    refine Xj 1 ?_
    refine Q9 (k+1,max n rr.tt) (by show out.length - (k+1)<out.length - k;omega) ⟨by show k+1≤out.length;omega,by show 0≤max n rr.tt;omega,by
      show max n rr.tt≤M f
      have:=(hle g3).1
      omega,hmx' _ (by show n≤max n rr.tt;omega) (fun _=>by show rr.tt≤max n rr.tt;omega)⟩ (by exact Qu rfl ⟨rfl,rfl,rfl,rfl,rfl,rfl,rfl,rfl,rfl,rfl,by simp only [Int.natCast_add];rfl,trivial⟩)
  · (refine QK (Qz (Qx fun K hK=> ?_));refine Qk (iadd (by omega) (by omega)) rfl rfl rfl rfl ?_;refine Qq rfl rfl rfl ?_;refine Qj (hK _ _ (Q6 ?_));clear hK K)
    refine Xj 1 ?_
    refine Q9 (k+1,n) (by show out.length - (k+1)<out.length - k;omega) ⟨by show k+1≤out.length;omega,hn0,hnM,hmx' _ (Int.le_refl _) (fun h=>absurd h g3)⟩ (by exact Qu rfl ⟨rfl,rfl,rfl,rfl,rfl,rfl,rfl,rfl,rfl,rfl,by simp only [Int.natCast_add];rfl,trivial⟩)
end Go.Proofs.YtojkdfilabmafaaGreat
namespace Go.Proofs.YtojkdfilabmafaaGreat
open Go.Own Go.Limbs
structure Fan (a : Int → Int → Ad) (M : Int → Nat) (t0 : Tk) (l : List Rs) : Prop where
  up : Up cmpR l
  ok : ∀ r ∈ l, okR r = true ∧ r.db = false ∧ r.an = true ∧ r.ki = 1 ∧ trOf r = t0 ∧ 1 ≤ r.tt ∧ r.tt ≤ M r.fl ∧ r.fr = a r.fl r.tt
  all : ∀ r ∈ l, ∀ t : Int, 1 ≤ t → t ≤ M r.fl → ∃ x ∈ l, x.fl = r.fl ∧ x.tt = t
variable {a : Int → Int → Ad} {M : Int → Nat} {t0 : Tk} {l : List Rs}
abbrev stU (m : AdM × StM) (f t : Int) : Int := (look1 m.2 (f, t)).getD 0
def invU (a : Int → Int → Ad) (m : AdM × StM) : Prop := ∀ f t : Int, stU m f t ≤ 1 ∨ (stU m f t = 2 ∧ look1 m.1 (f, t) = some (a f t))
theorem look_fan:∀(q:List Rs) (m:AdM × StM),(∀r∈q,usR r=true∧r.an=true∧r.fr=a r.fl r.tt)→invU a m→
    invU a (q.foldl (lookS 0) m)∧∀f t,(stU m f t=2∨∃r∈q,r.fl=f∧r.tt=t)→stU (q.foldl (lookS 0) m) f t=2
  | [],m,_,hm=>⟨hm,fun f t h=>h.elim id fun ⟨_,h,_⟩=>by cases h⟩
  |r::q,m,hq,hm=>by
    obtain ⟨h1,ha,h4⟩:=hq r (List.mem_cons_self ..)
    have key:invU a (lookS 0 m r)∧∀f t,(stU m f t=2∨(r.fl=f∧r.tt=t))→stU (lookS 0 m r) f t=2:=by
      unfold lookS
      rw [if_neg (by rw [h1];simp),ha,if_neg (by decide)]
      have hr:=hm r.fl r.tt
      by_cases hs:(look1 m.2 (r.fl,r.tt)).getD 0≤1
      · rw [if_pos hs]
        refine ⟨fun f t=> ?_,fun f t h=> ?_⟩
        · simp only [stU,look1_ins]
          by_cases e:(f,t)=(r.fl,r.tt)
          · rw [if_pos e,if_pos e]
            injection e with e1 e2
            subst e1;subst e2
            right;exact ⟨rfl,by rw [h4]⟩
          · rw [if_neg e,if_neg e];exact hm f t
        · simp only [stU,look1_ins]
          by_cases e:(f,t)=(r.fl,r.tt)
          · rw [if_pos e];rfl
          · rw [if_neg e]
            rcases h with h|⟨h,h'⟩
            · exact h
            · exact absurd (by rw [h,h']) e
      · rw [if_neg hs]
        rcases hr with hr|⟨hr,hr'⟩
        · exact absurd hr hs
        · rw [if_neg (by rw [hr',h4];simp)]
          refine ⟨hm,fun f t h=> ?_⟩
          rcases h with h|⟨h,h'⟩
          · exact h
          · subst h;subst h';exact hr
    obtain ⟨k1,k2⟩:=key
    obtain ⟨i1,i2⟩:=look_fan q (lookS 0 m r) (fun x hx=>hq x (List.mem_cons_of_mem _ hx)) k1
    refine ⟨i1,fun f t h=>i2 f t ?_⟩
    rcases h with h|⟨x,hx,h⟩
    · exact .inl (k2 f t (.inl h))
    · rcases List.mem_cons.1 hx with rfl|hx
      · exact .inl (k2 f t (.inr h))
      · exact .inr ⟨x,hx,h⟩
theorem Fan.us(h:Fan a M t0 l){r:Rs}(hr:r∈l):usR r=true:=by
  obtain ⟨h1,h2,_⟩:=h.ok r hr
  unfold usR;rw [h1,h2];rfl
theorem Fan.fi(h:Fan a M t0 l):∀r∈l,fiR r=false:=fun r hr=>by
  obtain ⟨_,_,h1,h2,_⟩:=h.ok r hr
  unfold fiR
  rw [h1,h2];rfl
theorem Fan.look(h:Fan a M t0 l):lookG l=l.foldl (lookS 0) ([],[]):=by
  have h1:endF l=0:=endF_zero l 0 h.fi
  unfold lookG;rw [h1]
def adF (a : Int → Int → Ad) (f : Int) : Nat → Int → List Ad
  | 0, _ => []
  | c + 1, t => a f t :: adF a f c (t + 1)
theorem adF_len(f:Int):∀(c:Nat) (t:Int),(adF a f c t).length=c
  |0,_=>rfl
  |c+1,t=>by show (adF a f c (t+1)).length+1=_;rw [adF_len f c]
theorem adF_take(f:Int):∀(c n:Nat) (s:Int),c≤n→(adF a f n s).take c=adF a f c s
  |0,_,_,_=>by simp [adF]
  |c+1,n+1,s,h=>by show a f s::(adF a f n (s+1)).take c=_;rw [adF_take f c n _ (by omega)];rfl
theorem adF_getD(f:Int):∀(c:Nat) (s:Int) (i:Nat),i<c→(adF a f c s).getD i 0=a f (s+i)
  |c+1,s,0,_=>by show a f s=_;rw [Int.natCast_zero,Int.add_zero]
  |c+1,s,i+1,h=>by
    show (adF a f c (s+1)).getD i 0=_
    rw [adF_getD f c _ i (by omega),show s+1+(i:Int)=s+((i+1:Nat):Int) by omega]
theorem pathG_fan{m:AdM × StM}{f:Int}{n:Nat}(h1:∀t:Int,1≤t→t≤n→stU m f t=2∧look1 m.1 (f,t)=some (a f t))(h2:hasS m.2 f (n+1)=false):
    ∀(c k:Nat) (t:Int),1≤t→t+c=n+1→c<k→pathG m f k t=adF a f c t
  |0,k+1,t,_,he,_=>by
    unfold pathG
    have:t=(n:Int)+1:=by omega
    rw [this,h2];rfl
  |c+1,k+1,t,ht,he,hk=>by
    obtain ⟨a1,a2⟩:=h1 t ht (by omega)
    have:hasS m.2 f t=true:=by unfold hasS;unfold stU at a1;rw [a1];rfl
    unfold pathG adF
    rw [if_pos this,a2,pathG_fan h1 h2 c k (t+1) (by omega) (by omega) (by omega)]
    rfl
  |_,0,_,_,_,h=>by omega
theorem Fan.path(h:Fan a M t0 l){r:Rs}(hr:r∈l)(hn:M r.fl<256):pathF l r.fl=adF a r.fl (M r.fl) 1:=by
  unfold pathF
  obtain ⟨i1,i2⟩:=look_fan (a:=a) l ([],[]) (fun r hr=>⟨h.us hr,(h.ok r hr).2.2.1,(h.ok r hr).2.2.2.2.2.2.2⟩) (fun f t=> .inl (by show (0:Int)≤1;decide))
  rw [←h.look] at i1 i2
  refine pathG_fan (n:=M r.fl) (fun t h1 h2=> ?_) ?_ (M r.fl) 256 1 (by decide) (by omega) hn
  · have e:=i2 r.fl t (.inr (h.all r hr t h1 h2))
    refine ⟨e,?_⟩
    rcases i1 r.fl t with h3|h3
    · rw [e] at h3;exact absurd h3 (by decide)
    · exact h3.2
  · cases hb:hasS (lookG l).2 r.fl (M r.fl+1) with
    |false=>rfl
    |true=>
      unfold hasS at hb
      cases e:look1 (lookG l).2 (r.fl,(M r.fl:Int)+1) with
      |none=>rw [e] at hb;simp at hb
      |some v=>
        obtain ⟨_,x,hx,_,hs⟩:=lookG_keys l _ _ e
        injection hs with hf hs
        have:=(h.ok x hx).2.2.2.2.2.2.1
        rw [←hf] at this
        omega
theorem Fan.sd(h:Fan a M t0 l):sd cmpR (l.filter okR)=l:=by
  have:l.filter okR=l:=List.filter_eq_self.2 fun r hr=>(h.ok r hr).1
  rw [this];exact sd_eq ordR h.up
theorem clash_fan:∀(q:List Rs) (m:SeenM),(∀r∈q,r.an=true∧r.fr=a r.fl r.tt)→(∀s v,look1 m s=some v→v=a s.2.1 s.2.2)→clashG m q=q.length
  | [],_,_,_=>rfl
  |r::q,m,hq,hm=>by
    have ih:=fun m' =>clash_fan q m' fun x hx=>hq x (List.mem_cons_of_mem _ hx)
    unfold clashG
    rw [List.length_cons]
    obtain ⟨ha,hr⟩:=hq r (List.mem_cons_self ..)
    by_cases hp:plB r=false
    · rw [if_pos hp,ih m hm]
    · rw [if_neg hp,if_neg,ih]
      · intro s v hs
        rw [look1_ins] at hs
        split at hs
        · rename_i e;subst e;injection hs with hs;rw [←hs];exact hr
        · exact hm s v hs
      · rintro ⟨h1,h2⟩
        obtain ⟨v,hv⟩:=Option.isSome_iff_exists.1 h1
        rw [hv] at h2
        exact h2 (by rw [hr];exact hm _ v hv)
theorem Fan.chk(h:Fan a M t0 l)(hl:l.length≤512):chkF l=0:=by
  have hc:consB l=true:=by
    unfold consB witG
    rw [h.sd,clash_fan (a:=a) l [] (fun r hr=>⟨(h.ok r hr).2.2.1,(h.ok r hr).2.2.2.2.2.2.2⟩) (fun _ _ h=>by cases h)]
    simp
  unfold chkF
  rw [if_neg,h.sd,if_neg (by omega),if_pos hc]
  intro h'
  obtain ⟨r,hr,h1⟩:=List.any_eq_true.1 h'
  rw [(h.ok r hr).1] at h1;cases h1
theorem Fan.pa(h:Fan a M t0 l){r:Rs}(hr:r∈l)(hn:M r.fl<256):paF l r=adF a r.fl (M r.fl) 1:=by
  have e:(l.filter fun x=>decide (trOf x=trOf r))=l:=List.filter_eq_self.2 fun x hx=>by rw [(h.ok x hx).2.2.2.2.1,(h.ok r hr).2.2.2.2.1];simp
  unfold paF ofF
  rw [h.sd,e,h.path hr hn]
theorem Fan.ms(h:Fan a M t0 l)(hn:∀f,M f<256)(ha:∀r∈l,(adF a r.fl (M r.fl) 1).all (fun x=>decide (x≠0))=true):msF l=l.map fun r=>(r,wsG 0 (adF a r.fl r.tt.toNat 1)):=by
  have hw:∀r∈l,mesB l r=true∧meF l r=(r,wsG 0 (adF a r.fl r.tt.toNat 1)):=fun r hr=>by
    obtain ⟨_,_,han,_,_,h1,h2,h3⟩:=h.ok r hr
    have hu:=h.us hr
    have hp:=h.pa hr (hn _)
    have hl:=adF_len (a:=a) r.fl (M r.fl) 1
    have hal:=ha r hr
    have htk:=adF_take (a:=a) r.fl r.tt.toNat (M r.fl) 1 (by omega)
    have hO:wsO ((adF a r.fl (M r.fl) 1).take r.tt.toNat)=(wsG 0 (adF a r.fl r.tt.toNat 1),true):=by
      rw [htk]
      unfold wsO
      rw [if_pos]
      rw [←htk]
      exact List.all_eq_true.2 fun x hx=>List.all_eq_true.1 hal x (List.mem_of_mem_take hx)
    have hg:(adF a r.fl (M r.fl) 1).getD (r.tt.toNat - 1) 0=r.fr:=by
      rw [adF_getD _ _ _ _ (by omega),h3];congr 1;omega
    unfold mesB meF
    rw [hp,hO,hg,han,hu,hl,decide_eq_true h2,decide_eq_true rfl]
    exact ⟨rfl,rfl⟩
  unfold msF
  rw [h.sd,List.filter_eq_self.2 fun r hr=>(hw r hr).1]
  exact List.map_congr_left fun r hr=>(hw r hr).2
end Go.Proofs.YtojkdfilabmafaaGreat
namespace Go.Proofs.YtojkdfilabmafaaGreat
open Go.Own Go.Limbs Go.Det
def smT (T : Wr → Int) : List Wr → Int
  | [] => 0
  | w :: ws => T w + smT T ws
theorem cfW_at{vs:List Wr}(ws:List Wr)(f:Int){j:Nat}(hj:j<vs.length):(cfW vs ws f).getD j 0=f*(ws.count (vs.getD j wr0):Int):=by
  unfold cfW
  rw [List.getD_eq_getElem?_getD,List.getElem?_map,List.getD_eq_getElem?_getD,List.getElem?_eq_getElem hj];rfl
theorem up_inj{vs:List Wr}(hu:Up cmpW vs){i j:Nat}(hi:i<vs.length)(hj:j<vs.length)(h:vs.getD i wr0=vs.getD j wr0):i=j:=by
  rw [List.getD_eq_getElem?_getD,List.getElem?_eq_getElem hi,List.getD_eq_getElem?_getD,List.getElem?_eq_getElem hj] at h
  have h:vs[i]=vs[j]:=h
  have key:∀a b:Nat,∀(ha:a<vs.length) (hb:b<vs.length),a<b→vs[a]=vs[b]→False:=fun a b ha hb hab e=>by
    have h5:=List.pairwise_iff_getElem.1 hu a b ha hb hab
    rw [e,ordW.self] at h5
    exact absurd h5 (by decide)
  rcases Nat.lt_trichotomy i j with hc|hc|hc
  · exact (key i j hi hj hc h).elim
  · exact hc
  · exact (key j i hj hi hc h.symm).elim
section
variable {vs : List Wr} (hu : Up cmpW vs) (T : Wr → Int)
include hu
theorem rsum_cf(f:Int):∀ws:List Wr,(∀w∈ws,w∈vs)→rsum vs.length (cfW vs ws f) (fun j=>T (vs.getD j wr0))=f*smT T ws
  | [],_=>by
    unfold rsum
    rw [ZZ (fun k hk=>by rw [cfW_at [] f hk];simp)]
    simp [smT]
  |w::ws,h=>by
    have ih:=rsum_cf f ws fun x hx=>h x (List.mem_cons_of_mem _ hx)
    obtain ⟨i,hi,e⟩:=List.getElem_of_mem (h w (List.mem_cons_self ..))
    have ei:vs.getD i wr0=w:=by rw [List.getD_eq_getElem?_getD,List.getElem?_eq_getElem hi];exact e
    unfold rsum at ih ⊢
    rw [Xb (g:=fun j=>(cfW vs ws f).getD j 0*T (vs.getD j wr0)+(if j=i then f*T w else 0)) (fun k hk=>by
      rw [cfW_at (w::ws) f hk,cfW_at ws f hk,List.count_cons]
      dsimp only
      by_cases e2:k=i
      · subst e2
        rw [ei,if_pos rfl,if_pos (by simp),Int.natCast_add,Int.mul_add,Int.add_mul,Int.natCast_one,Int.mul_one]
      · rw [if_neg e2,if_neg,Nat.add_zero,Int.add_zero]
        intro h2
        have h2:w=vs.getD k wr0:=by simpa using h2
        exact e2 (up_inj hu hk hi (by rw [ei,←h2]))),sm_add,ih,Yy (i:=i) hi (fun k _ hk=>if_neg hk),if_pos rfl]
    show f*smT T ws+f*T w=f*(T w+smT T ws)
    rw [Int.mul_add,Int.add_comm]
theorem feas_T{ms:List Me}{mo qu:Int}(hT:∀v∈vs,0≤T v∧T v≤mo)(hm:∀m∈ms,(∀w∈m.2,w∈vs)∧smT T m.2≤m.1.bk - m.1.tm∧m.1.bk - m.1.tm≤smT T m.2+qu):
    Feas vs.length (rowsD vs mo qu ms) 1 (fun j=>T (vs.getD j wr0)):=by
  refine feas_of (fun v hv=>(hT _ (by rw [List.getD_eq_getElem?_getD,List.getElem?_eq_getElem hv];exact List.getElem_mem _)).1) fun r hr=> ?_
  unfold rowsD at hr
  rcases List.mem_append.1 hr with h|h
  · obtain ⟨v,hv,rfl⟩:=List.mem_map.1 h
    dsimp only
    rw [rsum_cf hu T 1 [v] (fun w hw=>by rw [List.mem_singleton.1 hw];exact hv),Int.one_mul]
    show T v+0≤mo
    have:=hT v hv
    omega
  · obtain ⟨m,hmm,h⟩:=List.mem_flatMap.1 h
    obtain ⟨h1,h2,h3⟩:=hm m hmm
    rcases List.mem_cons.1 h with rfl|h
    · dsimp only
      rw [rsum_cf hu T 1 m.2 h1,Int.one_mul];exact h2
    · rw [List.mem_singleton.1 h]
      dsimp only
      rw [rsum_cf hu T (-1) m.2 h1];omega
theorem bounds_T{ms:List Me}{mo qu:Int}(hv:vs.length≤16)(hl:vs.length+2*ms.length≤64)(ht:tiB mo qu=true)(hT:∀v∈vs,0≤T v∧T v≤mo)
    (hm:∀m∈ms,(m.2.length≤256∧0≤m.1.bk - m.1.tm∧m.1.bk - m.1.tm≤2251799813685248)∧(∀w∈m.2,w∈vs)∧smT T m.2≤m.1.bk - m.1.tm∧m.1.bk - m.1.tm≤smT T m.2+qu) {k:Nat} (hk:k<vs.length):
    ∃(p:Int × Int) (O1 O2:Oc),Ok Tryz.prog 44 [rowsC (rowsD vs mo qu ms),intC vs.length,intC k] (.fr (tupT [ocC O1,ocC O2,ivC p,intC 0]))∧p.1≤T (vs.getD k wr0)∧T (vs.getD k wr0)≤p.2:=by
  have hrv:=rowsD_valid (vs:=vs) (ms:=ms) (mo:=mo) (qu:=qu) hv hl (fun m hmm=>(hm m hmm).1) ht
  have hF:=feas_T hu T hT (fun m hmm=>(hm m hmm).2)
  have hrl:=rowsD_len vs mo qu ms
  have ht2:0≤mo∧mo≤1073741824∧0≤qu∧qu≤1073741824:=of_decide_eq_true ht
  have hmem:vs.getD k wr0∈vs:=by rw [List.getD_eq_getElem?_getD,List.getElem?_eq_getElem hk];exact List.getElem_mem _
  have hTk:=hT _ hmem
  obtain ⟨O1,s1,k1⟩:=Solve_any hrv (unL_ok hk (f:= -1) (.inr rfl))
  obtain ⟨O2,s2,k2⟩:=Solve_any hrv (unL_ok hk (f:=1) (.inl rfl))
  obtain ⟨Y1,d1,v1⟩:=dual_zero (n:=vs.length) (rs:=rowsD vs mo qu ms) (c:=unL vs.length k (-1)) (fun j _=>by rw [unL_getD (-1) hk];split <;>decide)
  obtain ⟨Y2,d2,v2⟩:=dual_one (n:=vs.length) (rs:=rowsD vs mo qu ms) (c:=unL vs.length k 1) (r1:=⟨cfW vs [vs.getD k wr0] 1,mo⟩) (by unfold rowsD;exact List.mem_append.2 (.inl (List.mem_map.2 ⟨_,hmem,rfl⟩))) (fun j hj=>by
    rw [unL_getD 1 hk]
    dsimp only
    rw [cfW_at _ _ hj,List.count_singleton]
    by_cases e:j=k
    · subst e;simp
    · rw [if_neg e];split <;>decide)
  obtain ⟨a1,b1⟩:=sol_btw s1 (by omega) hF d1
  obtain ⟨a2,b2⟩:=sol_btw s2 (by omega) hF d2
  rw [v1,rsum_un _ hk] at b1
  rw [v2,rsum_un _ hk] at b2
  dsimp only at b1 b2
  generalize T (vs.getD k wr0)=x at*
  have l1:=sol_len s1 (by omega)
  have l2:=sol_len s2 (by omega)
  have f1:=flV_btw b1 (by omega) (by omega)
  have f2:=flV_btw b2 (by omega) (by omega)
  have hB:=bounds_fine vs.length k hk hv (rowsD vs mo qu ms) O1 O2 k1 k2 ⟨a1,l1.1,l1.2.1,l1.2.2 a1⟩ ⟨a2,l2.1,l2.2.1,l2.2.2 a2⟩ (by omega)
  exact ⟨_,O1,O2,hB,by dsimp only;omega,by dsimp only;omega⟩
end
end Go.Proofs.YtojkdfilabmafaaGreat
namespace Go.Proofs.YtojkdfilabmafaaGreat
open Go.Own Go.Limbs
attribute [local irreducible] St Ops Go.Own.Fin Ok OkB OkN OkT OkL OkF OkM
abbrev Dl := Wr × (Int × Int)
def dl0 : Dl := ((0, 0), (0, 0))
abbrev dlCs (d : Dl) : List CT := [adrF d.1.1, adrF d.1.2, intC d.2.1, intC d.2.2]
abbrev dlC (d : Dl) : CT := .fr (aggT (dlCs d))
theorem dl_len(x:Dl):(dlCs x).length=4:=rfl
abbrev dlsC (l : List Dl) : CT := .fr (sliceT 4 (l.map dlCs))
def dls (l : List Dl) : List CT := (l.map dlCs).flatten
theorem dls_frozen(e:Nat)(l:List Dl):(Ent.row e 4 (dls l)).frozen (sliceT 4 (l.map dlCs)):=
  ⟨_,rfl,fun e he=>by obtain ⟨m,_,rfl⟩:=List.mem_map.mp he;rfl,by decide,rfl⟩
theorem dls_at{l:List Dl}{j:Int}(h0:0≤j)(h:j<(l.length:Int)):(l.map dlCs)[j.toNat]? =some (dlCs (l.getD j.toNat dl0)):=by
  have:j.toNat<l.length:=by omega
  simp [List.getElem?_map,List.getElem?_eq_getElem this,List.getD_eq_getElem?_getD]
theorem dls_len(l:List Dl):(dls l).length=l.length*4:=el_len dl_len l
theorem dls_snoc(l:List Dl)(r:Dl):dls (l++ [r])=dls l++dlCs r:=by simp [dls]
theorem sDls:SlcT Tryz.prog 50 54 4 24 (.agg #[.int .u32 0, .int .u32 0, .int .i64 0, .int .i64 0]):=SlcT.of Tryz.underlying50 (by kernel_rfl) rfl (by decide)
theorem bDl:bInfo Tryz.prog 54=some (.agg #[.int .u32 0, .int .u32 0, .int .i64 0, .int .i64 0],[(0,some 2),(2,some 2)]):=by kernel_rfl
theorem goDAll:InGo Tryz.prog 16:=InGo.of Tryz.func16 rfl (by decide)
set_option maxHeartbeats 16000000 in
theorem DAll_fine(l:List Rs)(hl:l.length≤10000)(mo qu:Int)(h0:(rwO l mo qu).2.2=0)(iv:Nat→Int × Int)
    (hB:∀k:Nat,k<(vrO l).1.length→∃O1 O2:Oc,Ok Tryz.prog 44 [rowsC (rwO l mo qu).1,intC (vrO l).1.length,intC k] (.fr (tupT [ocC O1,ocC O2,ivC (iv k),intC 0]))):
    Ok Tryz.prog 16 [rssC l,tiC mo qu] (.fr (tupT [dlsC ((List.range (vrO l).1.length).map fun k=>((vrO l).1.getD k wr0,iv k)),intC 0])):=by
  have hR:=DRows_ok l hl mo qu
  have hV:=Variables_ok l hl
  rw [h0] at hR
  have hvl:(vrO l).1.length≤16:=by
    unfold vrO
    split
    · exact Nat.zero_le _
    · split
      · exact Nat.zero_le _
      · dsimp only;omega
  generalize (rwO l mo qu).1=rs at hR hB
  generalize (rwO l mo qu).2.1=is at hR
  generalize (vrO l).2=ve at hV
  generalize (vrO l).1=vs at hV hB hvl ⊢
  refine Ok.enter Tryz.func16 rfl _ Tryz.ntmps16 rfl ?_
  intro S w0
  refine Qy ?_
  refine Qx (fun K hK=> ?_)
  refine XQ 0 rfl rfl rfl rfl rfl rfl rfl ?_
  (refine Qv rfl rfl rfl ?_;refine Qv rfl rfl rfl ?_;refine Qj (hK _ _ (Qz (Qy ?_)));clear hK K;refine Qx (fun K hK=> ?_);refine Qq rfl rfl rfl ?_)
  refine Qe (n:=2) rfl rfl rfl rfl rfl (by with_reducible exact lTi) rfl ?_
  refine QV goDRows hR rfl rfl rfl rfl ?_
  (refine Qq rfl rfl rfl ?_;refine Q0 rfl rfl rfl rfl ?_;refine Q0 rfl rfl rfl rfl ?_;refine Q0 rfl rfl rfl rfl ?_;refine Qv rfl rfl rfl ?_;refine Qv rfl rfl rfl ?_;refine Qv rfl rfl rfl ?_;refine Qj (hK _ _ (Qz (Qy (Qy ?_))));clear hK K;refine Qx (fun K hK=> ?_);refine Qq rfl rfl rfl ?_;refine Qk ineq rfl rfl rfl rfl ?_;refine Qj (hK _ _ (Qz (Xw rfl (QK (Qz (Qy ?_))))));clear hK K;refine Qx (fun K hK=> ?_);refine Qq rfl rfl rfl ?_)
  refine QV goVariables hV rfl rfl rfl rfl ?_
  (refine Qq rfl rfl rfl ?_;refine Q0 rfl rfl rfl rfl ?_;refine Q0 rfl rfl rfl rfl ?_;refine Qv rfl rfl rfl ?_;refine Qv rfl rfl rfl ?_;refine Qj (hK _ _ (Qz (Qy ?_)));clear hK K;refine Qx (fun K hK=> ?_);refine Qv rfl rfl rfl ?_;refine Qj (hK _ _ (Qz (Qy (Qy ?_))));clear hK K;refine Qx (fun K hK=> ?_);refine Qq rfl rfl rfl ?_;refine Qf rfl rfl (by with_reducible first|exact sTks.und|exact sWrs.und|exact sIks.und|exact sAdrs.und) (List.length_map ..) rfl ?_;refine Qq rfl rfl rfl ?_;refine Qj (hK _ _ (Qz (Q1 ?_)));clear hK K)
  refine Yj 11 1 54 4 rfl rfl rfl ?_
  refine Qr (α:=Nat) (fun i=>i≤vs.length)
    (fun i=>[(6, .ct (rowsC rs)),(9, .ct (wrsC vs)),(11, .own 1),(33, .ct (wrsC vs)),(34, .ct (intC vs.length)),(35, .ct (intC i))])
    (fun i=>[(1, .row 54 4 (dls ((List.range i).map fun k=>(vs.getD k wr0,iv k)))),(0, .box 32 (tiCs mo qu))]) (fun i=>vs.length - i) 0 (Nat.zero_le _) (by exact Qu rfl ⟨rfl,rfl,rfl,rfl,rfl,rfl,trivial⟩) ?_
  intro i hi
  try dsimp only at hi ⊢
  (refine Qy (Qx fun K hK=> ?_);refine Qk ilss rfl rfl rfl rfl ?_;refine Qj (hK _ _ (Qz (Qy ?_)));clear hK K)
  refine Q2 rfl (fun h=> ?_) (fun h=> ?_)
  rotate_left
  · have hi' :i=vs.length:=by omega
    rw [hi']
    refine YV 1 _ rfl (dls_frozen _ _) noBor_sub ?_
    (refine Qm (Qz (Qy (Qx fun K hK=> ?_)));refine Qq rfl rfl rfl ?_;refine Qv rfl rfl rfl ?_;refine Qv rfl rfl rfl ?_;refine Qj (hK _ _ (Qz (Q4 ?_)));clear hK K)
    refine Q3 [_,_] rfl (QQ rfl (QQ rfl QZ)) rfl rfl
  have e2:(i:Int).toNat=i:=Int.toNat_natCast i
  have hs:(List.range (i+1)).map (fun k=>(vs.getD k wr0,iv k))=(List.range i).map (fun k=>(vs.getD k wr0,iv k))++ [(vs.getD i wr0,iv i)]:=by rw [List.range_succ,List.map_append];rfl
  have hll:((List.range i).map (fun k=>(vs.getD k wr0,iv k))).length≤16:=by rw [List.length_map,List.length_range];omega
  obtain ⟨O1,O2,hB⟩:=hB i (by omega)
  generalize (List.range i).map (fun k=>(vs.getD k wr0,iv k))=dl at hs hll ⊢
  obtain ⟨q1,⟨g1,m1,d1⟩,o1,y1,u1⟩:=O1
  obtain ⟨q2,⟨g2,m2,d2⟩,o2,y2,u2⟩:=O2
  (refine QK (Qz (Qy (Q1 (Qy (Qx fun K hK=> ?_)))));refine Qq rfl rfl rfl ?_)
  refine Qt rfl rfl rfl (by with_reducible exact sWrs) (by omega) (wrs_at (by omega) (by omega)) rfl ?_
  rw [e2]
  generalize vs.getD i wr0=x at hs
  generalize iv i=p at hs hB
  refine X9 (n:=2) rfl rfl rfl (by with_reducible exact Yk) rfl rfl ?_
  refine Qg 2 rfl rfl (by with_reducible exact zvWire) rfl rfl rfl ?_
  refine Qv rfl rfl rfl ?_
  refine Qb 2 rfl rfl rfl rfl rfl (by with_reducible exact szWire) rfl rfl ?_
  (refine Qj (hK _ _ (Qz (Qy ?_)));clear hK K;refine Qx (fun K hK=> ?_);refine Qq rfl rfl rfl ?_;refine Qq rfl rfl rfl ?_;refine Qf rfl rfl (by with_reducible first|exact sTks.und|exact sWrs.und|exact sIks.und|exact sAdrs.und) (List.length_map ..) rfl ?_;refine Qq rfl rfl rfl ?_)
  refine QV gobounds hB rfl rfl rfl rfl ?_
  (refine Qq rfl rfl rfl ?_;refine Q0 rfl rfl rfl rfl ?_;refine Q0 rfl rfl rfl rfl ?_;refine Q0 rfl rfl rfl rfl ?_;refine Q0 rfl rfl rfl rfl ?_)
  refine Qg 3 rfl rfl (by with_reducible exact zvOut) rfl rfl rfl ?_
  refine Qg 4 rfl rfl (by with_reducible exact zvOut) rfl rfl rfl ?_
  refine Qg 5 rfl rfl (by with_reducible exact zvIv) rfl rfl rfl ?_
  refine Qb 7 rfl rfl rfl rfl rfl (by with_reducible exact szOut) rfl rfl ?_
  refine Qb 7 rfl rfl rfl rfl rfl (by with_reducible exact szOut) rfl rfl ?_
  refine Qb 2 rfl rfl rfl rfl rfl (by with_reducible exact szIv) rfl rfl ?_
  (refine Qv rfl rfl rfl ?_;refine Qj (hK _ _ (Qz (Qy (Qy ?_))));clear hK K;refine Qx (fun K hK=> ?_);refine Qq rfl rfl rfl ?_;refine Qk ineq rfl rfl rfl rfl ?_;refine Qj (hK _ _ (Qz (Xw rfl (QK (Qz ?_)))));clear hK K;refine Qx (fun K hK=> ?_);refine Qq rfl rfl rfl ?_;refine Qe (n:=2) rfl rfl rfl rfl rfl (by with_reducible first|exact lTrav|exact Yk|exact lCs) rfl ?_)
  refine Qe (n:=2) rfl rfl rfl rfl rfl (by with_reducible exact lIv) rfl ?_
  refine Qo rfl (by with_reducible exact bDl) rfl (.agg rfl rfl rfl rfl (.agg rfl rfl rfl rfl .nil)) rfl ?_
  refine Ze (n:=4) rfl rfl (by with_reducible exact sDls) rfl rfl (by decide) rfl ?_
  refine Xq dl.length (dls (dl++ [(x,p)])) rfl rfl rfl rfl (by with_reducible exact sDls) (dls_len dl) rfl (by omega) (by omega) (dls_snoc dl (x,p)) rfl ?_
  (refine Qv rfl rfl rfl ?_;refine Qj (hK _ _ (Qz ?_));clear hK K;refine Qx (fun K hK=> ?_);refine Qk (iadd (by omega) (by omega)) rfl rfl rfl rfl ?_;refine Qq rfl rfl rfl ?_;refine Qj (hK _ _ (Q6 ?_));clear hK K)
  refine Xj 5 ?_
  refine Xj 4 ?_
  refine Xj 3 ?_
  refine Xj 2 ?_
  refine Q9 (i+1) (by omega) (by omega) (by rw [hs];exact Qu rfl ⟨rfl,rfl,rfl,rfl,rfl,by simp only [Int.natCast_add];rfl,trivial⟩)
end Go.Proofs.YtojkdfilabmafaaGreat
namespace Go.Proofs.YtojkdfilabmafaaGreat
open Go.Own Go.Limbs
def aT (f t : Int) : Ad := (ptT.getD f.toNat []).getD (t.toNat - 1) 0
def MT (M : Nat → Nat) (f : Int) : Nat := if 0 ≤ f ∧ f < 2 then M f.toNat else 0
theorem MT_nat(M:Nat→Nat){f:Nat}(h:f<2):MT M (f:Int)=M f:=by
  unfold MT;rw [if_pos (by omega)];rfl
theorem ptT_ne:∀f,f<2→∀i,i<4→(ptT.getD f []).getD i 0≠0:=by decide
theorem ptT_len{f:Nat}(h:f<2):(ptT.getD f []).length=4:=by
  have:f=0∨f=1:=by omega
  rcases this with rfl|rfl <;>rfl
theorem adF_pt{f:Nat}(hf:f<2):∀(c:Nat) (s:Nat),s+c≤4→adF aT f c (s+1:Nat)=((ptT.getD f []).drop s).take c
  |0,_,_=>by simp [adF]
  |c+1,s,h=>by
    have hl:=ptT_len hf
    have ih:=adF_pt hf c (s+1) (by omega)
    show aT f ((s+1:Nat):Int)::adF aT f c (((s+1:Nat):Int)+1)=_
    rw [show (((s+1:Nat):Int)+1)=((s+1+1:Nat):Int) by omega,ih]
    have e:aT f ((s+1:Nat):Int)=(ptT.getD f []).getD s 0:=rfl
    rw [e]
    generalize ptT.getD f []=p at hl
    rw [List.drop_eq_getElem_cons (by omega:s<p.length),List.take_succ_cons,List.getD_eq_getElem?_getD,List.getElem?_eq_getElem (by omega)];rfl
theorem adF_pt1{f c:Nat}(hf:f<2)(h:c≤4):adF aT f c 1=(ptT.getD f []).take c:=adF_pt hf c 0 (by omega)
theorem smT_app(T:Wr→Int):∀(l m:List Wr),smT T (l++m)=smT T l+smT T m
  | [],m=>by show smT T m=0+_;rw [Int.zero_add]
  |w::l,m=>by show T w+smT T (l++m)=T w+smT T l+smT T m;rw [smT_app T l m,Int.add_assoc]
theorem smT_wsG(ws:List Wr)(ts:List Int)(p:List Ad):∀t,t≤p.length→smT (fun w=>tmK ws ts w ws.length) (wsG 0 (p.take t))=smK ws ts p t
  |0,_=>rfl
  |t+1,h=>by
    have ih:=smT_wsG ws ts p t (by omega)
    have e:p.take (t+1)=p.take t++ [p.getD t 0]:=by
      rw [List.take_add_one,List.getElem?_eq_getElem (by omega),List.getD_eq_getElem?_getD,List.getElem?_eq_getElem (by omega)];rfl
    have e2:(if p.take t=[] then (0:Ad) else (p.take t).getD ((p.take t).length - 1) 0)=prA p t:=by
      cases t with
      |zero=>rfl
      |succ s=>
        have hl:(p.take (s+1)).length=s+1:=by rw [List.length_take];omega
        rw [if_neg (fun h=>by rw [h] at hl;cases hl),hl,List.getD_eq_getElem?_getD,List.getElem?_take_of_lt (by omega),←List.getD_eq_getElem?_getD];rfl
    rw [e,wsG_snoc,smT_app,ih,e2]
    show smK ws ts p t+(tmK ws ts (prA p t,p.getD t 0) ws.length+0)=smK ws ts p t+_
    rw [Int.add_zero]
section
variable {ts : List Int} {q : Int} {M : Nat → Nat} {out : List Rs}
theorem tr_at(h:TrP ts q M out){r:Rs}(hr:r∈out):∃(i f t:Nat) (u:Int),i<out.length∧f<2∧1≤t∧t≤M f∧(0≤u∧u≤q)∧r=rpH f i t (smK (wiB 2) ts (ptT.getD f []) t+u) ((ptT.getD f []).getD (t - 1) 0):=by
  obtain ⟨i,hi,e⟩:=List.getElem_of_mem hr
  obtain ⟨f,t,u,a1,a2,a3,a4,a5⟩:=h.1 i hi
  rw [List.getD_eq_getElem?_getD,List.getElem?_eq_getElem hi] at a5
  exact ⟨i,f,t,u,hi,a1,a2,a3,a4,by rw [←e];exact a5⟩
theorem tr_fan(hl:ts.length=(wiB 2).length)(hts:∀y∈ts,0≤y∧y≤60)(hq:0≤q∧q≤100)(hM:∀f,f<2→2≤M f∧M f≤4)(h:TrP ts q M out)(ho:out.length≤13):Fan aT (MT M) x0T out where
  up:=by
    show List.Pairwise _ _
    rw [List.pairwise_iff_getElem]
    intro i j hi hj hij
    obtain ⟨f,t,u,_,_,_,_,a5⟩:=h.1 i hi
    obtain ⟨g,s,v,_,_,_,_,b5⟩:=h.1 j hj
    rw [List.getD_eq_getElem?_getD,List.getElem?_eq_getElem hi] at a5
    rw [List.getD_eq_getElem?_getD,List.getElem?_eq_getElem hj] at b5
    have a5:out[i]=_:=a5
    have b5:out[j]=_:=b5
    rw [a5,b5]
    exact cmpL_lt (show 1000*(i:Int)<1000*j by omega)
  ok r hr:=by
    obtain ⟨i,f,t,u,hi,hf,ht1,ht2,hu,rfl⟩:=tr_at h hr
    have hMf:=hM f hf
    have hs:=smK_bd (ws:=wiB 2) hts (by have:=wiB_len 2;omega) (ptT.getD f []) t
    have hne:=ptT_ne f hf (t - 1) (by omega)
    have hfr:aT (f:Int) (t:Int)=(ptT.getD f []).getD (t - 1) 0:=rfl
    generalize smK (wiB 2) ts (ptT.getD f []) t=s at hs
    refine ⟨?_,rfl,rfl,rfl,rfl,by show 1≤(t:Int);omega,by show (t:Int)≤(MT M (f:Int):Nat);rw [MT_nat M hf];omega,hfr.symm⟩
    generalize (ptT.getD f []).getD (t - 1) 0=a at hne
    have hv:a.val≠0:=fun e=>hne (_root_.Fin.ext e)
    have hP1:¬P1 (rpH f i t (s+u) a):=by unfold P1 rpH;simp only;omega
    have hP2:¬P2 (rpH f i t (s+u) a):=by unfold P2 rpH;simp only;omega
    have hP3:¬P3 (rpH f i t (s+u) a):=by unfold P3 rpH;simp
    have hP4:¬P4 (rpH f i t (s+u) a):=by unfold P4 rpH;simp only;omega
    have hck:ckE (rpH f i t (s+u) a)=0:=by unfold ckE;rw [if_neg hP1,if_neg hP2,if_neg hP3,if_neg hP4]
    have hf2:(rpH f i t (s+u) a).fr.val≠0:=hv
    unfold okR
    rw [hck,decide_eq_true hf2]
    simp [rpH]
  all r hr t ht1 ht2:=by
    obtain ⟨i,f,s,u,hi,hf,hs1,hs2,hu,rfl⟩:=tr_at h hr
    have ht2:t≤(MT M (f:Int):Nat):=ht2
    rw [MT_nat M hf] at ht2
    obtain ⟨t,rfl⟩:=Int.eq_ofNat_of_zero_le (show 0≤t by omega)
    exact h.2 f hf t (by omega) (by omega)
end
end Go.Proofs.YtojkdfilabmafaaGreat
namespace Go.Proofs.YtojkdfilabmafaaGreat
open Go.Own Go.Limbs Go.Det
theorem wiT_subB:∀f,f<2→∀t,t<5→((wsG 0 ((ptT.getD f []).take t)).all fun w=>decide (w∈wiB 2))=true:=by decide
theorem wiT_sub(f:Nat)(hf:f<2)(t:Nat)(ht:t<5)(w:Wr)(hw:w∈wsG 0 ((ptT.getD f []).take t)):w∈wiB 2:=
  of_decide_eq_true (List.all_eq_true.1 (wiT_subB f hf t ht) w hw)
theorem wiT_len:(wiB 2).length=7:=by decide
def wiS : List Wr := [(0, 1), (1, 2), (1, 5), (2, 3), (3, 4), (3, 6), (5, 3)]
theorem wiS_up:Up cmpW wiS:=by unfold Up;decide
theorem wiS_mem:∀w∈wiB 2,w∈wiS:=by decide
theorem wiT_preB:∀f,f<2→∀t,t<5→(decide (t=0)||(wsG 0 ((ptT.getD f []).take t)).any fun w=>decide (w=(0,1)))=true:=by decide
theorem wiT_pre(f:Nat)(hf:f<2)(t:Nat)(ht:t<5)(h1:1≤t):(0,1)∈wsG 0 ((ptT.getD f []).take t):=by
  have h:=wiT_preB f hf t ht
  rw [decide_eq_false (by omega),Bool.false_or] at h
  obtain ⟨w,hw,e⟩:=List.any_eq_true.1 h
  rw [←of_decide_eq_true e];exact hw
theorem up_sub_len{vs:List Wr}(hu:Up cmpW vs)(h:∀w∈vs,w∈wiS):vs.length≤7:=by
  have e:vs=wiS.filter fun w=>decide (w∈vs):=by
    refine Up.ext ordW hu (List.Pairwise.filter _ wiS_up) fun w=> ?_
    rw [List.mem_filter,decide_eq_true_eq]
    exact ⟨fun hw=>⟨h w hw,hw⟩,fun hw=>hw.2⟩
  rw [e]
  exact List.length_filter_le _ _
section
variable {ts : List Int} {q : Int} {M : Nat → Nat} {out : List Rs}
def tmF (ts : List Int) (w : Wr) : Int := tmK (wiB 2) ts w (wiB 2).length
theorem tmF_at(ts:List Int){w:Wr}(h:w∈wiB 2):∃k,k<(wiB 2).length∧(wiB 2).getD k wr0=w∧tmF ts w=ts.getD k 0:=by
  have e:wiB 2=[(0,1),(1,2),(2,3),(3,4),(1,5),(5,3),(3,6)]:=by decide
  rw [e] at h
  simp only [List.mem_cons,List.not_mem_nil,or_false] at h
  rcases h with rfl|rfl|rfl|rfl|rfl|rfl|rfl
  · exact ⟨0,by decide,by decide,by show (0:Int)+ts.getD 0 0=_;rw [Int.zero_add]⟩
  · exact ⟨1,by decide,by decide,by show (0:Int)+ts.getD 1 0=_;rw [Int.zero_add]⟩
  · exact ⟨2,by decide,by decide,by show (0:Int)+ts.getD 2 0=_;rw [Int.zero_add]⟩
  · exact ⟨3,by decide,by decide,by show (0:Int)+ts.getD 3 0=_;rw [Int.zero_add]⟩
  · exact ⟨4,by decide,by decide,by show (0:Int)+ts.getD 4 0=_;rw [Int.zero_add]⟩
  · exact ⟨5,by decide,by decide,by show (0:Int)+ts.getD 5 0=_;rw [Int.zero_add]⟩
  · exact ⟨6,by decide,by decide,by show (0:Int)+ts.getD 6 0=_;rw [Int.zero_add]⟩
theorem tr_ms(hl:ts.length=(wiB 2).length)(hts:∀y∈ts,0≤y∧y≤60)(hq:0≤q∧q≤100)(hM:∀f,f<2→2≤M f∧M f≤4)(h:TrP ts q M out)(ho:out.length≤13):
    (msF out).length=out.length∧chkF out=0∧∀m∈msF out,∃(f t:Nat),f<2∧1≤t∧t≤4∧m.2=wsG 0 ((ptT.getD f []).take t)∧smT (tmF ts) m.2≤m.1.bk - m.1.tm∧m.1.bk - m.1.tm≤smT (tmF ts) m.2+q:=by
  have hF:=tr_fan hl hts hq hM h ho
  have hMT:∀f,MT M f<256:=fun f=>by
    unfold MT
    split
    · have:=hM f.toNat (by omega);omega
    · decide
  have hms:=hF.ms hMT (fun r hr=>by
    obtain ⟨i,f,t,u,hi,hf,ht1,ht2,hu,rfl⟩:=tr_at h hr
    have hMf:=hM f hf
    show (adF aT (f:Int) (MT M (f:Int)) 1).all _=true
    rw [MT_nat M hf,adF_pt1 hf hMf.2]
    have:∀f,f<2→(ptT.getD f []).all (fun x=>decide (x≠0))=true:=by decide
    have:=this f hf
    rw [List.all_eq_true] at this ⊢
    exact fun x hx=>this x (List.mem_of_mem_take hx))
  refine ⟨by rw [hms,List.length_map],hF.chk (by omega),fun m hm=> ?_⟩
  rw [hms] at hm
  obtain ⟨r,hr,rfl⟩:=List.mem_map.1 hm
  obtain ⟨i,f,t,u,hi,hf,ht1,ht2,hu,rfl⟩:=tr_at h hr
  have hMf:=hM f hf
  have e2:wsG 0 (adF aT (f:Int) t 1)=wsG 0 ((ptT.getD f []).take t):=by rw [adF_pt1 hf (by omega)]
  have e3:=smT_wsG (wiB 2) ts (ptT.getD f []) t (by rw [ptT_len hf];omega)
  refine ⟨f,t,hf,ht1,by omega,e2,?_,?_⟩
  · show smT (tmF ts) (wsG 0 (adF aT (f:Int) t 1))≤1000*(i:Int)+(smK (wiB 2) ts (ptT.getD f []) t+u) - 1000*i
    rw [e2]
    have:smT (tmF ts) (wsG 0 ((ptT.getD f []).take t))=smK (wiB 2) ts (ptT.getD f []) t:=e3
    omega
  · show 1000*(i:Int)+(smK (wiB 2) ts (ptT.getD f []) t+u) - 1000*i≤smT (tmF ts) (wsG 0 (adF aT (f:Int) t 1))+q
    rw [e2]
    have:smT (tmF ts) (wsG 0 ((ptT.getD f []).take t))=smK (wiB 2) ts (ptT.getD f []) t:=e3
    omega
theorem tr_vr(hl:ts.length=(wiB 2).length)(hts:∀y∈ts,0≤y∧y≤60)(hq:0≤q∧q≤100)(hM:∀f,f<2→2≤M f∧M f≤4)(h:TrP ts q M out)(ho:out.length≤13):
    vrO out=(vrF out,0)∧Up cmpW (vrF out)∧(∀w∈vrF out,w∈wiB 2)∧(vrF out).length≤7∧0<(vrF out).length∧∀m∈msF out,∀w∈m.2,w∈vrF out:=by
  obtain ⟨h1,h2,h3⟩:=tr_ms hl hts hq hM h ho
  have hs:=sd_spec ordW (wsA (msF out))
  have hin:∀w∈vrF out,w∈wiB 2:=fun w hw=>by
    have hw:=(hs.2 w).1 hw
    obtain ⟨m,hm,hw⟩:=List.mem_flatMap.1 hw
    obtain ⟨f,t,hf,_,ht,e,_⟩:=h3 m hm
    rw [e] at hw
    exact wiT_sub f hf t (Nat.lt_succ_of_le ht) w hw
  have hlen:=up_sub_len hs.1 (fun w hw=>wiS_mem w (hin w hw))
  have hlen:(vrF out).length≤7:=hlen
  have hsub:∀m∈msF out,∀w∈m.2,w∈vrF out:=fun m hm w hw=>(hs.2 w).2 (List.mem_flatMap.2 ⟨m,hm,hw⟩)
  refine ⟨?_,hs.1,hin,hlen,?_,hsub⟩
  · unfold vrO
    rw [if_neg (fun h=>h h2),if_neg (by omega)]
  · have hM0:=hM 0 (by decide)
    obtain ⟨r,hr,_⟩:=h.2 0 (by decide) 1 (by decide) (by omega)
    have hp:0<(msF out).length:=by rw [h1];exact List.length_pos_of_mem hr
    have hm:(msF out)[0]∈msF out:=List.getElem_mem hp
    obtain ⟨f,t,hf,ht1,ht,e,_⟩:=h3 _ hm
    exact List.length_pos_of_mem (hsub _ hm (0,1) (by rw [e];exact wiT_pre f hf t (Nat.lt_succ_of_le ht) ht1))
theorem tr_all(hl:ts.length=(wiB 2).length)(hts:∀y∈ts,0≤y∧y≤60)(hq:0≤q∧q≤100)(hM:∀f,f<2→2≤M f∧M f≤4)(h:TrP ts q M out)(ho:out.length≤13):
    ∃ds:List Dl,Ok Tryz.prog 16 [rssC out,tiC 60 q] (.fr (tupT [dlsC ds,intC 0]))∧(0<ds.length∧ds.length≤7)∧
      ∀d∈ds,∃k,k<(wiB 2).length∧(wiB 2).getD k wr0=d.1∧d.2.1≤ts.getD k 0∧ts.getD k 0≤d.2.2:=by
  obtain ⟨h1,h2,h3⟩:=tr_ms hl hts hq hM h ho
  obtain ⟨v1,v2,v3,v4,v5,v6⟩:=tr_vr hl hts hq hM h ho
  have ht:tiB 60 q=true:=by unfold tiB;exact decide_eq_true (by omega)
  have hrw:rwO out 60 q=(rowsD (vrF out) 60 q (msF out),(msF out).map (fun m=>idOf m.1),0):=by
    unfold rwO
    rw [v1]
    dsimp only
    rw [if_neg (by rw [ht];decide),if_neg (fun h=>h rfl),if_neg (by omega)]
  have hT:∀v∈vrF out,0≤tmF ts v∧tmF ts v≤60:=fun v hv=>by
    obtain ⟨k,hk,_,e⟩:=tmF_at ts (v3 v hv)
    rw [e]
    exact hts _ (by rw [List.getD_eq_getElem?_getD,List.getElem?_eq_getElem (by omega)];exact List.getElem_mem _)
  have hB:=fun k (hk:k<(vrF out).length)=>bounds_T v2 (tmF ts) (ms:=msF out) (mo:=60) (qu:=q) (by omega) (by omega) ht hT (fun m hm=>by
    obtain ⟨f,t,hf,ht1,ht,e,e2,e3⟩:=h3 m hm
    exact ⟨⟨me_wires out m hm,(me_time out m hm).2⟩,v6 m hm,e2,e3⟩) hk
  let iv:Nat→Int × Int:=fun k=>if hk:k<(vrF out).length then Classical.choose (hB k hk) else (0,0)
  have hiv:∀k (hk:k<(vrF out).length),∃O1 O2:Oc,Ok Tryz.prog 44 [rowsC (rowsD (vrF out) 60 q (msF out)),intC (vrF out).length,intC k] (.fr (tupT [ocC O1,ocC O2,ivC (iv k),intC 0]))∧(iv k).1≤tmF ts ((vrF out).getD k wr0)∧tmF ts ((vrF out).getD k wr0)≤(iv k).2:=fun k hk=>by
    have e:iv k=Classical.choose (hB k hk):=dif_pos hk
    rw [e];exact Classical.choose_spec (hB k hk)
  have hA:=DAll_fine out (by omega) 60 q (by rw [hrw]) iv (fun k hk=>by
    rw [v1] at hk
    obtain ⟨O1,O2,hO,_⟩:=hiv k hk
    rw [hrw,v1]
    exact ⟨O1,O2,hO⟩)
  rw [v1] at hA
  refine ⟨_,hA,⟨by rw [List.length_map,List.length_range];exact v5,by rw [List.length_map,List.length_range];exact v4⟩,fun d hd=> ?_⟩
  obtain ⟨k,hk,rfl⟩:=List.mem_map.1 hd
  have hk:=List.mem_range.1 hk
  obtain ⟨_,_,_,b1,b2⟩:=hiv k hk
  have hmem:(vrF out).getD k wr0∈vrF out:=by rw [List.getD_eq_getElem?_getD,List.getElem?_eq_getElem hk];exact List.getElem_mem _
  obtain ⟨j,hj,e1,e2⟩:=tmF_at ts (v3 _ hmem)
  rw [e2] at b1 b2
  exact ⟨j,hj,e1,b1,b2⟩
end
end Go.Proofs.YtojkdfilabmafaaGreat
namespace Go.Proofs.YtojkdfilabmafaaGreat
open Go.Own Go.Limbs
attribute [local irreducible] St Ops Go.Own.Fin Ok OkB OkN OkT OkL OkF OkM
def Stp (d : List Int) : Prop := ∀ t, t < d.length → 20 ≤ tmT d (t + 1) - tmT d t ∧ tmT d (t + 1) - tmT d t ≤ 49
theorem fIv0:fldInfo Tryz.prog 39 0=some (0,some 1):=by kernel_rfl
theorem fIv1:fldInfo Tryz.prog 39 1=some (1,some 1):=by kernel_rfl
attribute [local irreducible] OkMv
theorem lDl:LdN Tryz.prog 54 4:=LdN.of _ Tryz.underlying54 rfl (by kernel_rfl)
theorem szDl:(Tryz.prog.info? 54).map (·.size)=some 4:=by kernel_rfl
theorem zvDl:(Tryz.prog.info? 54).map (·.zero)=some (some (.agg #[.int .u32 0, .int .u32 0, .int .i64 0, .int .i64 0])):=by kernel_rfl
theorem fDl0:fldInfo Tryz.prog 54 0=some (0,some 2):=by kernel_rfl
theorem fDl1:fldInfo Tryz.prog 54 1=some (2,some 2):=by kernel_rfl
set_option maxHeartbeats 32000000 in
set_option maxRecDepth 20000 in
theorem DelayTruth_ok(bs:List Int)(qb mb:Int)(hb:∀b∈bs,0≤b∧b<256)(hqb:0≤qb∧qb<256)(hmb:0≤mb∧mb<256):Ok Tryz.prog 5 [bytesC bs, .ex (.int .u8 qb), .ex (.int .u8 mb)] (boolC true):=by
  refine Ok.enter Tryz.func5 rfl _ Tryz.ntmps5 rfl ?_
  intro S w
  have hB:Bytes (bs.take 400):=⟨fun b h=>(hb b (List.mem_of_mem_take h)).1,fun b h=>(hb b (List.mem_of_mem_take h)).2,by simp;omega⟩
  have hcv:IntKind.i64.wrap qb=qb:=Z0 (by omega) (by omega)
  have hcm:IntKind.i64.wrap mb=mb:=Z0 (by omega) (by omega)
  have hq:0≤qb%20∧qb%20≤100:=by omega
  have hT:=truth_ok bs hB (qb%20) (mb%6) hq (by omega)
  (refine Qy (Qx fun K hK=> ?_);refine Qv rfl rfl rfl ?_;refine Qj (hK _ _ (Qz (Qy (Qy ?_))));clear hK K;refine Qx (fun K hK=> ?_))
  refine QV goDAwake DAwake_ok rfl rfl rfl rfl ?_
  (refine Xx rfl rfl rfl ?_;refine Qj (hK _ _ (Qz (Xw rfl (QK (Qz (Qy ?_))))));clear hK K;refine Qx (fun K hK=> ?_);refine Qq rfl rfl rfl ?_)
  refine Z3 (q:=qb) rfl rfl (by with_reducible exact uU8) (by with_reducible exact uInt) hcv rfl ?_
  refine Qk (irem (q:=20) (by omega) (by omega)) rfl rfl rfl rfl ?_
  (refine Qv rfl rfl rfl ?_;refine Qj (hK _ _ (Qz (Qy ?_)));clear hK K;refine Qx (fun K hK=> ?_);refine Qq rfl rfl rfl ?_;refine Qq rfl rfl rfl ?_;refine Qq rfl rfl rfl ?_)
  refine Z3 (q:=mb) rfl rfl (by with_reducible exact uU8) (by with_reducible exact uInt) hcm rfl ?_
  refine Qk (irem (q:=6) (by omega) (by omega)) rfl rfl rfl rfl ?_
  refine Ops.callM [] (fun _=>true) gotruth hT rfl rfl rfl (fun _ h=>h.elim) (fun _=>rfl) (fun j hj=>by cases hj) (fun j _=> .inr fun _=>rfl) (fun p hp=>by cases hp) (fun q j hj=>by rcases hj with hj|⟨o,hj⟩ <;>cases hj) (fun x hx=> ?_)
  obtain ⟨ts,M,out⟩:=x
  obtain ⟨hl,hts,hM,hP,hol,_⟩:=hx
  dsimp only at hl hts hM hP hol ⊢
  obtain ⟨ds,hA,hdl,hD⟩:=tr_all hl hts hq hM hP hol
  have hw7:=wiT_len
  clear hT hP hM
  generalize qb%20=q at*
  generalize wiB 2=ws at*
  (refine Qq rfl rfl rfl ?_;refine Q0 rfl rfl rfl rfl ?_;refine Q0 rfl rfl rfl rfl ?_;refine Q0 rfl rfl rfl rfl ?_;refine Qv rfl rfl rfl ?_;refine Qv rfl rfl rfl ?_;refine Qv rfl rfl rfl ?_;refine Qj (hK _ _ (Qz (Qy ?_)));clear hK K;refine Qx (fun K hK=> ?_);refine Qq rfl rfl rfl ?_;refine Qq rfl rfl rfl ?_)
  refine Qo rfl (by with_reducible exact bTi) rfl (.one rfl rfl rfl rfl (.one rfl rfl rfl rfl .nil)) rfl ?_
  refine QV goDAll hA rfl rfl rfl rfl ?_
  (refine Qq rfl rfl rfl ?_;refine Q0 rfl rfl rfl rfl ?_;refine Q0 rfl rfl rfl rfl ?_;refine Qv rfl rfl rfl ?_;refine Qv rfl rfl rfl ?_;refine Qj (hK _ _ (Qz (Qy (Qy ?_))));clear hK K;refine Qx (fun K hK=> ?_);refine Qq rfl rfl rfl ?_;refine Qk ineq rfl rfl rfl rfl ?_;refine Qq rfl rfl rfl ?_;refine Qq rfl rfl rfl ?_)
  refine Qf rfl rfl (by with_reducible exact sDls.und) (List.length_map ..) rfl ?_
  (refine Qk ieql rfl rfl rfl rfl ?_;refine Q8 rfl rfl rfl rfl ?_;refine Qj (hK _ _ (Qz ?_));clear hK K)
  refine Q2 rfl (fun g=>absurd g (by omega)) (fun _=> ?_)
  (refine QK (Qz (Qy (Qy (Qx fun K hK=> ?_))));refine Qq rfl rfl rfl ?_)
  refine Qf rfl rfl (by with_reducible exact sDls.und) (List.length_map ..) rfl ?_
  (refine Qq rfl rfl rfl ?_;refine Qj (hK _ _ (Qz (Q1 ?_)));clear hK K)
  refine Qr (α:=Nat) (fun i=>i≤ds.length)
    (fun i=>[(9, .ct (wrsC ws)),(10, .ct (intsC ts)),(46, .ct (dlsC ds)),(47, .ct (intC ds.length)),(48, .ct (intC i))])
    (fun _=>[]) (fun i=>ds.length - i) 0 (Nat.zero_le _) (by exact Qu rfl ⟨rfl,rfl,rfl,rfl,rfl,trivial⟩) ?_
  intro i hi
  try dsimp only at hi ⊢
  (refine Qy (Qx fun K hK=> ?_);refine Qk ilss rfl rfl rfl rfl ?_;refine Qj (hK _ _ (Qz (Qy ?_)));clear hK K)
  refine Q2 rfl (fun g=> ?_) (fun g=> ?_)
  rotate_left
  · (refine Qm (Qz (Qy (Qx fun K hK=> ?_)));refine Qv rfl rfl rfl ?_;refine Qj (hK _ _ (Qz (Q4 ?_)));clear hK K)
    refine Q3 [_] rfl (QQ rfl QZ) rfl rfl
  (refine QK (Qz (Qy (Q1 (Qy (Qx fun K hK=> ?_))))))
  refine Qt rfl rfl rfl (by with_reducible exact sDls) (by omega) (dls_at (by omega) (by omega)) rfl ?_
  rw [show (i:Int).toNat=i from rfl]
  have hDi:=hD (ds.getD i dl0) (by rw [List.getD_eq_getElem?_getD,List.getElem?_eq_getElem (by omega)];exact List.getElem_mem _)
  generalize ds.getD i dl0=e at hDi ⊢
  obtain ⟨j0,hj0,hj1,hj2,hj3⟩:=hDi
  refine X9 (n:=4) rfl rfl rfl (by with_reducible exact lDl) rfl rfl ?_
  refine Qg 0 rfl rfl (by with_reducible exact zvDl) rfl rfl rfl ?_
  refine Qb 4 rfl rfl rfl rfl rfl (by with_reducible exact szDl) rfl rfl ?_
  (refine Qj (hK _ _ (Qz (Qy ?_)));clear hK K;refine Qx (fun K hK=> ?_);refine Qv rfl rfl rfl ?_;refine Qj (hK _ _ (Qz (Qy (Qy ?_))));clear hK K;refine Qx (fun K hK=> ?_);refine Qq rfl rfl rfl ?_;refine Qf rfl rfl (by with_reducible first|exact sTks.und|exact sWrs.und|exact sIks.und|exact sAdrs.und) (List.length_map ..) rfl ?_;refine Qq rfl rfl rfl ?_;refine Qj (hK _ _ (Qz (Q1 ?_)));clear hK K)
  refine Qr (α:=Nat × Bool) (fun x=>x.1≤ws.length∧(x.2=true∨x.1≤j0))
    (fun x=>[(9, .ct (wrsC ws)),(10, .ct (intsC ts)),(14, .own 0),(15, .ct (boolC x.2)),(46, .ct (dlsC ds)),(47, .ct (intC ds.length)),(48, .ct (intC i)),(53, .ct (intC ws.length)),(54, .ct (intC x.1))])
    (fun _=>[(0, .box 54 (dlCs e))]) (fun x=>ws.length - x.1) (0,false) ⟨Nat.zero_le _, .inr (Nat.zero_le _)⟩ (by exact Qu rfl ⟨rfl,rfl,rfl,rfl,rfl,rfl,rfl,rfl,rfl,trivial⟩) ?_
  rintro ⟨k,b⟩ ⟨hk,hkb⟩
  try dsimp only at hk hkb ⊢
  (refine Qy (Qx fun K hK=> ?_);refine Qk ilss rfl rfl rfl rfl ?_;refine Qj (hK _ _ (Qz (Qy ?_)));clear hK K)
  refine Q2 rfl (fun g2=> ?_) (fun g2=> ?_)
  rotate_left
  · have hbt:b=true:=hkb.elim id fun h=>by omega
    subst hbt
    (refine Qm (Qz (Qy (Qx fun K hK=> ?_)));refine Qq rfl rfl rfl ?_;refine Xx rfl rfl rfl ?_;refine Qj (hK _ _ (Qz (Xw rfl (QK (Qz ?_)))));clear hK K;refine Qx (fun K hK=> ?_);refine Qk (iadd (by omega) (by omega)) rfl rfl rfl rfl ?_;refine Qq rfl rfl rfl ?_;refine Qj (hK _ _ (Q6 ?_));clear hK K)
    refine Xj 0 ?_
    refine Q9 (i+1) (by omega) (by omega) (by exact Qu rfl ⟨rfl,rfl,rfl,rfl,by simp only [Int.natCast_add];rfl,trivial⟩)
  have hgx:=wrs_at (l:=ws) (j:=(k:Int)) (by omega) (by omega)
  have hgt:=Xr (xs:=ts) (j:=(k:Int)) (by omega) (by omega)
  rw [show (k:Int).toNat=k from rfl] at hgx hgt
  have hjk:j0=k→ws.getD k wr0=e.1∧e.2.1≤ts.getD k 0∧ts.getD k 0≤e.2.2:=fun h=>by subst h;exact ⟨hj1,hj2,hj3⟩
  generalize ws.getD k wr0=x at hgx hjk
  generalize ts.getD k 0=t at hgt hjk
  (refine QK (Qz (Qy (Q1 (Qy (Qx fun K hK=> ?_)))));refine Qq rfl rfl rfl ?_;refine Qv rfl rfl rfl ?_;refine Qj (hK _ _ (Qz ?_));clear hK K)
  cases b with
  |true=>
    refine Yq (by with_reducible exact mixed) [] (.p 0 (.p 1 (.p 2 (.p 3 (.p 4 (.p 6 (.f 5 (.f 7 (.p 8 (.p 9 (.p 10 (.p 11 (.p 13 (.p 14 (.p 15 (.f 12 (.f 16 (.p 17 (.p 18 (.p 19 (.p 20 (.p 21 (.p 22 (.p 24 (.p 25 (.f 23 (.f 26 (.p 27 (.p 28 (.p 29 (.p 30 .done))))))))))))))))))))))))))))))) (by kernel_rfl) (fun K hK=> ?_)
    repeat' (first
      |refine Qs ?_
      |refine Xp ?_
      |refine Qj ?_
      |refine Qw rfl rfl rfl ?_
      |refine Qq rfl rfl rfl ?_
      |refine Qv rfl rfl rfl ?_
      |refine Q5 rfl rfl rfl rfl ?_
      |refine Xv (hK _ _ ?_))
    (refine Qz (Qx fun K hK=> ?_);refine Qk (iadd (by omega) (by omega)) rfl rfl rfl rfl ?_;refine Qq rfl rfl rfl ?_;refine Qj (hK _ _ (Q6 ?_));clear hK K)
    refine Q9 (k+1,true) (by show ws.length - (k+1)<ws.length - k;omega) ⟨by show k+1≤ws.length;omega, .inl rfl⟩ (by exact Qu rfl ⟨rfl,rfl,rfl,rfl,rfl,rfl,rfl,rfl,by simp only [Int.natCast_add];rfl,trivial⟩)
  |false=>
    have hkb:k≤j0:=hkb.elim (fun h=>by cases h) id
    refine Yq (by with_reducible exact mixed) [] (.p 0 (.p 1 (.p 2 (.p 3 (.p 4 (.p 6 (.f 5 (.f 7 (.p 8 (.p 9 (.p 10 (.p 11 (.p 13 (.p 14 (.p 15 (.f 12 (.f 16 (.p 17 (.p 18 (.p 19 (.p 20 (.p 21 (.p 22 (.p 24 (.p 25 (.f 23 (.f 26 (.p 27 (.p 28 (.p 29 (.p 30 .done))))))))))))))))))))))))))))))) (by kernel_rfl) (fun K hK=> ?_)
    repeat' (first
      |refine Qs ?_
      |refine Xp ?_
      |refine Qj ?_
      |refine Qw rfl rfl rfl ?_
      |refine Qq rfl rfl rfl ?_
      |refine Qv rfl rfl rfl ?_
      |refine Q5 rfl rfl rfl rfl ?_
      |refine Q8 rfl rfl rfl rfl ?_
      |refine Qt rfl rfl rfl (by with_reducible exact sWrs) (by omega) hgx rfl ?_
      |refine Qt rfl rfl rfl (by with_reducible exact sInts) (by omega) hgt rfl ?_
      |refine X9 (n:=2) rfl rfl rfl (by with_reducible exact Yk) rfl rfl ?_
      |refine XU rfl rfl rfl (by with_reducible exact lInt) rfl ?_
      |refine QJ rfl rfl rfl (by with_reducible first|exact fDl0|exact fDl1) rfl ?_
      |refine Z2 rfl rfl (by with_reducible first|exact fIv0|exact fIv1) rfl ?_
      |refine Zt (n:=2) rfl rfl rfl rfl (Nat.le_of_ble_eq_true rfl) (by with_reducible exact Yk) rfl ?_
      |refine QX rfl rfl rfl rfl rfl (by with_reducible exact lInt) rfl ?_
      |refine eqWr x e.1 rfl rfl rfl rfl rfl ?_
      |refine Qk ileq rfl rfl rfl rfl ?_
      |refine Qi 66 rfl (fun g5=> ?_) (fun g5=> ?_)
      |refine Qi 76 rfl (fun g6=> ?_) (fun g6=> ?_)
      |refine Xv (hK _ _ ?_))
    · (refine Qz (Qx fun K hK=> ?_);refine Qk (iadd (by omega) (by omega)) rfl rfl rfl rfl ?_;refine Qq rfl rfl rfl ?_;refine Qj (hK _ _ (Q6 ?_));clear hK K)
      refine Q9 (k+1,decide (t≤e.2.2)) (by show ws.length - (k+1)<ws.length - k;omega) ⟨by show k+1≤ws.length;omega,by
        by_cases hc:t≤e.2.2
        · exact .inl (decide_eq_true hc)
        · right
          have:j0≠k:=fun h=>hc (hjk h).2.2
          show k+1≤j0
          omega⟩ (by exact Qu rfl ⟨rfl,rfl,rfl,rfl,rfl,rfl,rfl,rfl,by simp only [Int.natCast_add];rfl,trivial⟩)
    · (refine Qz (Qx fun K hK=> ?_);refine Qk (iadd (by omega) (by omega)) rfl rfl rfl rfl ?_;refine Qq rfl rfl rfl ?_;refine Qj (hK _ _ (Q6 ?_));clear hK K)
      refine Q9 (k+1,false) (by show ws.length - (k+1)<ws.length - k;omega) ⟨by show k+1≤ws.length;omega, .inr (by
        have:j0≠k:=fun h=>g6 (hjk h).2.1
        show k+1≤j0
        omega)⟩ (by exact Qu rfl ⟨rfl,rfl,rfl,rfl,rfl,rfl,rfl,rfl,by simp only [Int.natCast_add];rfl,trivial⟩)
    · (refine Qz (Qx fun K hK=> ?_);refine Qk (iadd (by omega) (by omega)) rfl rfl rfl rfl ?_;refine Qq rfl rfl rfl ?_;refine Qj (hK _ _ (Q6 ?_));clear hK K)
      refine Q9 (k+1,false) (by show ws.length - (k+1)<ws.length - k;omega) ⟨by show k+1≤ws.length;omega, .inr (by
        have:j0≠k:=fun h=>g5 (hjk h).1
        show k+1≤j0
        omega)⟩ (by exact Qu rfl ⟨rfl,rfl,rfl,rfl,rfl,rfl,rfl,rfl,by simp only [Int.natCast_add];rfl,trivial⟩)
end Go.Proofs.YtojkdfilabmafaaGreat
namespace Go.Proofs.YtojkdfilabmafaaGreat
open Go.Own Go.Limbs
section
variable {H : Type} {enc : TypeId × Value → H} {P : Program} {w : World} {base : Nat} {spare : Nat → Bool} {held : Bool}
theorem slice_in{α:Type}{t e:TypeId}{n fuel:Nat}{cs0:List Value}{x:DataW H × List MemPlace}(ht:P.underlying t=some (.slice e))(hn:P.cellsOf e=n)(hn0:0<n)(f:α→List CT)(hf:∀z,(f z).length=n)(good:α→Prop)
    (hE:∀m cs y,DataW.trod enc P w base spare held m e cs=some y→cs.length=n→∃z,cells (fun _=>True) w (f z) cs∧good z)
    (h:DataW.trod enc P w base spare held fuel t cs0=some x):∃(v:Value) (zs:List α),cs0=[v]∧zs.length≤9223372036854775807∧(∀z∈zs,good z)∧(CT.fr (sliceT n (zs.map f))).p (fun _=>True) w v:=by
  rcases DataW.trod_slice ht h with ⟨h0,_⟩|⟨a,len,cap,elems,rest,m,_,rfl,rfl,_,hl,hm,hlen,hel,_⟩
  · exact ⟨_,[],h0,Nat.zero_le _,(fun z hz=>nomatch hz),nil_is n _ w⟩
  rw [hn] at hel
  have key:∀k,k≤len→∃(zs:List α) (vs:List Value),zs.length=k∧(∀z∈zs,good z)∧cells (fun _=>True) w (zs.map f).flatten vs∧vs.length=k*n∧∀i u,vs[i]? =some u→w.cell? (a.add i)=some u:=by
    intro k
    induction k with
    |zero=>intro _;exact ⟨[],[],rfl,(fun z hz=>nomatch hz),trivial,(Nat.zero_mul n).symm,fun i u hu=>by simp at hu⟩
    |succ k ih=>
      intro hk
      obtain ⟨zs,vs,e1,e2,e3,e4,e5⟩:=ih (by omega)
      have h1:=hel k (by omega)
      rw [List.getElem?_eq_getElem (show k<elems.length by omega),Option.bind_eq_some_iff] at h1
      obtain ⟨cs,h2,h3⟩:=h1
      obtain ⟨_,h4,h5⟩:=World.cells?_some h2
      obtain ⟨z,h6,h7⟩:=hE _ _ _ h3 h4
      refine ⟨zs++ [z],vs++cs,by simp [e1],?_,?_,by rw [List.length_append,e4,h4,Nat.succ_mul],?_⟩
      · intro y hy
        rcases List.mem_append.1 hy with hy|hy
        · exact e2 y hy
        · rw [List.mem_singleton.1 hy];exact h7
      · rw [List.map_append,List.flatten_append]
        refine cells.append e3 ?_
        simpa using h6
      · intro i u hu
        rcases Nat.lt_or_ge i (k*n) with hi|hi
        · rw [List.getElem?_append_left (by omega)] at hu
          exact e5 i u hu
        · rw [List.getElem?_append_right (by omega),e4] at hu
          have hlt:i - k*n<n:=by
            have:=(List.getElem?_eq_some_iff.1 hu).1
            omega
          have:=h5 (i - k*n) hlt
          rw [Addr.add_add,show k*n+(i - k*n)=i by omega] at this
          rw [this,hu]
  obtain ⟨zs,vs,e1,e2,e3,e4,e5⟩:=key len (Nat.le_refl _)
  have hmx:maxLen=9223372036854775807:=by decide
  refine ⟨_,zs,rfl,by omega,e2,some a,cap,by rw [List.length_map,e1],by rw [List.length_map,e1];exact hl,hm,fun y hy=>by obtain ⟨z,_,rfl⟩:=List.mem_map.1 hy;exact hf z,fun hne=> ?_⟩
  have hpos:0<len:=by
    rcases Nat.eq_zero_or_pos len with h0|h0
    · rw [h0] at e1;rw [List.length_eq_zero_iff.1 e1] at hne;exact absurd rfl hne
    · exact h0
  have hvl:0<vs.length:=by rw [e4];exact Nat.mul_pos hpos hn0
  have h0:=e5 0 _ (List.getElem?_eq_getElem hvl)
  obtain ⟨b,o,sp⟩:=a
  have hsp:sp=none∧b<w.heap.size:=by
    simp only [Addr.add,if_true,World.cell?] at h0
    cases e:w.heap[b]? with
    |none=>rw [e] at h0;cases h0
    |some ob=>
      rw [e] at h0
      cases ob with
      |cells c t r=>
        refine ⟨?_,ZV e⟩
        cases sp with
        |none=>rfl
        |some q=>simp at h0
      |_=>cases h0
  obtain ⟨rfl,hb⟩:=hsp
  refine ⟨b,o,rfl,trivial,hb,vs,e3,fun i u hu=> ?_⟩
  have h1:=e5 i u hu
  have h3:(⟨b,o,none⟩:Addr).add i=⟨b,o+i,none⟩:=by
    unfold Addr.add
    split
    · rename_i h;subst h;rfl
    · rfl
  rw [h3] at h1
  exact h1
theorem bytes_in{t e:TypeId}{fuel:Nat}{cs0:List Value}{x:DataW H × List MemPlace}(ht:P.underlying t=some (.slice e))(he:P.underlying e=some (.int .u8))(hn:P.cellsOf e=1)
    (h:DataW.trod enc P w base spare held fuel t cs0=some x):∃(v:Value) (zs:List Int),cs0=[v]∧(∀z∈zs,0≤z∧z<256)∧(bytesC zs).p (fun _=>True) w v:=by
  obtain ⟨v,zs,h1,_,h2,h3⟩:=slice_in ht hn (by decide) (fun z:Int=>[CT.ex (Value.int .u8 z)]) (fun _=>rfl) (fun z=>0≤z∧z<256) (fun m cs y hy _=>by
    obtain ⟨z,rfl,_,hw⟩:=DataW.trod_int he hy
    exact ⟨z,⟨rfl,trivial⟩,by have:=bounds_u8 hw;omega⟩) h
  exact ⟨v,zs,h1,h2,h3⟩
end
end Go.Proofs.YtojkdfilabmafaaGreat
namespace Go.Proofs.YtojkdfilabmafaaGreat.delayTruth
open Go.ChangeShapes Go.WideShapes Go.ChangeAt Go.RowKit
open Go.ChangeMaps (open_string shut_string)
set_option linter.unusedVariables false
theorem byte_range{a:Int}(h:(Lit.int .u8 a).wf=true):0≤a∧a<256:=by
  simp only [Lit.wf,Bool.and_eq_true,decide_eq_true_eq] at h
  exact ⟨h.1,by have:=h.2;rw [show IntKind.u8.max=255 from rfl] at this;omega⟩
theorem own:ownKnob Tryz.prog.godebug=none:=by kernel_rfl
theorem laidOut:laidOutB Tryz.prog=true:=by kernel_rfl
set_option maxRecDepth 100000 in
theorem lifted(os:Os)(started:os.Started)(H:Type)(enc:TypeId × Value→H):
    ReturnsInHanded {} Tryz.checked os 5 .any (Rows.delayTruthSpec.pre6 enc Tryz.prog Tryz.f5 Rows.delayTruthRow.domain false) (Rows.delayTruthSpec.post enc Tryz.prog Tryz.f5 false true false false):=by
  refine returnsInHanded_of_change (C:=Tryz.checked) own started (by kernel_rfl) Tryz.func5
    (ChangeSpec.witness6 (enc:=enc) (C:=Tryz.checked) false ⟨#[], #[.slice none 0 0, .int .u8 0, .int .u8 0],[]⟩ 8 (by kernel_rfl) (by kernel_rfl) (by kernel_rfl) (by kernel_rfl)) ?_
  intro W base args ds gs before hval0 hW hcnd _
  have hval:∀(j:Nat) t v,Tryz.f5.params[j]? =some t→args[j]? =some v→Value.okWide Tryz.prog W .any base t v:=hval0
  have hW' :=hW
  obtain ⟨p,q,hA0,hV,rfl,hfz,hnd⟩:=hW
  have hA:DataW.TrodAll enc Tryz.prog W 0 (fun _=>true) true Tryz.f5.params.toList args.toList ds p:=hA0
  rw [Tryz.params5] at hA hval
  obtain ⟨v0,vs0,d0,ds0,p0,q0,hargs0,rfl,rfl,h0,r0⟩:=trodAll_cons hA
  obtain ⟨v1,vs1,d1,ds1,p1,q1,hargs1,rfl,rfl,h1,r1⟩:=trodAll_cons r0
  obtain ⟨v2,vs2,d2,ds2,p2,q2,hargs2,rfl,rfl,h2,r2⟩:=trodAll_cons r1
  obtain ⟨rfl,rfl,rfl⟩:=trodAll_nil r2
  obtain rfl:args= #[v0,v1,v2]:=by cases args;simp_all
  obtain ⟨rfl,rfl⟩:=trodVars_none hV
  obtain ⟨a0,len0,cap0,rfl⟩:=okWide_slice Tryz.underlying22 (hval 0 22 v0 rfl rfl)
  have k0:=h0
  have lt0:∀x∈p0,x.block<W.heap.size:=by obtain ⟨m,hm⟩:=k0;exact DataW.trod_lt m _ _ _ hm
  obtain ⟨f0,t0⟩:=h0
  obtain ⟨u0,z0,e0,c0,w0⟩:=bytes_in Tryz.underlying22 Tryz.underlying5 (by kernel_rfl) t0
  have e0:Value.slice a0 len0 cap0=u0:=by simpa [Value.cells] using e0
  subst e0
  obtain ⟨a1,rfl,rfl,rfl,w1⟩:=open_int Tryz.underlying5 (hval 1 5 v1 rfl rfl) h1
  obtain ⟨a2,rfl,rfl,rfl,w2⟩:=open_int Tryz.underlying5 (hval 2 5 v2 rfl rfl) h2
  clear hA0 hval0
  refine (((DelayTruth_ok z0 a1 a2 c0 (byte_range w1) (byte_range w2)) (fun _=>True) W [.slice a0 len0 cap0, .int .u8 a1, .int .u8 a2] (fun _ _=>trivial) ⟨w0,rfl,rfl,trivial⟩)).mono fun e W' ⟨v,he,hv,bel⟩=> ?_
  have hv:v= .bool true:=hv
  subst hv he
  exact ⟨_,rfl,_,_,_,[],_,[],hW',trodAll_mk1 (shut_bool Tryz.underlying4 _),(trodAll_cons_mk (Below.trod laidOut (by kernel_rfl) (of_decide_eq_true (by kernel_rfl)) k0 bel.kit lt0) (trodAll_cons_mk (shut_int Tryz.underlying5 w1) (trodAll_cons_mk (shut_int Tryz.underlying5 w2) trodAll_mk0))),rfl,bel.kit.frame _,fun h=>by cases h⟩
theorem over:Rows.delayTruthRow.holds Tryz.pinned (OpenSpec.ofChange Rows.delayTruthSpec):=
  OpenClaim.holds_of_wide 5 Tryz.f5 rfl rfl rfl rfl rfl rfl rfl ⟨rfl,rfl,rfl,rfl,rfl⟩ rfl rfl rfl rfl rfl (by kernel_rfl) Tryz.func5 (by kernel_rfl)
    (of_decide_eq_true (by kernel_rfl)) (by unfold Func.isWrapper;first|(rw [if_pos (by decide+kernel)];kernel_rfl)|(rw [if_neg (by decide+kernel)];exact ⟨rfl,rfl⟩))
    (fun os started H enc _=>lifted os started H enc)
theorem proved:Rows.DelayTruthSaid:=over
#print axioms proved
end Go.Proofs.YtojkdfilabmafaaGreat.delayTruth
