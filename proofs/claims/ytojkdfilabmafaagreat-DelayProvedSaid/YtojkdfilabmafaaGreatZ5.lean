/- The proof that DelayProved holds for every input, without conditions: part 5 of 7. -/
import Derived.Test.YtojkdfilabmafaaGreatZ4
set_option maxHeartbeats 32000000
namespace Go.Proofs.YtojkdfilabmafaaGreat
open Go.Own Go.Limbs Go.Proofs.Tryz
attribute [local irreducible] St Ops Go.Own.Fin Ok OkB OkN OkT OkL OkF
theorem goCompact_Wr:InGo prog 62:=InGo.of func62 (by kernel_rfl) (by kernel_rfl)
theorem Compact_Wr_ok(l:List Wr)(hl:l.length<=1000000000):OkT prog 62 37 2 (wrs l) [] (wrs (dd l)):=by
 refine OkT.enter func62 J _ ntmps62 J ?_
 intro S w h0;refine Qj (Qx ?_);refine Qy J J J (Qz (Qq (Qj (Qj ?_))));refine Qx (Qv J J J (Yd l.length J J J (by decide) (wrs_len l) sWrs.und J ?_));refine Qw ilss J J J J (Qz (Qq ?_));refine Q1 J (fun h=> ?_) (fun h=> ?_)
 · rw [dd_small (l:=l) (by omega)];refine Qj (Qx ?_);refine Qk 2 J (Qz (Qq (Q0 (QW ?_))));refine Yp J J J
 refine QU (Qq (Qj (Qj (Qx ?_))));refine Qy J J J (Qz (Qq (Q2 ?_)))
 refine Qn (α:=Nat) (fun i=>i+1<=l.length/\ dd (l.take (i+1))=l.take (i+1))
  (fun i=>[(0, .own 0),(3, .ct (intC (i+1)))]) (fun _=>[(0, .row 37 2 (wrs l))]) (fun i=>l.length - i) 0 ⟨by omega,dd_small (by rw [List.length_take];omega)⟩ (by exact QX J ⟨rfl,rfl,trivial⟩) ?_
 rintro i ⟨hi,hd⟩
 try dsimp only at hi hd
 try dsimp only
 refine Qj (Qj (Qx ?_));refine Qk 2 J (Yd l.length J J J (by decide) (wrs_len l) sWrs.und J ?_);refine Qw ilss J J J J (Qz (Qq ?_));refine Q1 J (fun h=> ?_) (fun h=> ?_);rotate_left
 · have e:dd l=l:=by
    have:=hd;rw [List.take_of_length_le (by omega)] at this;exact this
   rw [e];refine Qi (Qq (Qj (Qx ?_)));refine Qk 2 J (Qz (Qq (Q0 ?_)));refine Yp J J J
 refine QU (Qq (Qj (Q2 (Qj ?_))));refine Xy mixed 10 (.p 0 (.p 1 (.p 2 (.p 4 (.p 5 (.p 6 (.p 7 (.f 3 (.f 8 (.p 9 .done)))))))))) (by kernel_rfl) (fun K hK=> ?_);refine Qk 2 J (XY l.length J J J (wrs_len l) J sWrs (by omega) (by omega) J ?_);refine Qk 2 J (Qw (isub (by omega) (by omega)) J J J J ?_)
 refine XY l.length J J J (wrs_len l) J sWrs (by omega) (by omega) J ?_
 skip
 refine ldE wrCs wr0 wr_len J J J J J (by omega) YK J ?_
 refine ldE wrCs wr0 wr_len J J J J J (by omega) YK J ?_
 rw [show ((i:Int)+1).toNat=i+1 by omega,show ((i:Int)+1 - 1).toNat=i by omega];generalize hx:l.getD i wr0=x;generalize hy:l.getD (i+1) wr0=y;refine eqWr y x J J J J J (Qz (hK _ _ (Qq ?_)));clear hK K;have hs:=dd_step (l:=l) (z:=wr0) (p:=i+1) (by omega) (by omega);rw [show i+1 - 1=i by omega,hx,hy] at hs;refine Q1 J (fun he=> ?_) (fun he=> ?_);rotate_left
 · refine QU (Qq (Qx ?_));refine Qv J J J (Qw (iadd (by omega) (by omega)) J J J J ?_);refine Qy J J J (Qz (Q5 ?_));refine Q6 (i+1) (by omega) ⟨by omega,?_⟩ (by exact QX J ⟨rfl,by simp only [Int.natCast_add];rfl,trivial⟩);rw [hs,if_neg he,hd,List.take_add_one (i:=i+1),List.getElem?_eq_getElem (by omega),<- hy,List.getD_eq_getElem?_getD,List.getElem?_eq_getElem (by omega)];rfl
 rw [if_pos he,hd] at hs;refine St.nameS 0 0 l.length J J (wrs_len l) (by omega) (by decide) (fun gb c hc1 hc2=> ?_);refine Qj (Qx ?_);refine Qk 2 J (Zh (i+1) J J J (by omega) sWrs (by omega) J ?_);rw [if_neg (show ¬c=i+1 by omega),Nat.zero_add];refine Qy J J J (Qz (Qq (Qj (Qj ?_))));refine Qx (Qy J J J (Qz (Qq (Q2 ?_))))
 refine Qn (α:=Nat) (fun j=>i+2+j<=l.length/\ (dd (l.take (i+2+j))).length<i+2+j)
  (fun j=>[(0, .ct (.ex (kh gb 0 l.length c))),(3, .ct (intC (dd (l.take (i+2+j))).length)),(4, .ct (.ex (kh gb ((i+1)*2) (l.length - (i+1)) (c - (i+1))))),(5, .ct (intC (j+1)))])
  (fun j=>[(0, .rowx (kh gb 0 l.length c) 37 2 (wrs (dd (l.take (i+2+j))++l.drop (dd (l.take (i+2+j))).length)))]) (fun j=>l.length - j) 0
  ⟨by omega,by rw [Nat.add_zero,hs,List.length_take];omega⟩ (by
   rw [Nat.add_zero,hs,List.length_take,Nat.min_eq_left hi,List.take_append_drop]
   exact QX J ⟨rfl,rfl,rfl,rfl,trivial⟩) ?_
 clear hs
 rintro j ⟨hj,hD⟩
 try dsimp only at hj hD
 try dsimp only
 have hs:=dd_step (l:=l) (z:=wr0) (p:=i+2+j) (by omega);generalize hDD:dd (l.take (i+2+j))=D at hs hD ⊢
 have hrl:(D++l.drop D.length).length=l.length:=by rw [List.length_append,List.length_drop];omega
 have hat:∀q,D.length<=q ->(D++l.drop D.length).getD q wr0=l.getD q wr0:=fun q hq=>row_at D l q wr0 hq
 refine Qj (Qj (Qx ?_));refine Qk 2 J (YX J J sWrs.und J (Qw ilss J J J J (Qz (Qq ?_))));refine Q1 J (fun h2=> ?_) (fun h2=> ?_)
 · refine QU (Qq (Qj (Q2 (Qj ?_))));refine Xy mixed 10 (.p 0 (.p 1 (.p 2 (.p 4 (.p 5 (.p 6 (.p 7 (.f 3 (.f 8 (.p 9 .done)))))))))) (by kernel_rfl) (fun K hK=> ?_);refine Qk 2 J (Zg 0 (i+1) J J J J sWrs (by omega) (by omega) J ?_);refine Qk 2 J (Qw (isub (by omega) (by omega)) J J J J ?_)
   refine Zg 0 (i+1) J J J J sWrs (by omega) (by omega) J ?_
   skip
   refine ldE wrCs wr0 wr_len J J J J J (by omega) YK J ?_
   refine ldE wrCs wr0 wr_len J J J J J (by omega) YK J ?_
   rw [show i+1+((j:Int)+1).toNat=i+2+j by omega,show i+1+((j:Int)+1 - 1).toNat=i+2+j - 1 by omega,hat _ (by omega),hat _ (by omega)];have hs:=hs (by omega);generalize hx2:l.getD (i+2+j - 1) wr0=x2 at hs ⊢;generalize hy2:l.getD (i+2+j) wr0=y2 at hs ⊢;refine neWr y2 x2 J J J J J (Qz (hK _ _ (Qq ?_)));clear hK K;refine Q1 J (fun he2=> ?_) (fun he2=> ?_)
   · rw [if_neg he2] at hs;refine Qj (Qx ?_);refine Qk 4 J (Zg 0 (i+1) J J J J sWrs (by omega) (by omega) J ?_)
     refine ldE wrCs wr0 wr_len J J J J J (by omega) YK J ?_
     rw [show i+1+((j:Int)+1).toNat=i+2+j by omega,hat _ (by omega),hy2]
     refine Zg 0 0 J J J J sWrs (by omega) (by omega) J ?_
     rw [Nat.zero_add,show ((D.length:Int)).toNat=D.length by omega]
     refine stEX wrCs y2 wr_len J J J J J (by omega) szWire ?_
     rw [row_set D l y2 (by omega)];refine Qz (Qq ?_);refine Qx (Qv J J J (Qw (iadd (by omega) (by omega)) J J J J ?_));refine Qy J J J (Qz (Qq ?_));refine Qx (Qv J J J (Qw (iadd (by omega) (by omega)) J J J J ?_));refine Qy J J J (Qz (Q5 ?_))
     refine Q6 (j+1) (by omega) ⟨by omega,by show (dd (l.take (i+2+j+1))).length<_;rw [hs,List.length_append];show D.length+1<_;omega⟩ ?_
     rw [show i+2+(j+1)=i+2+j+1 by omega,hs,List.length_append];exact QX J ⟨rfl,by simp only [Int.natCast_add];rfl,rfl,by simp only [Int.natCast_add];rfl,trivial⟩
   · rw [if_pos (Decidable.not_not.1 he2)] at hs;refine QU (Qq (Qx ?_));refine Qv J J J (Qw (iadd (by omega) (by omega)) J J J J ?_);refine Qy J J J (Qz (Q5 ?_))
     refine Q6 (j+1) (by omega) ⟨by omega,by show (dd (l.take (i+2+j+1))).length<_;rw [hs];omega⟩ ?_
     rw [show i+2+(j+1)=i+2+j+1 by omega,hs];exact QX J ⟨rfl,rfl,rfl,by simp only [Int.natCast_add];rfl,trivial⟩
 · have e:dd l=D:=by rw [<- hDD,List.take_of_length_le (by omega)]
   rw [e];refine Qi (Qq (Qj (Qx ?_)));refine Qk 2 J (Zh D.length J J J J sWrs (by omega) J ?_);skip
   refine Ops.cutOff 0 D.length J (by show (wrs _).length=_;rw [wrs_len,hrl]) (by decide) (by omega) (by show (wrs _).take _=wrs D;rw [wrs_take,List.take_left]) ?_
   refine Ops.clearK 0 J J (by split <;>omega) J (wrs_len D) (by omega) sWrs (by decide) ?_
   refine Qz (Qq (Qj ?_));refine Qx (Qk 2 J (Yo D.length J J J J sWrs (by omega) J ?_));refine Qy J J J (Qz (Qq (Q0 (Q8 (QW (QW (Q8 (QW ?_))))))));refine Fin.link 2 0 J J (Yp J J J)
attribute [local irreducible] OkM
abbrev Stm := Tk × Int
abbrev stmI (s : Stm) : List Int := [s.1.va, (s.1.ds.val : Int), s.1.pr, s.2]
abbrev stmE (s : Stm) : Value := Go.Own.encI ([.i64, .u32, .i64] ++ [.i64]) (stmI s)
abbrev stmV (s : Stm) : List Value := [.int .i64 s.1.va, .int .u32 (s.1.ds.val : Int), .int .i64 s.1.pr, .int .i64 s.2]
abbrev stmCs (s : Stm) : List CT := [intC s.1.va, adrF s.1.ds, intC s.1.pr, intC s.2]
theorem stmI_inj(a b:Stm)(h:stmI a=stmI b):a=b:=by
 obtain ⟨⟨a1,a2,a3⟩,a4⟩:=a;obtain ⟨⟨b1,b2,b3⟩,b4⟩:=b;simp only [List.cons.injEq,and_true,Int.ofNat_inj,Fin.val_inj] at h;obtain ⟨h1,h2,h3,h4⟩:=h;rw [h1,h2,h3,h4]
theorem uMOwn:prog.underlying 152=some (.map 123 24):=underlying152
theorem z0Rss(w:World):(zeroValue 24).run prog w= .ok (.slice none 0 0) w:=ZZ (by kernel_rfl) w
theorem z0Ads(w:World):(zeroValue 93).run prog w= .ok (.slice none 0 0) w:=ZZ (by kernel_rfl) w
abbrev tkE (t : Tk) : Value := Go.Own.encI [.i64, .u32, .i64] (tkI t)
abbrev tkVs (t : Tk) : List Value := [.int .i64 t.va, .int .u32 (t.ds.val : Int), .int .i64 t.pr]
abbrev OwM := List (Tk × List Rs)
def owF (l : List Rs) : OwM := (trsF l).foldl (fun m t => ins m t (ofF l t)) []
abbrev owM (m : OwM) : List (Value × CT) := kvs tkE rssC m
abbrev adsC (l : List (Fin 4294967296)) : CT := .fr (sliceT 1 (l.map fun x => [adrF x]))
abbrev KnM := List (Stm × List (Fin 4294967296))
abbrev knM (m : KnM) : List (Value × CT) := kvs stmE adsC m
theorem owF_look(l:List Rs)(t:Tk):(look1 (owF l) t).getD []=ofF l t:=by
 have key:∀(q:List Tk) (m:OwM),look1 (q.foldl (fun m t=>ins m t (ofF l t)) m) t=if t∈q then some (ofF l t) else look1 m t:=by
  intro q
  induction q with
  |nil=>intro m;rw [if_neg (by simp)];rfl
  |cons x q ih=>
   intro m;rw [List.foldl_cons,ih,look1_ins];by_cases h:t∈q
   · rw [if_pos h,if_pos (List.mem_cons_of_mem _ h)]
   · rw [if_neg h];by_cases e:t=x
     · subst e;rw [if_pos rfl,if_pos (List.mem_cons_self ..)]
     · rw [if_neg e,if_neg (fun hm=>(List.mem_cons.1 hm).elim e h)]
 unfold owF;rw [key];by_cases h:t∈trsF l
 · rw [if_pos h];rfl
 · rw [if_neg h];show []=ofF l t;unfold ofF
   symm
   refine List.filter_eq_nil_iff.2 fun r hr=> ?_
   intro he
   refine h ?_
   have hm:=((sd_spec ordR (l.filter okR)).2 r).1 hr;exact ((sd_spec ordT ((l.filter okR).map trOf)).2 t).2 (List.mem_map.2 ⟨r,hm,of_decide_eq_true he⟩)
def knOk (l : List Rs) (m : KnM) : Prop := ∀ s p, look1 m s = some p → p = pathF (ofF l s.1) s.2
end Go.Proofs.YtojkdfilabmafaaGreat
namespace Go.Own
open Go.RowKit
variable {X : Ctx} {L : AL} {B : BL} {ops : Array Oper} {K : Act → World → Prop}
theorem Fin.linkX(dd i:Nat){v:Value}{el n:Nat}{cs:List CT}(hd:look L dd=some (.ct (.ex v)))(hi:bget B i=some (.rowx v el n cs))(h:Fin X ((dd, .own i)::L) B K):Fin X L B K:=fun a ρ w hI=>by
 have h1:a.tmps.getD dd undef=v:=hI.slot dd _ hd
 obtain ⟨h2,_⟩:=(hI.ent i _ hi).1
 exact h a ρ w (hI.slotx (s:= .own i) (h1.trans h2.symm))
theorem Ops.linkX{l:Pl}(dd i:Nat){v:Value}{el n:Nat}{cs:List CT}(hd:look L dd=some (.ct (.ex v)))(hi:bget B i=some (.rowx v el n cs))(h:Ops X ops l ((dd, .own i)::L) B K):Ops X ops l L B K:=Fin.linkX dd i hd hi h
end Go.Own
namespace Go.Proofs.YtojkdfilabmafaaGreat
open Go.Own Go.Proofs.Tryz
attribute [local irreducible] St Ops Go.Own.Fin Ok OkB OkN OkT OkL OkF wpR
abbrev Ad := Fin 4294967296
theorem sAdrs:SlcT prog 93 35 1 4 (.int .u32 0):=SlcT.of underlying93 (by kernel_rfl) rfl (by decide)
theorem sPths:SlcT prog 94 93 1 24 (.slice none 0 0):=SlcT.of underlying94 (by kernel_rfl) rfl (by decide)
theorem lAdrs:Ld1 prog 93:=Ld1.of _ underlying93 rfl
theorem lPths:Ld1 prog 94:=Ld1.of _ underlying94 rfl
theorem zPths:(prog.info? 94).map (·.size)=some 1:=by kernel_rfl
abbrev zNet : Value := .agg #[.int .i64 0, .int .u32 0, .int .i64 0, .slice none 0 0, .int .u32 0]
abbrev adrsC (p : List Ad) : CT := .fr (sliceT 1 (p.map fun x => [adrF x]))
def adrs (p : List Ad) : List CT := p.map adrF
theorem adrs_frozen(e:Nat)(p:List Ad):(Ent.row e 1 (adrs p)).frozen (sliceT 1 (p.map fun x=>[adrF x])):=
 ⟨p.map fun x=>[adrF x],(flat_one adrF p).symm,by simp,by decide,rfl⟩
theorem adrs_at{p:List Ad}{j:Int}(h0:0<=j)(h:j<(p.length:Int)):(p.map fun x=>[adrF x])[j.toNat]? =some [adrF (p.getD j.toNat 0)]:=by
 have hl:j.toNat<p.length:=by omega
 rw [List.getElem?_map,List.getElem?_eq_getElem hl,List.getD_eq_getElem?_getD,List.getElem?_eq_getElem hl];rfl
abbrev pthsC (ps : List (List Ad)) : CT := .fr (sliceT 1 (ps.map fun p => [adrsC p]))
def pths (ps : List (List Ad)) : List CT := ps.map adrsC
theorem pths_at{ps:List (List Ad)}{j:Int}(h0:0<=j)(h:j<(ps.length:Int)):(ps.map fun x=>[adrsC x])[j.toNat]? =some [adrsC (ps.getD j.toNat [])]:=by
 have hl:j.toNat<ps.length:=by omega
 rw [List.getElem?_map,List.getElem?_eq_getElem hl,List.getD_eq_getElem?_getD,List.getElem?_eq_getElem hl];rfl
structure Nt where
  va : Int
  ds : Ad
  pr : Int
  ps : List (List Ad)
  la : Ad
abbrev ntCs (q : Nt) : List CT := [intC q.va, adrF q.ds, intC q.pr, pthsC q.ps, adrF q.la]
structure NtIn (q : Nt) : Prop where
  v0 : 0 ≤ q.va
  v1 : q.va < 2
  d0 : q.ds ≠ 0
  p0 : q.pr = 17 ∨ q.pr = 1 ∨ q.pr = 6
  a0 : q.la ≠ 0
  l0 : 1 ≤ q.ps.length
  l1 : q.ps.length ≤ 3
  pl : ∀ p ∈ q.ps, 1 ≤ p.length ∧ p.length ≤ 3
def nts (l : List Nt) : List CT := (l.map ntCs).flatten
end Go.Proofs.YtojkdfilabmafaaGreat
namespace Go.Proofs.YtojkdfilabmafaaGreat
open Go.Own Go.Limbs Go.Shelf Go.Proofs.Tryz
open Go.Sort hiding Ok
attribute [local irreducible] St Ops Go.Own.Fin Ok OkB OkN OkT OkL OkF
def wsG : _root_.Fin 4294967296 → List (_root_.Fin 4294967296) → List Wr
  | _, [] => []
  | p, a :: l => (p, a) :: wsG a l
theorem wsG_len:∀(l:List (_root_.Fin 4294967296)) (p:_root_.Fin 4294967296),(wsG p l).length=l.length
 | [],_=>rfl
 |a::l,p=>by rw [wsG,List.length_cons,wsG_len l a,List.length_cons]
def pvA (p : List (_root_.Fin 4294967296)) (i : Nat) : _root_.Fin 4294967296 := if i = 0 then 0 else p.getD (i - 1) 0
theorem wsG_snoc:∀(l:List (_root_.Fin 4294967296)) (q a:_root_.Fin 4294967296),wsG q (l++ [a])=wsG q l++ [(if l=[] then q else l.getD (l.length - 1) 0,a)]
 | [],q,a=>rfl
 |b::l,q,a=>by
  show (q,b)::wsG b (l++ [a])=_
  rw [wsG_snoc l b a]
  cases l with
  |nil=>rfl
  |cons c l=>
   show _=(q,b)::(wsG b (c::l)++ [(if b::c::l=[] then q else (b::c::l).getD ((b::c::l).length - 1) 0,a)])
   rw [if_neg (by simp),if_neg (by simp)]
   rfl
def wsO (p : List (_root_.Fin 4294967296)) : List Wr × Bool := if p.all (fun a => decide (a ≠ 0)) then (wsG 0 p, true) else ([], false)
theorem gowires:InGo prog 88:=InGo.of func88 rfl (by decide)
theorem wires_ok(p:List (_root_.Fin 4294967296))(hl:p.length<=1000000):Ok prog 88 [adsC p] (.fr (tupT [wrsC (wsO p).1,boolC (wsO p).2])):=by
 refine Ok.enter func88 J _ ntmps88 J ?_
 intro S w;refine Qj (Qx ?_);refine Qk 2 J (Qz (Qq (Qj ?_)));refine Qx (Qy J J J (Qz (Qq (Qj ?_))));refine Qx (Qy J J J (Qz (Qq (Qj (Qj ?_)))));refine Qx (Qv J J J (Q9 J J sAdrs.und (List.length_map ..) J (Qv J J J (Qz (Qq (Q2 ?_))))))
 refine ZY 4 0 37 2 J J J ?_
 refine Qn (α:=Nat) (fun i=>i<=p.length/\ ∀a∈p.take i,a≠0)
  (fun i=>[(4, .own 0),(5, .ct (adrF (pvA p i))),(8, .ct (adsC p)),(9, .ct (intC p.length)),(10, .ct (intC i))])
  (fun i=>[(0, .row 37 2 (wrs (wsG 0 (p.take i))))]) (fun i=>p.length - i) 0 ⟨Nat.zero_le _,by simp⟩ (by exact QX J ⟨rfl,rfl,rfl,rfl,rfl,trivial⟩) ?_
 intro i ⟨hi,hnz⟩
 try dsimp only at hi hnz ⊢
 refine Qj (Qx ?_);refine Qw ilss J J J J (Qz (Qq (Qj ?_)));refine Q1 J (fun h=> ?_) (fun h=> ?_);rotate_left
 · rw [List.take_of_length_le (by omega)] at hnz ⊢;have e:wsO p=(wsG 0 p,true):=if_pos (List.all_eq_true.2 fun a ha=>decide_eq_true (hnz a ha));rw [e];refine Qi (Qq (Qj (Qx ?_)));refine Qk 3 J (Qz (Qq (Q0 ?_)));refine Yi 0 _ J (wrs_frozen _ _) noBor_sub (QK [_,_] rfl (Qu J (Qu J QQ)) J J)
 have e2:(i:Int).toNat=i:=Int.toNat_natCast i
 have hs:p.take (i+1)=p.take i++ [p.getD i 0]:=by
  rw [List.take_add_one,List.getElem?_eq_getElem (by omega),List.getD_eq_getElem?_getD,List.getElem?_eq_getElem (by omega)];rfl
 have hw:wsG 0 (p.take (i+1))=wsG 0 (p.take i)++ [(pvA p i,p.getD i 0)]:=by
  rw [hs,wsG_snoc]
  congr 2
  unfold pvA;by_cases h0:i=0
  · subst h0;rfl
  · rw [if_neg (fun h=>by have:=congrArg List.length h;rw [List.length_take,List.length_nil] at this;omega),if_neg h0,List.length_take,Nat.min_eq_left hi,List.getD_eq_getElem?_getD,List.getElem?_take_of_lt (by omega),<- List.getD_eq_getElem?_getD]
 have hp:pvA p (i+1)=p.getD i 0:=rfl
 have hwl:(wsG 0 (p.take i)).length=i:=by rw [wsG_len,List.length_take];omega
 have hmem:p.getD i 0∈p:=by rw [List.getD_eq_getElem?_getD,List.getElem?_eq_getElem (by omega)];exact List.getElem_mem _
 refine QU (Qq (Qj (Q2 (Qj (Qx ?_)))))
 refine Ql J J J sAdrs (by omega) (adrs_at (by omega) (by omega)) J ?_
 rw [e2];generalize p.getD i 0=a at hs hw hp hmem;generalize pvA p i=b at hw;generalize wsG 0 (p.take i)=ws at hw hwl ⊢;refine Xj J J J lAddr J (Qy J J J (Qz (Qq (Qj (Qj ?_)))));refine Qx (Qv J J J (Qw ieql J J J J (Qz (Qq ?_))));refine Q1 J (fun h2=> ?_) (fun h2=> ?_)
 · have h2:a=0:=_root_.Fin.ext (by have e0:((0:_root_.Fin 4294967296).val)=0:=rfl;omega);have e:wsO p=([],false):=if_neg (by rw [List.all_eq_true];exact fun h=>of_decide_eq_true (h a hmem) h2);rw [e];refine Qj (Qx ?_);refine Qk 2 J (Qz (Qq (Q0 (QW (Q8 (QW (QW (Q8 (QW ?_)))))))));refine QK [_,_] rfl (X1 Yv (Qu J (Qu J QQ))) J J
 have h2:a≠0:=fun h=>h2 (by rw [h];rfl)
 refine QU (Qq (Qj (Qx ?_)));refine Qk 3 J (Qm J bWire J (.one J J J J (.one J J J J .nil)) J (Za (n:=2) J J sWrs J J (by decide) J ?_))
 refine Qo ws.length (wrs (ws++ [(b,a)])) J J J J sWrs (wrs_len ws) J (by omega) (by omega) (wrs_snoc ws (b,a)) J ?_
 refine Qy J J J (Qz (Qq ?_));refine Qx (Qk 2 J (Qz (Qq ?_)));refine Qx (Qw (iadd (by omega) (by omega)) J J J J ?_);refine Qv J J J (Qz (Q5 ?_));refine Q6 (i+1) (by omega) ⟨by omega,fun x hx=> ?_⟩ (by rw [hw,hp];exact QX J ⟨rfl,rfl,rfl,rfl,by simp only [Int.natCast_add];rfl,trivial⟩);rw [hs] at hx;rcases List.mem_append.1 hx with hx|hx
 · exact hnz x hx
 · rw [List.mem_singleton] at hx;rw [hx];exact h2
theorem goDcmp:InGo prog 50:=InGo.of func50 rfl (by decide)
theorem Dcmp_ok(a b:Wr):Ok prog 50 [wrC a,wrC b] (intC (cmpW a b)):=by
 have e0:cmpW a b=firstN [cmp3 a.1.val b.1.val,cmp3 a.2.val b.2.val]:=by
  unfold cmpW wrI;simp only [cmpL,firstN]
 rw [e0];clear e0;have h1:=cmA_ok (a.1.val:Int) (b.1.val:Int);have h2:=cmA_ok (a.2.val:Int) (b.2.val:Int);have hO:=Or_ok [cmp3 a.1.val b.1.val,cmp3 a.2.val b.2.val] (by simp);generalize cmp3 (a.1.val:Int) (b.1.val:Int)=c1 at h1 hO ⊢;generalize cmp3 (a.2.val:Int) (b.2.val:Int)=c2 at h2 hO ⊢
 refine Ok.enter func50 J _ ntmps50 J ?_
 intro S w;refine Qj (Qx ?_);refine Xx 0 J J J J J J J (Xx 1 J J J J J J J (Qy J J J (Qz (Qq (Qj ?_)))));refine Xy mixed 13 (.p 0 (.p 2 (.p 5 (.p 7 (.f 1 (.f 3 (.f 6 (.f 8 (.m 4 (.m 9 (.m 10 (.m 11 (.p 12 .done))))))))))))) (by kernel_rfl) (fun K hK=> ?_);refine QY J J J fWr0 J (QY J J J fWr0 J (QY J J J fWr1 J (QY J J J fWr1 J (QZ J J J J J lAddr J (QZ J J J J J lAddr J (QZ J J J J J lAddr J (QZ J J J J J lAddr J (QJ gocmA h1 J J J J (QJ gocmA h2 J J J J (Ops.litI [c1,c2] rfl rfl sInts J ⟨rfl,rfl,rfl,rfl,trivial⟩ (by decide) J ?_))))))))));refine QJ goOr hO J J J J (Qy J J J (Qz (hK _ _ (Qq (Q0 ?_)))));clear hK K;refine QK [_] rfl (Qu J QQ) J J
abbrev cmpDV : CT := .ex (.func (.func 50) #[] #[])
theorem SortD_ok(l:List Wr)(hl:l.length<4611686018427387904):OkL prog 61 37 2 (wrs l) [cmpDV] unitC (wrs (l.mergeSort fun x y=> !(ltOf cmpW) y x)):=
 sortFunc_L laySortW (enc:=wr2) (k:=2) (cf:=cmpW) (g:=50) (by decide) Tryz.isAgg37 Tryz.sizeOf37 (fun _=>rfl) (fun x v hv=>one_two x v hv)
  ordW.swo ordW.tot goDcmp Dcmp_ok 37 l hl
end Go.Proofs.YtojkdfilabmafaaGreat
namespace Go.Proofs.YtojkdfilabmafaaGreat
open Go.Own Go.Limbs Go.Proofs.Tryz
attribute [local irreducible] St Ops Go.Own.Fin Ok OkB OkN OkT OkL OkF
abbrev spE (s : Sp) : Value := Go.Own.encI [.i64, .i64] [s.1, s.2]
theorem eqSp:EqS prog 228 [.i64, .i64]:=⟨by kernel_rfl,by kernel_rfl,by kernel_rfl,by kernel_rfl⟩
theorem Xt:KeyT prog 228 spE:=eqSp.flat.key (fun s:Sp=>[s.1,s.2]) (fun _=>rfl) (fun a b h=>by
 obtain ⟨a1,a2⟩:=a;obtain ⟨b1,b2⟩:=b
 simp only [List.cons.injEq,and_true] at h
 rw [h.1,h.2])
theorem uMAd:prog.underlying 221=some (.map 228 35):=underlying221
theorem uMSt:prog.underlying 222=some (.map 228 3):=underlying222
theorem lMAd:Ld1 prog 221:=Ld1.of _ underlying221 rfl
theorem lMSt:Ld1 prog 222:=Ld1.of _ underlying222 rfl
theorem fV0:fldInfo prog 224 0=some (0,some 1):=by kernel_rfl
theorem fV1:fldInfo prog 224 1=some (1,some 1):=by kernel_rfl
theorem fV2:fldInfo prog 224 2=some (2,some 1):=by kernel_rfl
theorem lView:LdN prog 224 3:=LdN.of _ underlying224 rfl (by kernel_rfl)
theorem szView:(prog.info? 224).map (·.size)=some 3:=by kernel_rfl
theorem zvView:(prog.info? 224).map (·.zero)=some (some (.agg #[.int .i64 0, .map none, .map none])):=by kernel_rfl
theorem bView:bInfo prog 224=some (.agg #[.int .i64 0, .map none, .map none],[(0,some 1),(1,some 1),(2,some 1)]):=by kernel_rfl
theorem Jz:LdN prog 228 2:=LdN.of _ underlying228 rfl (by kernel_rfl)
theorem szSpot:(prog.info? 228).map (·.size)=some 2:=by kernel_rfl
theorem zvSpot:(prog.info? 228).map (·.zero)=some (some (.agg #[.int .i64 0, .int .i64 0])):=by kernel_rfl
theorem bSpot:bInfo prog 228=some (.agg #[.int .i64 0, .int .i64 0],[(0,some 1),(1,some 1)]):=by kernel_rfl
theorem z0Int(w:World):(zeroValue 3).run prog w= .ok (.int .i64 0) w:=ZZ (by kernel_rfl) w
theorem z0Adr(w:World):(zeroValue 35).run prog w= .ok (.int .u32 0) w:=ZZ (by kernel_rfl) w
abbrev adM (m : AdM) : List (Value × CT) := kvs spE adrF m
abbrev stM (m : StM) : List (Value × CT) := kvs spE intC m
abbrev viewC (e : Int) (m : AdM × StM) : CT := .fr (aggT [intC e, .fr (mapT (adM m.1)), .fr (mapT (stM m.2))])
theorem goHas:InGo prog 151:=InGo.of func151 rfl (by decide)
theorem Has_ok(e fl tt:Int)(m:AdM × StM):Ok prog 151 [viewC e m,intC fl,intC tt] (boolC (hasS m.2 fl tt)):=by
 have e0:hasS m.2 fl tt=(decide ((look1 m.2 (fl,tt)).getD 0=2)||decide ((look1 m.2 (fl,tt)).getD 0=1)):=rfl
 refine Ok.enter func151 J _ ntmps151 J ?_
 intro S w;refine Qj (Qx ?_);refine Xx 0 J J J J J J J (Qy J J J (Qz (Qq (Qj ?_))));refine Qx (QY J J J fV2 J (QZ J J J J J lMSt J (Qk 2 J (Qm J bSpot J (.one J J J J (.one J J J J .nil)) J (Ops.lookF (cv:=intC) (enc:=spE) 0 (fl,tt) J J J (KeyIs.agg (us:=[.int .i64 fl, .int .i64 tt]) J) uMSt z0Int (fun _ _=>rfl) Xt J ?_)))));generalize (look1 m.2 (fl,tt)).getD 0=q at e0;refine Qy J J J (Qz (Qq (Qj ?_)));refine Qx (Qv J J J (Qw ieql J J J J (Qv J J J (Qe 16 (p:=q=2) J (fun h=> ?_) (fun h=> ?_)))))
 · refine Qk 4 J (Qz (Qq (Q0 ?_)));refine QK [_] rfl (Qu J QQ) (by rw [e0,decide_eq_true h,Bool.true_or];rfl) J
 · refine Qv J J J (Qw ieql J J J J (Qk 2 J (Qz (Qq (Q0 ?_)))));refine QK [_] rfl (Qu J QQ) (by rw [e0,decide_eq_false h,Bool.false_or];rfl) J
theorem goLook:InGo prog 150:=InGo.of func150 rfl (by decide)
theorem Look_ok(l:List Rs)(hl:l.length<=100000):Ok prog 150 [rssC l] (viewC (endF l) (lookG l)):=by
 have hE:=End_ok l hl;have e0:lookG l=l.foldl (lookS (endF l)) ([],[]):=rfl;rw [e0];clear e0;generalize endF l=e at hE ⊢
 refine Ok.enter func150 J _ ntmps150 J ?_
 intro S w;refine Qj (Qx ?_);refine Qb 0 J J zvView J J J (Qz (Qq (Qj ?_)));refine Qx (Qv J J J (QJ goEnd hE J J J J (Ops.mkMap 8 J J J J J (fun v1 hv1=> ?_))));refine Ops.mkMap 9 J J J J J (fun v2 hv2=> ?_);refine Qm J bView J (.one J J J J (.one J J hv1 J (.one J J hv2 J .nil))) J (Qb 1 J J zvView J J J (Q7 3 J J J J (by show (true&&(Value.oneCell' v1&&(Value.oneCell' v2&&true)))=true;rw [hv1,hv2];rfl) szView J J ?_));refine Qz (Qq (Qj (Qj ?_)));refine Qx (Qv J J J (Q9 J J sRes.und (List.length_map ..) J (Qv J J J (Qz (Qq (Q2 ?_))))))
 refine Qn (α:=Nat) (fun i=>i<=l.length)
  (fun i=>[(2, .own 0),(3, .own 1),(13, .ct (rssC l)),(14, .ct (intC l.length)),(15, .ct (intC i))])
  (fun i=>[(1, .box 224 [intC e, .ex v1, .ex v2]),(9, .mpx v2 (stM ((l.take i).foldl (lookS e) ([],[])).2)),(8, .mpx v1 (adM ((l.take i).foldl (lookS e) ([],[])).1)),(0, .box 224 [intC 0, .ex (.map none), .ex (.map none)])])
  (fun i=>l.length - i) 0 (Nat.zero_le _) (by exact QX J ⟨rfl,rfl,rfl,rfl,rfl,trivial⟩) ?_
 intro i hi
 try dsimp only at hi ⊢
 refine Qj (Qx ?_);refine Qw ilss J J J J (Qz (Qq (Qj ?_)));refine Q1 J (fun h=> ?_) (fun h=> ?_)
 · have e2:(i:Int).toNat=i:=Int.toNat_natCast i;have hs:=foldl_take (lookS e) ([],[]) (z:=rs0) (l:=l) (i:=i) (by omega);generalize (l.take i).foldl (lookS e) ([],[])=m at hs ⊢
   have next:∀m' :AdM × StM,lookS e m (l.getD i rs0)=m' ->(l.take (i+1)).foldl (lookS e) ([],[])=m' :=fun m' h=>by rw [hs,h]
   clear hs;refine QU (Qq (Qj ?_))
   refine YW (α:=AdM × StM) (fun q=>lookS e m (l.getD i rs0)=q) (fun _=>[(2, .own 0),(3, .own 1),(13, .ct (rssC l)),(14, .ct (intC l.length)),(15, .ct (intC i))])
    (fun q=>[(1, .box 224 [intC e, .ex v1, .ex v2]),(9, .mpx v2 (stM q.2)),(8, .mpx v1 (adM q.1)),(0, .box 224 [intC 0, .ex (.map none), .ex (.map none)])]) (fun q hq=> ?_) (fun KN hM=> ?_)
   · have en:=next q hq;refine Qx (Qw (iadd (by omega) (by omega)) J J J J ?_);refine Qv J J J (Qz (Q5 ?_));refine Q6 (i+1) (by omega) (by omega) (by rw [en];exact QX J ⟨rfl,rfl,rfl,rfl,by simp only [Int.natCast_add];rfl,trivial⟩)
   clear next;refine Q2 (Qj (Qx (Ql J J J sRes (by omega) (rss_at (by omega) (by omega)) J ?_)));rw [e2];generalize l.getD i rs0=c at hM ⊢;refine Xe (n:=17) J J J lRes J J (Qb 2 J J zvRes J J J (Q7 17 J J J J J szRes J J (Qz (Qq ?_))));have hU:=Usable_ok c
   have es:lookS e m c=if usR c=false \/(0<e/\ e<c.tt) then m
    else if c.an=false then (m.1,ins m.2 (c.fl,c.tt) (max ((look1 m.2 (c.fl,c.tt)).getD 0) 1))
    else if (look1 m.2 (c.fl,c.tt)).getD 0<=1 then (ins m.1 (c.fl,c.tt) c.fr,ins m.2 (c.fl,c.tt) 2)
    else if (look1 m.2 (c.fl,c.tt)).getD 0=2/\ (look1 m.1 (c.fl,c.tt)).getD 0≠c.fr then (ins m.1 (c.fl,c.tt) 0,ins m.2 (c.fl,c.tt) 3)
    else m:=rfl
   generalize usR c=ub at hU es;refine Qj (Qj ?_)
   refine YW (α:=Bool) (fun b=>b=true↔(ub=false \/(0<e/\ e<c.tt)))
    (fun b=>[(2, .own 0),(3, .own 1),(5, .own 2),(13, .ct (rssC l)),(14, .ct (intC l.length)),(15, .ct (intC i)),(33, .ct (boolC b))])
    (fun _=>[(2, .box 47 (rsCs c)),(1, .box 224 [intC e, .ex v1, .ex v2]),(9, .mpx v2 (stM m.2)),(8, .mpx v1 (adM m.1)),(0, .box 224 [intC 0, .ex (.map none), .ex (.map none)])]) (fun b hb=> ?_) (fun KK hN=> ?_)
   rotate_left
   · refine Qx (Qa (n:=17) J J J J J lRes J (QJ goUsable hU J J J J (Qr J J J (Qv J J J (Xc 22 (b:= !ub) J (fun h1=> ?_) (fun h1=> ?_))))))
     · refine Qk 11 J (Qz ?_);exact XQ hN true (iff_of_true J (.inl (by simpa using h1))) (by exact QX J ⟨rfl,rfl,rfl,rfl,rfl,rfl,rfl,trivial⟩)
     · have hub:ub=true:=by simpa using h1
       refine QY J J J fV0 J (QZ J J J J J lInt J (Qw igtr J J J J (Qv J J J (Qe 26 (p:=0<e) J (fun h3=> ?_) (fun h3=> ?_)))))
       · refine QY J J J fS7 J (QZ J J J J J lInt J (QY J J J fV0 J (QZ J J J J J lInt J (Qw igtr J J J J (Qk 2 J (Qz ?_))))));exact XQ hN (decide (e<c.tt)) (by rw [decide_eq_true_iff];constructor;exact fun h=> .inr ⟨h3,h⟩;exact fun h=>h.elim (fun h=>by rw [hub] at h;cases h) (·.2)) (by exact QX J ⟨rfl,rfl,rfl,rfl,rfl,rfl,rfl,trivial⟩)
       · refine Qk 7 J (Qz ?_);exact XQ hN false (iff_of_false (by decide) (fun h=>h.elim (fun h=>by rw [hub] at h;cases h) (fun h=>h3 h.1))) (by exact QX J ⟨rfl,rfl,rfl,rfl,rfl,rfl,rfl,trivial⟩)
   cases b with
   |true=>
    have es:lookS e m c=m:=by rw [es,if_pos (hb.1 J)]
    refine Xk J (Qi (Yy (Fin.blockE ?_)));exact XQ hM _ es (Qg 2 (by exact QX J ⟨rfl,rfl,rfl,rfl,rfl,trivial⟩))
   |false=>
    rw [if_neg (fun h=>by have:=hb.2 h;cases this)] at es;refine Qt J (QU (Qq (Qj (Qx ?_))));refine QY J J J fS6 J (QZ J J J J J lInt J (QY J J J fS7 J (QZ J J J J J lInt J (Qm J bSpot J (.one J J J J (.one J J J J .nil)) J (Qb 3 J J zvSpot J J J (Q7 2 J J J J J szSpot J J (Qz (Qq (Qj ?_)))))))));refine Qx (QY J J J fV2 J (QZ J J J J J lMSt J (Qa (n:=2) J J J J J Jz J (Ops.lookM (i:=9) (cv:=intC) (enc:=spE) 0 (c.fl,c.tt) J J J J (KeyIs.agg (us:=[.int .i64 c.fl, .int .i64 c.tt]) J) uMSt z0Int (fun _ _=>rfl) Xt J ?_))));generalize (look1 m.2 (c.fl,c.tt)).getD 0=kn at es ⊢;refine Qy J J J (Qz (Qq (Q2 (Qj ?_))));refine Qx (QY J J J fS8 J (QZ J J J J J lBool1 J (Qr J J J (Qy J J J (Qz (Qq ?_))))));refine Xa J (fun h1=> ?_) (fun h1=> ?_)
    · have h1' :c.an=false:=by simpa using h1
      rw [if_pos h1'] at es;refine Qx (QY J J J fV2 J (QZ J J J J J lMSt J (Qa (n:=2) J J J J J Jz J (Qv J J J (Ops.max2 J J J J (XJ (i:=9) (enc:=spE) (cv:=intC) (c.fl,c.tt) (max kn 1) J J J (KeyIs.agg (us:=[.int .i64 c.fl, .int .i64 c.tt]) J) J uMSt Xt (Qz (Qh (Qh ?_)))))))));exact XQ hM _ es (Qg 3 (Qg 2 (by exact QX J ⟨rfl,rfl,rfl,rfl,rfl,trivial⟩)))
    · have h1' :c.an=true:=by simpa using h1
      rw [if_neg (fun h=>by rw [h1'] at h;cases h)] at es;refine Qj (Qx ?_);refine Qv J J J (Qw ileq J J J J (Qy J J J (Qz (Qq ?_))));refine Q1 J (fun h2=> ?_) (fun h2=> ?_)
      · rw [if_pos h2] at es;refine Y0 mixed [9,10] (.p 0 (.p 3 (.p 6 (.p 7 (.f 1 (.f 2 (.m 4 (.m 5 (.m 8 (.a 9 (.a 10 .done .non) .non) (.a 9 (.f 8 (.a 10 .done .non)) .non)) (.m 8 (.m 5 (.a 9 (.a 10 .done .non) .non) (.a 9 (.f 5 (.a 10 .done .non)) .non)) (.a 9 (.f 5 (.f 8 (.a 10 .done .non))) .non))) (.m 5 (.m 4 (.m 8 (.a 9 (.a 10 .done .non) .non) (.a 9 (.f 8 (.a 10 .done .non)) .non)) (.m 8 (.m 4 (.a 9 (.a 10 .done .non) .non) (.a 9 (.f 4 (.a 10 .done .non)) .non)) (.a 9 (.f 4 (.f 8 (.a 10 .done .non))) .non))) (.m 8 (.m 4 (.m 5 (.a 9 (.a 10 .done .non) .non) (.a 9 (.f 5 (.a 10 .done .non)) .non)) (.m 5 (.m 4 (.a 9 (.a 10 .done .non) .non) (.a 9 (.f 4 (.a 10 .done .non)) .non)) (.a 9 (.f 4 (.f 5 (.a 10 .done .non))) .non))) (.a 9 (.f 4 (.f 5 (.f 8 (.a 10 .done .non)))) .non)))))))))) (by kernel_rfl) (fun K hK=> ?_);refine Xz (QY J J J fV2 J (Qz (Xz (QY J J J fV1 J (Qz (Xz (QY J J J fS11 J (Qz (Xz (Zl J J fN0 J (Qz (Zz (QZ J J J J J lMSt J (Qz (Zz (Qa (n:=2) J J J J J Jz J (Qz (X5 ?_ ?_))))))))))))))))))
        · refine QZ J J J J J lMAd J (Qz (X5 ?_ ?_))
          · refine Qa (n:=2) J J J J J Jz J (Qz (X5 ?_ ?_))
            · refine QZ J J J J J lAddr J (Qz (Qp ?_ Qc));refine XJ (i:=9) (enc:=spE) (cv:=intC) (c.fl,c.tt) 2 J J J (KeyIs.agg (us:=[.int .i64 c.fl, .int .i64 c.tt]) J) J uMSt Xt (Qz (Qp ?_ Qc));refine XJ (i:=8) (enc:=spE) (cv:=adrF) (c.fl,c.tt) c.fr J J J (KeyIs.agg (us:=[.int .i64 c.fl, .int .i64 c.tt]) J) J uMAd Xt (Qz (Xu (hK _ _ ?_)));refine Qh (Qh ?_);exact XQ hM _ es (Qg 3 (Qg 2 (by exact QX J ⟨rfl,rfl,rfl,rfl,rfl,trivial⟩)))
            refine Qp ?_ Qc
            refine XJ (i:=9) (enc:=spE) (cv:=intC) (c.fl,c.tt) 2 J J J (KeyIs.agg (us:=[.int .i64 c.fl, .int .i64 c.tt]) J) J uMSt Xt (Qz (Zz (QZ J J J J J lAddr J (Qz (Qp ?_ Qc)))));refine XJ (i:=8) (enc:=spE) (cv:=adrF) (c.fl,c.tt) c.fr J J J (KeyIs.agg (us:=[.int .i64 c.fl, .int .i64 c.tt]) J) J uMAd Xt (Qz (Xu (hK _ _ ?_)));refine Qh (Qh ?_);exact XQ hM _ es (Qg 3 (Qg 2 (by exact QX J ⟨rfl,rfl,rfl,rfl,rfl,trivial⟩)))
          refine X5 ?_ ?_
          · refine QZ J J J J J lAddr J (Qz (X5 ?_ ?_))
            · refine Qa (n:=2) J J J J J Jz J (Qz (Qp ?_ Qc));refine XJ (i:=9) (enc:=spE) (cv:=intC) (c.fl,c.tt) 2 J J J (KeyIs.agg (us:=[.int .i64 c.fl, .int .i64 c.tt]) J) J uMSt Xt (Qz (Qp ?_ Qc));refine XJ (i:=8) (enc:=spE) (cv:=adrF) (c.fl,c.tt) c.fr J J J (KeyIs.agg (us:=[.int .i64 c.fl, .int .i64 c.tt]) J) J uMAd Xt (Qz (Xu (hK _ _ ?_)));refine Qh (Qh ?_);exact XQ hM _ es (Qg 3 (Qg 2 (by exact QX J ⟨rfl,rfl,rfl,rfl,rfl,trivial⟩)))
            refine Qp ?_ Qc
            refine XJ (i:=9) (enc:=spE) (cv:=intC) (c.fl,c.tt) 2 J J J (KeyIs.agg (us:=[.int .i64 c.fl, .int .i64 c.tt]) J) J uMSt Xt (Qz (Zz (Qa (n:=2) J J J J J Jz J (Qz (Qp ?_ Qc)))));refine XJ (i:=8) (enc:=spE) (cv:=adrF) (c.fl,c.tt) c.fr J J J (KeyIs.agg (us:=[.int .i64 c.fl, .int .i64 c.tt]) J) J uMAd Xt (Qz (Xu (hK _ _ ?_)));refine Qh (Qh ?_);exact XQ hM _ es (Qg 3 (Qg 2 (by exact QX J ⟨rfl,rfl,rfl,rfl,rfl,trivial⟩)))
          refine Qp ?_ Qc
          refine XJ (i:=9) (enc:=spE) (cv:=intC) (c.fl,c.tt) 2 J J J (KeyIs.agg (us:=[.int .i64 c.fl, .int .i64 c.tt]) J) J uMSt Xt (Qz (Zz (Qa (n:=2) J J J J J Jz J (Qz (Zz (QZ J J J J J lAddr J (Qz (Qp ?_ Qc))))))));refine XJ (i:=8) (enc:=spE) (cv:=adrF) (c.fl,c.tt) c.fr J J J (KeyIs.agg (us:=[.int .i64 c.fl, .int .i64 c.tt]) J) J uMAd Xt (Qz (Xu (hK _ _ ?_)));refine Qh (Qh ?_);exact XQ hM _ es (Qg 3 (Qg 2 (by exact QX J ⟨rfl,rfl,rfl,rfl,rfl,trivial⟩)))
        refine X5 ?_ ?_
        · refine Qa (n:=2) J J J J J Jz J (Qz (X5 ?_ ?_))
          · refine QZ J J J J J lMAd J (Qz (X5 ?_ ?_))
            · refine QZ J J J J J lAddr J (Qz (Qp ?_ Qc));refine XJ (i:=9) (enc:=spE) (cv:=intC) (c.fl,c.tt) 2 J J J (KeyIs.agg (us:=[.int .i64 c.fl, .int .i64 c.tt]) J) J uMSt Xt (Qz (Qp ?_ Qc));refine XJ (i:=8) (enc:=spE) (cv:=adrF) (c.fl,c.tt) c.fr J J J (KeyIs.agg (us:=[.int .i64 c.fl, .int .i64 c.tt]) J) J uMAd Xt (Qz (Xu (hK _ _ ?_)));refine Qh (Qh ?_);exact XQ hM _ es (Qg 3 (Qg 2 (by exact QX J ⟨rfl,rfl,rfl,rfl,rfl,trivial⟩)))
            refine Qp ?_ Qc
            refine XJ (i:=9) (enc:=spE) (cv:=intC) (c.fl,c.tt) 2 J J J (KeyIs.agg (us:=[.int .i64 c.fl, .int .i64 c.tt]) J) J uMSt Xt (Qz (Zz (QZ J J J J J lAddr J (Qz (Qp ?_ Qc)))));refine XJ (i:=8) (enc:=spE) (cv:=adrF) (c.fl,c.tt) c.fr J J J (KeyIs.agg (us:=[.int .i64 c.fl, .int .i64 c.tt]) J) J uMAd Xt (Qz (Xu (hK _ _ ?_)));refine Qh (Qh ?_);exact XQ hM _ es (Qg 3 (Qg 2 (by exact QX J ⟨rfl,rfl,rfl,rfl,rfl,trivial⟩)))
          refine X5 ?_ ?_
          · refine QZ J J J J J lAddr J (Qz (X5 ?_ ?_))
            · refine QZ J J J J J lMAd J (Qz (Qp ?_ Qc));refine XJ (i:=9) (enc:=spE) (cv:=intC) (c.fl,c.tt) 2 J J J (KeyIs.agg (us:=[.int .i64 c.fl, .int .i64 c.tt]) J) J uMSt Xt (Qz (Qp ?_ Qc));refine XJ (i:=8) (enc:=spE) (cv:=adrF) (c.fl,c.tt) c.fr J J J (KeyIs.agg (us:=[.int .i64 c.fl, .int .i64 c.tt]) J) J uMAd Xt (Qz (Xu (hK _ _ ?_)));refine Qh (Qh ?_);exact XQ hM _ es (Qg 3 (Qg 2 (by exact QX J ⟨rfl,rfl,rfl,rfl,rfl,trivial⟩)))
            refine Qp ?_ Qc
            refine XJ (i:=9) (enc:=spE) (cv:=intC) (c.fl,c.tt) 2 J J J (KeyIs.agg (us:=[.int .i64 c.fl, .int .i64 c.tt]) J) J uMSt Xt (Qz (Zz (QZ J J J J J lMAd J (Qz (Qp ?_ Qc)))));refine XJ (i:=8) (enc:=spE) (cv:=adrF) (c.fl,c.tt) c.fr J J J (KeyIs.agg (us:=[.int .i64 c.fl, .int .i64 c.tt]) J) J uMAd Xt (Qz (Xu (hK _ _ ?_)));refine Qh (Qh ?_);exact XQ hM _ es (Qg 3 (Qg 2 (by exact QX J ⟨rfl,rfl,rfl,rfl,rfl,trivial⟩)))
          refine Qp ?_ Qc
          refine XJ (i:=9) (enc:=spE) (cv:=intC) (c.fl,c.tt) 2 J J J (KeyIs.agg (us:=[.int .i64 c.fl, .int .i64 c.tt]) J) J uMSt Xt (Qz (Zz (QZ J J J J J lMAd J (Qz (Zz (QZ J J J J J lAddr J (Qz (Qp ?_ Qc))))))));refine XJ (i:=8) (enc:=spE) (cv:=adrF) (c.fl,c.tt) c.fr J J J (KeyIs.agg (us:=[.int .i64 c.fl, .int .i64 c.tt]) J) J uMAd Xt (Qz (Xu (hK _ _ ?_)));refine Qh (Qh ?_);exact XQ hM _ es (Qg 3 (Qg 2 (by exact QX J ⟨rfl,rfl,rfl,rfl,rfl,trivial⟩)))
        refine X5 ?_ ?_
        · refine QZ J J J J J lAddr J (Qz (X5 ?_ ?_))
          · refine QZ J J J J J lMAd J (Qz (X5 ?_ ?_))
            · refine Qa (n:=2) J J J J J Jz J (Qz (Qp ?_ Qc));refine XJ (i:=9) (enc:=spE) (cv:=intC) (c.fl,c.tt) 2 J J J (KeyIs.agg (us:=[.int .i64 c.fl, .int .i64 c.tt]) J) J uMSt Xt (Qz (Qp ?_ Qc));refine XJ (i:=8) (enc:=spE) (cv:=adrF) (c.fl,c.tt) c.fr J J J (KeyIs.agg (us:=[.int .i64 c.fl, .int .i64 c.tt]) J) J uMAd Xt (Qz (Xu (hK _ _ ?_)));refine Qh (Qh ?_);exact XQ hM _ es (Qg 3 (Qg 2 (by exact QX J ⟨rfl,rfl,rfl,rfl,rfl,trivial⟩)))
            refine Qp ?_ Qc
            refine XJ (i:=9) (enc:=spE) (cv:=intC) (c.fl,c.tt) 2 J J J (KeyIs.agg (us:=[.int .i64 c.fl, .int .i64 c.tt]) J) J uMSt Xt (Qz (Zz (Qa (n:=2) J J J J J Jz J (Qz (Qp ?_ Qc)))));refine XJ (i:=8) (enc:=spE) (cv:=adrF) (c.fl,c.tt) c.fr J J J (KeyIs.agg (us:=[.int .i64 c.fl, .int .i64 c.tt]) J) J uMAd Xt (Qz (Xu (hK _ _ ?_)));refine Qh (Qh ?_);exact XQ hM _ es (Qg 3 (Qg 2 (by exact QX J ⟨rfl,rfl,rfl,rfl,rfl,trivial⟩)))
          refine X5 ?_ ?_
          · refine Qa (n:=2) J J J J J Jz J (Qz (X5 ?_ ?_))
            · refine QZ J J J J J lMAd J (Qz (Qp ?_ Qc));refine XJ (i:=9) (enc:=spE) (cv:=intC) (c.fl,c.tt) 2 J J J (KeyIs.agg (us:=[.int .i64 c.fl, .int .i64 c.tt]) J) J uMSt Xt (Qz (Qp ?_ Qc));refine XJ (i:=8) (enc:=spE) (cv:=adrF) (c.fl,c.tt) c.fr J J J (KeyIs.agg (us:=[.int .i64 c.fl, .int .i64 c.tt]) J) J uMAd Xt (Qz (Xu (hK _ _ ?_)));refine Qh (Qh ?_);exact XQ hM _ es (Qg 3 (Qg 2 (by exact QX J ⟨rfl,rfl,rfl,rfl,rfl,trivial⟩)))
            refine Qp ?_ Qc
            refine XJ (i:=9) (enc:=spE) (cv:=intC) (c.fl,c.tt) 2 J J J (KeyIs.agg (us:=[.int .i64 c.fl, .int .i64 c.tt]) J) J uMSt Xt (Qz (Zz (QZ J J J J J lMAd J (Qz (Qp ?_ Qc)))));refine XJ (i:=8) (enc:=spE) (cv:=adrF) (c.fl,c.tt) c.fr J J J (KeyIs.agg (us:=[.int .i64 c.fl, .int .i64 c.tt]) J) J uMAd Xt (Qz (Xu (hK _ _ ?_)));refine Qh (Qh ?_);exact XQ hM _ es (Qg 3 (Qg 2 (by exact QX J ⟨rfl,rfl,rfl,rfl,rfl,trivial⟩)))
          refine Qp ?_ Qc
          refine XJ (i:=9) (enc:=spE) (cv:=intC) (c.fl,c.tt) 2 J J J (KeyIs.agg (us:=[.int .i64 c.fl, .int .i64 c.tt]) J) J uMSt Xt (Qz (Zz (QZ J J J J J lMAd J (Qz (Zz (Qa (n:=2) J J J J J Jz J (Qz (Qp ?_ Qc))))))));refine XJ (i:=8) (enc:=spE) (cv:=adrF) (c.fl,c.tt) c.fr J J J (KeyIs.agg (us:=[.int .i64 c.fl, .int .i64 c.tt]) J) J uMAd Xt (Qz (Xu (hK _ _ ?_)));refine Qh (Qh ?_);exact XQ hM _ es (Qg 3 (Qg 2 (by exact QX J ⟨rfl,rfl,rfl,rfl,rfl,trivial⟩)))
        refine Qp ?_ Qc
        refine XJ (i:=9) (enc:=spE) (cv:=intC) (c.fl,c.tt) 2 J J J (KeyIs.agg (us:=[.int .i64 c.fl, .int .i64 c.tt]) J) J uMSt Xt (Qz (Zz (QZ J J J J J lMAd J (Qz (Zz (Qa (n:=2) J J J J J Jz J (Qz (Zz (QZ J J J J J lAddr J (Qz (Qp ?_ Qc)))))))))));refine XJ (i:=8) (enc:=spE) (cv:=adrF) (c.fl,c.tt) c.fr J J J (KeyIs.agg (us:=[.int .i64 c.fl, .int .i64 c.tt]) J) J uMAd Xt (Qz (Xu (hK _ _ ?_)));refine Qh (Qh ?_);exact XQ hM _ es (Qg 3 (Qg 2 (by exact QX J ⟨rfl,rfl,rfl,rfl,rfl,trivial⟩)))
      · rw [if_neg h2] at es;refine Qj (Xy mixed 13 (.p 0 (.p 1 (.p 2 (.p 3 (.p 7 (.p 8 (.f 4 (.f 5 (.f 6 (.f 9 (.p 10 (.p 11 (.p 12 .done))))))))))))) (by kernel_rfl) (fun K hK=> ?_));refine Qv J J J (Qw ieql J J J J (Qv J J J (Qe 67 (p:=kn=2) J (fun h3=> ?_) (fun h3=> ?_))))
        · refine QY J J J fV1 J (QY J J J fS11 J (Zl J J fN0 J (QZ J J J J J lMAd J (Qa (n:=2) J J J J J Jz J (Ops.lookM (i:=8) (cv:=adrF) (enc:=spE) 0 (c.fl,c.tt) J J J J (KeyIs.agg (us:=[.int .i64 c.fl, .int .i64 c.tt]) J) uMAd z0Adr (fun _ _=>rfl) Xt J ?_)))));generalize (look1 m.1 (c.fl,c.tt)).getD 0=a at es ⊢;refine QZ J J J J J lAddr J (Qw ineq J J J J (Qk 2 J (Qz (hK _ _ (Qq ?_)))));clear hK K;refine Q1 J (fun h4=> ?_) (fun h4=> ?_)
          · rw [if_pos ⟨h3,fun h=>h4 (by rw [h])⟩] at es;refine Y0 mixed [6,7] (.p 0 (.p 3 (.f 1 (.f 2 (.m 4 (.m 5 (.a 6 (.a 7 .done .non) .non) (.a 6 (.f 5 (.a 7 .done .non)) .non)) (.m 5 (.m 4 (.a 6 (.a 7 .done .non) .non) (.a 6 (.f 4 (.a 7 .done .non)) .non)) (.a 6 (.f 4 (.f 5 (.a 7 .done .non))) .non))))))) (by kernel_rfl) (fun K hK=> ?_);refine Xz (QY J J J fV2 J (Qz (Xz (QY J J J fV1 J (Qz (Zz (QZ J J J J J lMSt J (Qz (Zz (Qa (n:=2) J J J J J Jz J (Qz (X5 ?_ ?_))))))))))))
            · refine QZ J J J J J lMAd J (Qz (X5 ?_ ?_))
              · refine Qa (n:=2) J J J J J Jz J (Qz (Qp ?_ Qc));refine XJ (i:=9) (enc:=spE) (cv:=intC) (c.fl,c.tt) 3 J J J (KeyIs.agg (us:=[.int .i64 c.fl, .int .i64 c.tt]) J) J uMSt Xt (Qz (Qp ?_ Qc));refine XJ (i:=8) (enc:=spE) (cv:=adrF) (c.fl,c.tt) 0 J J J (KeyIs.agg (us:=[.int .i64 c.fl, .int .i64 c.tt]) J) J uMAd Xt (Qz (Xu (hK _ _ ?_)));refine Qh (Qh ?_);exact XQ hM _ es (Qg 3 (Qg 2 (by exact QX J ⟨rfl,rfl,rfl,rfl,rfl,trivial⟩)))
              refine Qp ?_ Qc
              refine XJ (i:=9) (enc:=spE) (cv:=intC) (c.fl,c.tt) 3 J J J (KeyIs.agg (us:=[.int .i64 c.fl, .int .i64 c.tt]) J) J uMSt Xt (Qz (Zz (Qa (n:=2) J J J J J Jz J (Qz (Qp ?_ Qc)))));refine XJ (i:=8) (enc:=spE) (cv:=adrF) (c.fl,c.tt) 0 J J J (KeyIs.agg (us:=[.int .i64 c.fl, .int .i64 c.tt]) J) J uMAd Xt (Qz (Xu (hK _ _ ?_)));refine Qh (Qh ?_);exact XQ hM _ es (Qg 3 (Qg 2 (by exact QX J ⟨rfl,rfl,rfl,rfl,rfl,trivial⟩)))
            refine X5 ?_ ?_
            · refine Qa (n:=2) J J J J J Jz J (Qz (X5 ?_ ?_))
              · refine QZ J J J J J lMAd J (Qz (Qp ?_ Qc));refine XJ (i:=9) (enc:=spE) (cv:=intC) (c.fl,c.tt) 3 J J J (KeyIs.agg (us:=[.int .i64 c.fl, .int .i64 c.tt]) J) J uMSt Xt (Qz (Qp ?_ Qc));refine XJ (i:=8) (enc:=spE) (cv:=adrF) (c.fl,c.tt) 0 J J J (KeyIs.agg (us:=[.int .i64 c.fl, .int .i64 c.tt]) J) J uMAd Xt (Qz (Xu (hK _ _ ?_)));refine Qh (Qh ?_);exact XQ hM _ es (Qg 3 (Qg 2 (by exact QX J ⟨rfl,rfl,rfl,rfl,rfl,trivial⟩)))
              refine Qp ?_ Qc
              refine XJ (i:=9) (enc:=spE) (cv:=intC) (c.fl,c.tt) 3 J J J (KeyIs.agg (us:=[.int .i64 c.fl, .int .i64 c.tt]) J) J uMSt Xt (Qz (Zz (QZ J J J J J lMAd J (Qz (Qp ?_ Qc)))));refine XJ (i:=8) (enc:=spE) (cv:=adrF) (c.fl,c.tt) 0 J J J (KeyIs.agg (us:=[.int .i64 c.fl, .int .i64 c.tt]) J) J uMAd Xt (Qz (Xu (hK _ _ ?_)));refine Qh (Qh ?_);exact XQ hM _ es (Qg 3 (Qg 2 (by exact QX J ⟨rfl,rfl,rfl,rfl,rfl,trivial⟩)))
            refine Qp ?_ Qc
            refine XJ (i:=9) (enc:=spE) (cv:=intC) (c.fl,c.tt) 3 J J J (KeyIs.agg (us:=[.int .i64 c.fl, .int .i64 c.tt]) J) J uMSt Xt (Qz (Zz (QZ J J J J J lMAd J (Qz (Zz (Qa (n:=2) J J J J J Jz J (Qz (Qp ?_ Qc))))))));refine XJ (i:=8) (enc:=spE) (cv:=adrF) (c.fl,c.tt) 0 J J J (KeyIs.agg (us:=[.int .i64 c.fl, .int .i64 c.tt]) J) J uMAd Xt (Qz (Xu (hK _ _ ?_)));refine Qh (Qh ?_);exact XQ hM _ es (Qg 3 (Qg 2 (by exact QX J ⟨rfl,rfl,rfl,rfl,rfl,trivial⟩)))
          · rw [if_neg (fun h=>h.2 (Fin.ext (by omega)))] at es;refine QU (Qh (Qh ?_));exact XQ hM _ es (Qg 3 (Qg 2 (by exact QX J ⟨rfl,rfl,rfl,rfl,rfl,trivial⟩)))
        · rw [if_neg (fun h=>h3 h.1)] at es;refine Qk 10 J (Qz (hK _ _ (Qq (Qt J (QU (Qh (Qh ?_)))))));clear hK K;exact XQ hM _ es (Qg 3 (Qg 2 (by exact QX J ⟨rfl,rfl,rfl,rfl,rfl,trivial⟩)))
 · have hi' :i=l.length:=by omega
   have el:(l.take i).foldl (lookS e) ([],[])=l.foldl (lookS e) ([],[]):=by rw [hi',List.take_length]
   rw [el]
   refine St.frzM 8 1 1 J J J (fun _ h=>h.elim) ?_
   refine St.frzM 9 1 2 J J J (fun _ h=>h.elim) ?_
   refine Qi (Qq (Qj (Qx ?_)));refine Qa (n:=3) J J J J J lView J (Q7 3 J J J J J szView J J (Qz (Qq (Q0 ?_))));refine Fin.end [_] rfl (Qd (n:=3) J J lView J QQ) J J
end Go.Proofs.YtojkdfilabmafaaGreat
namespace Go.Proofs.YtojkdfilabmafaaGreat
open Go.Own Go.Limbs Go.Proofs.Tryz
abbrev ESp := Tk × Int × Int
def plS (r : Rs) : ESp := (trOf r, r.fl, r.tt)
def plB (r : Rs) : Bool := r.an && usR r
abbrev SeenM := List (ESp × Fin 4294967296)
def clashG : SeenM → List Rs → Nat
  | _, [] => 0
  | m, r :: l =>
    if plB r = false then clashG m l + 1
    else if (look1 m (plS r)).isSome = true ∧ (look1 m (plS r)).getD 0 ≠ r.fr then 0
    else clashG (ins m (plS r) r.fr) l + 1
def conB (a b : Rs) : Bool := (plB a && plB b) && (decide (plS a = plS b) && decide (a.fr ≠ b.fr))
def witG (o : List Rs) : Option Nat :=
  let k := clashG [] o
  if k < o.length then (o.take k).findIdx? (fun a => conB a (o.getD k rs0)) else none
theorem clashG_le:∀(l:List Rs) (m:SeenM),clashG m l<=l.length
 | [],_=>Nat.le_refl _
 |r::l,m=>by
  simp only [clashG,List.length_cons]
  split
  · have:=clashG_le l m;omega
  · split
    · omega
    · have:=clashG_le l (ins m (plS r) r.fr);omega
theorem usR_tt{r:Rs}(h:usR r=true):1<=r.tt/\ r.tt<=255:=by
 simp only [usR,okR,Bool.and_eq_true,decide_eq_true_eq] at h;have h1:=h.2.1;unfold ckE at h1;split at h1
 · cases h1
 · rename_i h2;unfold P1 at h2;omega
theorem hasS_tt{l:List Rs}{fl tt:Int}(h:hasS (lookG l).2 fl tt=true):1<=tt/\ tt<=255:=by
 unfold hasS at h
 cases e:look1 (lookG l).2 (fl,tt) with
 |none=>rw [e] at h;simp at h
 |some v=>
  obtain ⟨_,r,_,hu,hs⟩:=lookG_keys l _ _ e
  injection hs with h1 h2
  rw [h2];exact usR_tt hu
theorem pathG_len(m:AdM × StM)(fl:Int):∀(k:Nat) (tt:Int),(pathG m fl k tt).length<=k
 |0,_=>Nat.le_refl _
 |k+1,tt=>by
  unfold pathG
  split
  · have:=pathG_len m fl k (tt+1);simp only [List.length_cons];omega
  · exact Nat.zero_le _
attribute [local irreducible] Go.Own.Fin Ok OkB OkF OkL OkN OkT Ops St
theorem goPath:InGo prog 87:=InGo.of func87 rfl (by decide)
theorem Path_ok(l:List Rs)(fl:Int)(hl:l.length<=100000):OkF prog 87 [rssC l,intC fl] 35 1 (adrs (pathF l fl)):=by
 have hL:=Look_ok l hl
 have hb:∀tt,hasS (lookG l).2 fl tt=true ->1<=tt/\ tt<=255:=fun tt h=>hasS_tt h
 have e0:pathF l fl=pathG (lookG l) fl 256 1:=rfl;rw [e0];clear e0;generalize endF l=e at hL;generalize lookG l=m at hL hb ⊢
 refine OkF.enter func87 J _ ntmps87 J ?_
 intro S w;refine Qj (Qx ?_);refine Qy J J J (Qz (Qq (Qj ?_)));refine Qx (Qv J J J (QJ goLook hL J J J J (Qb 0 J J zvView J J J (Q7 3 J J J J J szView J J (Qz (Qq (Qj ?_)))))));refine Qx (Qy J J J (Qz (Qq (Qj (Qj ?_)))));refine Qx (Qy J J J (Qz (Qq (Q2 ?_))))
 refine ZY 6 1 35 1 J J J ?_
 refine Qn (α:=List Ad) (fun pre=>pre.length<=255/\ pathG m fl 256 1=pre++pathG m fl (256 - pre.length) (pre.length+1))
  (fun pre=>[(1, .ct (intC fl)),(5, .own 0),(6, .own 1),(7, .ct (intC (pre.length+1)))])
  (fun pre=>[(1, .row 35 1 (adrs pre)),(0, .box 224 [intC e, .fr (mapT (adM m.1)), .fr (mapT (stM m.2))])]) (fun pre=>256 - pre.length) [] ⟨Nat.zero_le _,rfl⟩ (by exact QX J ⟨rfl,rfl,rfl,rfl,trivial⟩) ?_
 intro pre ⟨hp,hq⟩
 try dsimp only
 have hH:=Has_ok e fl (pre.length+1) m;have hb1:=hb (pre.length+1)
 have hun:∀k,pathG m fl (k+1) (pre.length+1)=if hasS m.2 fl (pre.length+1) then (look1 m.1 (fl,(pre.length:Int)+1)).getD 0::pathG m fl k (pre.length+1+1) else []:=fun _=>rfl
 generalize hasS m.2 fl (pre.length+1)=hs at hH hb1 hun;refine Qj (Qj (Qx ?_));refine Qa (n:=3) J J J J J lView J (Qk 2 J (QJ goHas hH J J J J (Qz (Qq ?_))));refine Xa J (fun h=> ?_) (fun h=> ?_)
 · have hl2:=hb1 h;obtain ⟨k,hk⟩:∃k,256 - pre.length=k+1:=⟨255 - pre.length,by omega⟩;rw [hk,hun,if_pos h] at hq;refine QU (Qq (Qj (Q2 (Qx ?_))));refine Qv J J J (QY J J J fV1 J (QZ J J J J J lMAd J (Qk 2 J (Qm J bSpot J (.one J J J J (.one J J J J .nil)) J (Ops.lookF (cv:=adrF) (enc:=spE) 0 (fl,(pre.length:Int)+1) J J J (KeyIs.agg (us:=[.int .i64 fl, .int .i64 ((pre.length:Int)+1)]) J) uMAd z0Adr (fun _ _=>rfl) Xt J ?_)))));generalize (look1 m.1 (fl,(pre.length:Int)+1)).getD 0=a at hq ⊢;skip;refine X8 J J sAdrs J J J (Qo pre.length (adrs (pre++ [a])) J J J J sAdrs (by simp [adrs]) J (by omega) (by omega) (by simp [adrs]) J ?_);refine Qy J J J (Qz (Qq ?_));refine Qx (Qv J J J (Qw (iadd (by omega) (by omega)) J J J J ?_));refine Qy J J J (Qz (Q5 ?_));refine Q6 (pre++ [a]) (by rw [List.length_append];simp;omega) ⟨by rw [List.length_append];simp;omega,?_⟩ (by exact QX J ⟨rfl,rfl,rfl,by simp only [List.length_append,List.length_cons,List.length_nil,Int.natCast_add];rfl,trivial⟩);rw [hq,List.length_append,List.append_assoc]
   have:256 - (pre.length+ [a].length)=k:=by simp;omega
   rw [this];simp
 · obtain ⟨k,hk⟩:∃k,256 - pre.length=k+1:=⟨255 - pre.length,by omega⟩;rw [hk,hun,if_neg (by rw [h];decide),List.append_nil] at hq;refine Qi (Qq (Qj (Qx ?_)));refine Qk 2 J (Qz (Qq (Q0 ?_)));refine Fin.retF J J (by rw [hq];rfl) J
abbrev esI (s : ESp) : List Int := [s.1.va, (s.1.ds.val : Int), s.1.pr, s.2.1, s.2.2]
abbrev esK : List IntKind := [.i64, .u32, .i64] ++ [.i64, .i64]
abbrev esE (s : ESp) : Value := Go.Own.encI esK (esI s)
abbrev esCs (s : ESp) : List CT := [intC s.1.va, adrF s.1.ds, intC s.1.pr, intC s.2.1, intC s.2.2]
abbrev esC (s : ESp) : CT := .fr (aggT (esCs s))
abbrev esV (s : ESp) : List Value := [.int .i64 s.1.va, .int .u32 (s.1.ds.val : Int), .int .i64 s.1.pr, .int .i64 s.2.1, .int .i64 s.2.2]
theorem eqES:EqF prog 282 123 [.i64, .u32, .i64] [.i64, .i64]:=⟨by kernel_rfl,by kernel_rfl,by kernel_rfl,by kernel_rfl,by kernel_rfl,by kernel_rfl,by kernel_rfl,by kernel_rfl⟩
theorem esI_inj(a b:ESp)(h:esI a=esI b):a=b:=by
 obtain ⟨⟨a1,a2,a3⟩,a4,a5⟩:=a;obtain ⟨⟨b1,b2,b3⟩,b4,b5⟩:=b;simp only [esI,List.cons.injEq,and_true,Int.ofNat_inj,Fin.val_inj] at h;obtain ⟨h1,h2,h3,h4,h5⟩:=h;rw [h1,h2,h3,h4,h5]
theorem keyES:KeyT prog 282 esE:=eqES.flat.key esI (fun _=>rfl) esI_inj
theorem gES:prog.eqGuardType prog.depth 282=false:=by kernel_rfl
theorem lES:LdN prog 282 5:=LdN.of _ underlying282 rfl (by kernel_rfl)
theorem szES:(prog.info? 282).map (·.size)=some 5:=by kernel_rfl
theorem zvES:(prog.info? 282).map (·.zero)=some (some (.agg #[.int .i64 0, .int .u32 0, .int .i64 0, .int .i64 0, .int .i64 0])):=by kernel_rfl
theorem bES:bInfo prog 282=some (.agg #[.int .i64 0, .int .u32 0, .int .i64 0, .int .i64 0, .int .i64 0],[(0,some 3),(3,some 1),(4,some 1)]):=by kernel_rfl
theorem uMSeen:prog.underlying 280=some (.map 282 35):=underlying280
theorem goPlace:InGo prog 233:=InGo.of func233 rfl (by decide)
theorem Place_ok(r:Rs):Ok prog 233 [rsC r] (.fr (tupT [esC (plS r),boolC (plB r)])):=by
 have hT:=TraceOf_ok r;have hU:=Usable_ok r;have e0:plB r=(r.an&&usR r):=rfl;generalize usR r=ub at hU e0
 refine Ok.enter func233 J _ ntmps233 J ?_
 intro S w;refine Qj (Qx ?_);refine Xx 0 J J J J J J J (Qb 1 J J zvES J J J (Qy J J J (Qz (Qq (Qj ?_)))));refine Xy mixed 13 (.p 2 (.p 4 (.p 7 (.f 0 (.f 3 (.f 5 (.fork 1 (.p 6 (.m 8 (.p 9 (.m 10 (.m 11 (.p 12 (.a 13 (.p 14 .done)))))))) 8 (.m 1 (.p 6 (.p 9 (.m 10 (.m 11 (.p 12 (.a 13 (.p 14 .done))))))))))))))) (by kernel_rfl) (fun K hK=> ?_);refine QY J J J fS6 J (QY J J J fS7 J (QY J J J fS8 J (Qa (n:=17) J J J J J lRes J (QZ J J J J J lInt J (QZ J J J J J lInt J (Ops.fork ?_ ?_))))))
 · refine QJ goTraceOf hT J J J J (Qm J bES J (.agg J J J J (.one J J J J (.one J J J J .nil))) J (QZ J J J J J lBool1 J (Qv J J J (Xc 13 (b:=r.an) J (fun h=> ?_) (fun h=> ?_)))))
   · refine Qa (n:=17) J J J J J lRes J (QJ goUsable hU J J J J (Zx J J J J (Q7 5 J J J J J szES J J (Qy J J J (Qz (hK _ _ (Qq (Q0 ?_))))))));clear hK K;refine QK [_,_] rfl (Qd (n:=5) J J lES J (Qu J QQ)) (by rw [e0,h,Bool.true_and];rfl) J
   · refine Qk 3 J (Q7 5 J J J J J szES J J (Qy J J J (Qz (hK _ _ (Qq (Q0 ?_))))));clear hK K;refine QK [_,_] rfl (Qd (n:=5) J J lES J (Qu J QQ)) (by rw [e0,h,Bool.false_and];rfl) J
 · refine QZ J J J J J lBool1 J (QJ goTraceOf hT J J J J (Qm J bES J (.agg J J J J (.one J J J J (.one J J J J .nil))) J (Qv J J J (Xc 13 (b:=r.an) J (fun h=> ?_) (fun h=> ?_)))))
   · refine Qa (n:=17) J J J J J lRes J (QJ goUsable hU J J J J (Zx J J J J (Q7 5 J J J J J szES J J (Qy J J J (Qz (hK _ _ (Qq (Q0 ?_))))))));clear hK K;refine QK [_,_] rfl (Qd (n:=5) J J lES J (Qu J QQ)) (by rw [e0,h,Bool.true_and];rfl) J
   · refine Qk 3 J (Q7 5 J J J J J szES J J (Qy J J J (Qz (hK _ _ (Qq (Q0 ?_))))));clear hK K;refine QK [_,_] rfl (Qd (n:=5) J J lES J (Qu J QQ)) (by rw [e0,h,Bool.false_and];rfl) J
theorem goContradict:InGo prog 168:=InGo.of func168 rfl (by decide)
theorem Contradict_ok(a b:Rs):Ok prog 168 [rsC a,rsC b] (boolC (conB a b)):=by
 have hA:=Place_ok a;have hB:=Place_ok b;have e0:conB a b=((plB a&&plB b)&&(decide (plS a=plS b)&&decide (a.fr≠b.fr))):=rfl;have e1:decide (esI (plS a)=esI (plS b))=decide (plS a=plS b):=decide_eq_decide.2 ⟨esI_inj _ _,fun h=>by rw [h]⟩;generalize plS a=sa at hA e0 e1;generalize plS b=sb at hB e0 e1;generalize plB a=pa at hA e0;generalize plB b=pb at hB e0
 refine Ok.enter func168 J _ ntmps168 J ?_
 intro S w;refine Qj (Qx ?_);refine Xx 0 J J J J J J J (Xx 1 J J J J J J J (Qy J J J (Qz (Qq (Qj ?_)))));refine Qx (Qa (n:=17) J J J J J lRes J (QJ goPlace hA J J J J (Qv J J J (QV J J J J (QV J J J J (Qb 2 J J zvES J J J (Q7 5 J J J J J szES J J (Qy J J J (Qz (Qq (Qj ?_)))))))))));refine Qx (Qa (n:=17) J J J J J lRes J (QJ goPlace hB J J J J (Qv J J J (QV J J J J (QV J J J J (Qb 3 J J zvES J J J (Q7 5 J J J J J szES J J (Qy J J J (Qz (Qq (Qj ?_)))))))))));refine Qx (Qk 2 J (Xc 20 (b:=pa) J (fun h=> ?_) (fun h=> ?_)))
 · refine Qk 3 J (Xc 23 (b:=pb) J (fun h2=> ?_) (fun h2=> ?_))
   · skip;refine Qa (n:=5) J J J J J lES J (Qa (n:=5) J J J J J lES J (Ops.eqK (ks:=esK) (esI sa) (esI sb) J J J J J eqES.flat gES J ?_));rw [e1];refine Qk 2 J (Qe 28 (p:=sa=sb) J (fun h3=> ?_) (fun h3=> ?_))
     · refine QY J J J fS11 J (Zl J J fN0 J (QZ J J J J J lAddr J (QY J J J fS11 J (Zl J J fN0 J (QZ J J J J J lAddr J (Qw ineq J J J J (Qk 2 J (Qz (Qq (Q0 ?_))))))))));refine QK [_] rfl (Qu J QQ) (by rw [e0,h,h2,decide_eq_true h3];simp only [Bool.true_and];rw [show (decide (a.fr≠b.fr))=decide (¬((a.fr.val:Int)=b.fr.val)) from decide_eq_decide.2 ⟨fun h h' =>h (Fin.ext (by omega)),fun h h' =>h (by rw [h'])⟩];rfl) J
     · refine Qk 9 J (Qz (Qq (Q0 ?_)));refine QK [_] rfl (Qu J QQ) (by rw [e0,h,h2,decide_eq_false h3];rfl) J
   · refine Qk 14 J (Qz (Qq (Q0 ?_)));refine QK [_] rfl (Qu J QQ) (by rw [e0,h,h2];rfl) J
 · refine Qk 17 J (Qz (Qq (Q0 ?_)));refine QK [_] rfl (Qu J QQ) (by rw [e0,h];rfl) J
attribute [local irreducible] OkM
theorem knOk_ins{l:List Rs}{m:KnM}(h:knOk l m)(s:Stm):knOk l (ins m s (pathF (ofF l s.1) s.2)):=fun x p hx=>by
 rw [look1_ins] at hx
 split at hx
 · rename_i e;subst e;injection hx with hx;exact hx.symm
 · exact h x p hx
theorem pathF_len(l:List Rs)(fl:Int):(pathF l fl).length<=256:=pathG_len _ _ _ _
abbrev Me := Rs × List Wr
def me0 : Me := (rs0, [])
abbrev meCs (x : Me) : List CT := rsCs x.1 ++ [wrsC x.2]
theorem me_len(x:Me):(meCs x).length=18:=rfl
abbrev mesC (l : List Me) : CT := .fr (sliceT 18 (l.map meCs))
def mes (l : List Me) : List CT := (l.map meCs).flatten
theorem mes_frozen(e:Nat)(l:List Me):(Ent.row e 18 (mes l)).frozen (sliceT 18 (l.map meCs)):=
 ⟨_,rfl,fun e he=>by obtain ⟨m,_,rfl⟩:=List.mem_map.mp he;rfl,by decide,rfl⟩
theorem mes_at{l:List Me}{j:Int}(h0:0<=j)(h:j<(l.length:Int)):(l.map meCs)[j.toNat]? =some (meCs (l.getD j.toNat me0)):=by
 have:j.toNat<l.length:=by omega
 simp [List.getElem?_map,List.getElem?_eq_getElem this,List.getD_eq_getElem?_getD]
theorem mes_len(l:List Me):(mes l).length=l.length*18:=el_len me_len l
theorem mes_snoc(l:List Me)(r:Me):mes (l++ [r])=mes l++meCs r:=by simp [mes]
abbrev zMe : Value := .agg #[.int .i64 0, .int .i64 0, .int .i64 0, .int .i64 0, .int .u32 0, .int .i64 0, .int .i64 0, .int .i64 0, .bool false, .bool false, .int .i64 0, .int .u32 0, .int .i64 0, .int .i64 0, .int .i64 0, .int .i64 0, .int .i64 0, .slice none 0 0]
theorem sMes:SlcT prog 104 111 18 152 zMe:=SlcT.of underlying104 (by kernel_rfl) rfl (by decide)
theorem lMe:LdN prog 111 18:=LdN.of _ underlying111 rfl (by kernel_rfl)
theorem szMe:(prog.info? 111).map (·.size)=some 18:=by kernel_rfl
theorem zvMe:(prog.info? 111).map (·.zero)=some (some zMe):=by kernel_rfl
theorem bMe:bInfo prog 111=some (zMe,[(0,some 17),(17,some 1)]):=by kernel_rfl
theorem fMe1:fldInfo prog 111 1=some (17,some 1):=by kernel_rfl
theorem eqDst:EqF prog 159 123 [.i64, .u32, .i64] [.i64]:=⟨by kernel_rfl,by kernel_rfl,by kernel_rfl,by kernel_rfl,by kernel_rfl,by kernel_rfl,by kernel_rfl,by kernel_rfl⟩
theorem keyDst:KeyT prog 159 stmE:=eqDst.flat.key stmI (fun _=>rfl) stmI_inj
theorem lDst:LdN prog 159 4:=LdN.of _ underlying159 rfl (by kernel_rfl)
theorem szDst:(prog.info? 159).map (·.size)=some 4:=by kernel_rfl
theorem zvDst:(prog.info? 159).map (·.zero)=some (some (.agg #[.int .i64 0, .int .u32 0, .int .i64 0, .int .i64 0])):=by kernel_rfl
theorem bDst:bInfo prog 159=some (.agg #[.int .i64 0, .int .u32 0, .int .i64 0, .int .i64 0],[(0,some 3),(3,some 1)]):=by kernel_rfl
theorem fDst0:fldInfo prog 159 0=some (0,some 3):=by kernel_rfl
theorem uMDst:prog.underlying 156=some (.map 159 93):=underlying156
def paF (l : List Rs) (r : Rs) : List (_root_.Fin 4294967296) := pathF (ofF l (trOf r)) r.fl
def mesB (l : List Rs) (r : Rs) : Bool := r.an && (usR r && (decide (r.tt ≤ ((paF l r).length : Int)) && (decide ((paF l r).getD (r.tt.toNat - 1) 0 = r.fr) && (wsO ((paF l r).take r.tt.toNat)).2)))
def meF (l : List Rs) (r : Rs) : Me := (r, (wsO ((paF l r).take r.tt.toNat)).1)
def msF (l : List Rs) : List Me := ((sd cmpR (l.filter okR)).filter (mesB l)).map (meF l)
theorem gomeasures:InGo prog 45:=InGo.of func45 rfl (by decide)
theorem measures_ok(l:List Rs)(hl:l.length<=10000):Ok prog 45 [rssC l] (mesC (msF l)):=by
 have hT:=Traces_ok l hl
 have hOf:=fun t=>Of_ok l t hl
 have hO:=Order_ok l hl
 have hU:=fun r=>Usable_ok r
 have hTl:(trsF l).length<=10000:=by
  have h1:=sd_len cmpT ((l.filter okR).map trOf);have h2:=List.length_filter_le okR l;rw [List.length_map] at h1;unfold trsF;omega
 have hol:(sd cmpR (l.filter okR)).length<=10000:=by
  have:=sd_len cmpR (l.filter okR);have:=List.length_filter_le okR l;omega
 have hP:=fun r=>Path_ok (ofF l (trOf r)) r.fl (by
  have h1:=sd_len cmpR (l.filter okR);have h2:=List.length_filter_le okR l;have h3:=List.length_filter_le (fun x=>decide (trOf x=trOf r)) (sd cmpR (l.filter okR))
  unfold ofF;omega)
 have hpl:∀r,(paF l r).length<=256:=fun r=>pathF_len _ _
 have hLo:=owF_look l;have hm:msF l=((sd cmpR (l.filter okR)).filter (mesB l)).map (meF l):=rfl;have ho:owF l=(trsF l).foldl (fun m t=>ins m t (ofF l t)) []:=rfl
 have hB:∀r,mesB l r=(r.an&&(usR r&&(decide (r.tt<=((paF l r).length:Int))&&(decide ((paF l r).getD (r.tt.toNat - 1) 0=r.fr)&&(wsO ((paF l r).take r.tt.toNat)).2)))):=fun _=>rfl
 have hF:∀r,meF l r=(r,(wsO ((paF l r).take r.tt.toNat)).1):=fun _=>rfl
 generalize msF l=out at hm ⊢;generalize sd cmpR (l.filter okR)=o at hO hol hm;generalize owF l=om at hLo ho;generalize trsF l=ts at hT hTl ho;generalize mesB l=mb at hB hm;generalize meF l=mf at hF hm
 refine Ok.enter func45 J _ ntmps45 J ?_
 intro S w0;refine Qj (Qx ?_);refine Qy J J J (Qz (Qq (Qj ?_)));refine Qx (Ops.mkMap 6 J J J J J (fun v1 hv1=> ?_));refine Qy J J J (Qz (Qq (Qj (Qj ?_))));refine Qx (Qv J J J (Yw 3 goTraces hT J J J J J J (Zk 3 _ J (tks_frozen _ _) noBor_sub (Q9 J J sTks.und (List.length_map ..) J (Qv J J J (Qz (Qq (Q2 ?_))))))))
 refine Qn (α:=Nat) (fun i=>i<=ts.length)
  (fun i=>[(0, .ct (rssC l)),(3, .ct (.ex v1)),(17, .ct (tksC ts)),(18, .ct (intC ts.length)),(19, .ct (intC i))])
  (fun i=>[(6, .mpx v1 (owM ((ts.take i).foldl (fun m t=>ins m t (ofF l t)) [])))])
  (fun i=>ts.length - i) 0 (Nat.zero_le _) (by exact QX J ⟨rfl,rfl,rfl,rfl,rfl,trivial⟩) ?_
 intro i hi
 try dsimp only at hi ⊢
 refine Qj (Qx ?_);refine Qw ilss J J J J (Qz (Qq (Qj ?_)));refine Q1 J (fun h=> ?_) (fun h=> ?_)
 · have e2:(i:Int).toNat=i:=Int.toNat_natCast i;have hs:=foldl_take (fun m t=>ins m t (ofF l t)) ([]:OwM) (z:=tk0) (l:=ts) (i:=i) (by omega);generalize (ts.take i).foldl (fun m t=>ins m t (ofF l t)) ([]:OwM)=m at hs ⊢;refine QU (Qq (Qj (Q2 (Qj (Qx ?_)))))
   refine Ql J J J sTks (by omega) (tks_at (by omega) (by omega)) J ?_
   rw [e2];generalize ts.getD i tk0=t at hs ⊢;refine Xe (n:=3) J J J lTrace J J (Qb 2 J J zvTrace J J J (Q7 3 J J J J J szTrace J J (Qz (Qq ?_))));refine Xy mixed 5 (.p 0 (.p 2 (.f 1 (.f 3 (.m 4 (.a 5 .done)))))) (by kernel_rfl) (fun K hK=> ?_);refine Qk 2 J (Qa (n:=3) J J J J J lTrace J (Qa (n:=3) J J J J J lTrace J (Yw 3 goOf (hOf t) J J J J J J (Zk 3 _ J (rss_frozen _ _) noBor_sub (XJ (i:=6) (enc:=tkE) (cv:=rssC) t (ofF l t) J J J (KeyIs.agg (us:=tkVs t) J) J uMOwn keyTk (Qz (hK _ _ (Qq ?_))))))));clear hK K;refine Qx (Qw (iadd (by omega) (by omega)) J J J J ?_);refine Qv J J J (Qz (Q5 ?_));refine Xv 2 (Q6 (i+1) (by omega) (by omega) (by rw [hs];exact QX J ⟨rfl,rfl,rfl,rfl,by simp only [Int.natCast_add];rfl,trivial⟩))
 have hi' :i=ts.length:=by omega
 rw [hi',List.take_length,<- ho];clear hT hOf ho hTl;refine Qi (Qq (Qj (Qx ?_)));refine Ops.mkMap 8 J J J J J (fun v2 hv2=> ?_);refine Qy J J J (Qz (Qq (Qj ?_)));refine Qx (Qy J J J (Qz (Qq (Qj (Qj ?_)))));refine Qx (Qv J J J (Yw 3 goOrder hO J J J J J J (Zk 3 _ J (rss_frozen _ _) noBor_sub (Q9 J J sRes.und (List.length_map ..) J (Qv J J J (Qz (Qq (Q2 ?_))))))))
 refine ZY 7 4 111 18 J J J ?_
 refine Qn (α:=Nat × KnM) (fun q=>q.1<=o.length/\ knOk l q.2)
  (fun q=>[(3, .ct (.ex v1)),(6, .ct (.ex v2)),(7, .own 4),(31, .ct (rssC o)),(32, .ct (intC o.length)),(33, .ct (intC q.1))])
  (fun q=>[(4, .row 111 18 (mes (((o.take q.1).filter mb).map mf))),(8, .mpx v2 (knM q.2)),(6, .mpx v1 (owM om))])
  (fun q=>o.length - q.1) (0,[]) ⟨Nat.zero_le _,fun _ _ h=>by cases h⟩ (by exact QX J ⟨rfl,rfl,rfl,rfl,rfl,rfl,trivial⟩) ?_
 clear h hi hi' i;intro ⟨i,m⟩ ⟨hi,hm'⟩
 try dsimp only at hi hm' ⊢
 refine Qj (Qx ?_);refine Qw ilss J J J J (Qz (Qq (Qj ?_)));refine Q1 J (fun h=> ?_) (fun h=> ?_);rotate_left
 · have hi' :i=o.length:=by omega
   rw [hi',List.take_length,<- hm];refine Qi (Qq (Qj (Qx ?_)));refine Qk 2 J (Qz (Qq (Q0 ?_)));refine Yi 4 _ J (mes_frozen _ _) noBor_sub (QK [_] rfl (Qu J QQ) J J)
 have e2:(i:Int).toNat=i:=Int.toNat_natCast i;have hs:=filter_take mb (z:=rs0) (i:=i) (l:=o) (by omega);have hfl:=filter_len mb o i;refine QU (Qq (Qj (Q2 (Qj (Qx ?_)))))
 refine Ql J J J sRes (by omega) (rss_at (by omega) (by omega)) J ?_
 refine Xe (n:=17) J J J lRes J J (Qb 0 J J zvRes J J J (Q7 17 J J J J J szRes J J (Qz (Qq (Qj (Qj ?_))))));refine Qx (QY J J J fS8 J (QZ J J J J J lBool1 J (Qr J J J (Qv J J J ?_))));rw [e2];generalize o.getD i rs0=r at hs;generalize (o.take i).filter mb=q at hs hfl ⊢;rw [hB r] at hs
 have hkn:=fun m (h:knOk l m)=>knOk_ins h (trOf r,r.fl)
 have hal' :=fun p=>hm' (trOf r,r.fl) p
 have hPr:=hP r;have hpr:=hpl r;have hFr:=hF r;have hLr:=hLo (trOf r);have hUr:=hU r;have hTt:usR r=true ->1<=r.tt/\ r.tt<=255:=usR_tt;clear hP hpl hF hB hLo hU hm;dsimp only at hkn hal';unfold paF at hs hpr hFr;generalize pathF (ofF l (trOf r)) r.fl=p at hs hpr hFr hal' hkn hPr;rw [<- hLr] at hPr;generalize usR r=ub at hUr hTt hs;refine Xc 40 J (fun g1=> ?_) (fun g1=> ?_)
 · rw [if_neg (by simp at g1;simp [g1])] at hs;refine Qk 4 J (Qz (Qq (Xk J (Qi (Qq ?_)))));refine Qx (Qw (iadd (by omega) (by omega)) J J J J ?_);refine Qv J J J (Qz (Q5 ?_));refine Xv 0 (Q6 (i+1,m) (by dsimp only;omega) ⟨by dsimp only;omega,hm'⟩ (by dsimp only;rw [hs];exact QX J ⟨rfl,rfl,rfl,rfl,rfl,by simp only [Int.natCast_add];rfl,trivial⟩))
 have g1:r.an=true:=by simpa using g1
 refine Qa (n:=17) J J J J J lRes J (QJ goUsable hUr J J J J (Qr J J J (Z1 J J J J (Qz (Qq ?_)))));refine Xa J (fun g2=> ?_) (fun g2=> ?_)
 · rw [if_neg (by simp at g2;simp [g2])] at hs;refine Qi (Qq (Qx ?_))
   refine Qw (iadd (by omega) (by omega)) J J J J ?_
   refine Qv J J J (Qz (Q5 ?_));refine Xv 0 (Q6 (i+1,m) (by dsimp only;omega) ⟨by dsimp only;omega,hm'⟩ (by dsimp only;rw [hs];exact QX J ⟨rfl,rfl,rfl,rfl,rfl,by simp only [Int.natCast_add];rfl,trivial⟩))
 have g2:ub=true:=by simpa using g2
 obtain ⟨t1,t2⟩:=hTt g2;rw [g1,g2,Bool.true_and,Bool.true_and] at hs;clear hTt hUr;refine QU (Qq (Qj ?_))
 refine YW (α:=Unit) (fun _=>True) (fun _=>[(3, .ct (.ex v1)),(6, .ct (.ex v2)),(7, .own 4),(31, .ct (rssC o)),(32, .ct (intC o.length)),(33, .ct (intC i)),(9, .own 0),(10, .own 1)])
  (fun _=>[(1, .box 159 (stmCs (trOf r,r.fl))),(0, .box 47 (rsCs r)),(4, .row 111 18 (mes (q.map mf))),(8, .mpx v2 (knM m)),(6, .mpx v1 (owM om))]) (fun _ _=> ?_) (fun KN hM=> ?_)
 rotate_left
 · refine Xy mixed 6 (.p 2 (.f 0 (.f 3 (.fork 1 (.p 4 (.m 5 (.a 6 .done))) 5 (.m 1 (.p 4 (.a 6 .done))))))) (by kernel_rfl) (fun K hK=> ?_);refine QY J J J fS6 J (Qa (n:=17) J J J J J lRes J (QZ J J J J J lInt J (Ops.fork ?_ ?_)))
   · refine QJ goTraceOf (TraceOf_ok r) J J J J (Qm J bDst J (.agg J J J J (.one J J J J .nil)) J (Qb 1 J J zvDst J J J (Q7 4 J J J J J szDst J J (Qz (hK _ _ ?_)))));clear hK K;exact XQ hM () trivial (QX J ⟨rfl,rfl,rfl,rfl,rfl,rfl,rfl,rfl,trivial⟩)
   · refine Qb 1 J J zvDst J J J (QJ goTraceOf (TraceOf_ok r) J J J J (Qm J bDst J (.agg J J J J (.one J J J J .nil)) J (Q7 4 J J J J J szDst J J (Qz (hK _ _ ?_)))));clear hK K;exact XQ hM () trivial (QX J ⟨rfl,rfl,rfl,rfl,rfl,rfl,rfl,rfl,trivial⟩)
 refine Qj (Qx ?_);refine Qv J J J (Qa (n:=4) J J J J J lDst J (Ops.lookM2 (i:=8) (cv:=adsC) (enc:=stmE) [] (trOf r,r.fl) J J J J (KeyIs.agg (us:=stmV (trOf r,r.fl)) J) uMDst z0Ads (fun S w=>Yv S w _ J) keyDst J ?_));generalize look1 m (trOf r,r.fl)=lk at hal';refine Qv J J J (QV J J J J (QV J J J J (Qk 2 J (Qz (Qq (Qj ?_))))))
 refine YW (α:=KnM) (fun m=>knOk l m) (fun _=>[(3, .ct (.ex v1)),(6, .ct (.ex v2)),(7, .own 4),(31, .ct (rssC o)),(32, .ct (intC o.length)),(33, .ct (intC i)),(9, .own 0),(10, .own 1),(11, .ct (adsC p))])
  (fun m=>[(1, .box 159 (stmCs (trOf r,r.fl))),(0, .box 47 (rsCs r)),(4, .row 111 18 (mes (q.map mf))),(8, .mpx v2 (knM m)),(6, .mpx v1 (owM om))]) (fun m2 hm2=> ?_) (fun KN hM=> ?_)
 rotate_left
 · refine Qj (Qx ?_);refine Qv J J J (Qr J J J (Qz (Qq ?_)));refine Xa J (fun h2=> ?_) (fun h2=> ?_)
   · refine Qj (Xy mixed 8 (.p 0 (.p 1 (.p 4 (.f 2 (.f 3 (.f 5 (.m 6 (.p 7 .done)))))))) (by kernel_rfl) (fun K hK=> ?_));refine Qv J J J (QY J J J fDst0 J (QY J J J fS6 J (YU (n:=3) J J J J (Nat.le_of_ble_eq_true J) lTrace J (Ops.lookM (i:=6) (enc:=tkE) (cv:=rssC) [] (trOf r) J J J J (KeyIs.agg (us:=tkVs (trOf r)) J) uMOwn z0Rss (fun S w=>Yv S w _ J) keyTk J ?_))));refine QZ J J J J J lInt J (Yw 3 goPath hPr J J J J J J (Zk 3 _ J (adrs_frozen _ _) noBor_sub (Qy J J J (Qz (hK _ _ (Qq ?_))))));clear hK K;refine Qx (Qv J J J (Qa (n:=4) J J J J J lDst J (Qv J J J (XJ (i:=8) (enc:=stmE) (cv:=adsC) (trOf r,r.fl) p J J J (KeyIs.agg (us:=stmV (trOf r,r.fl)) J) J uMDst keyDst (Qz ?_)))));exact XQ hM _ (hkn m hm') (QX J ⟨rfl,rfl,rfl,rfl,rfl,rfl,rfl,rfl,rfl,trivial⟩)
   · cases lk with
     |none=>cases h2
     |some p' =>
      rw [<- hal' p' J] at hM
      refine QU ?_
      exact XQ hM m hm' (QX J ⟨rfl,rfl,rfl,rfl,rfl,rfl,rfl,rfl,rfl,trivial⟩)
 clear hal' hkn hPr hm';refine Qj (Qj ?_);refine Xy mixed 17 (.p 0 (.p 1 (.p 2 (.f 3 (.p 4 (.p 5 (.p 6 (.p 7 (.p 12 (.p 13 (.f 8 (.p 9 (.p 10 (.f 11 (.f 14 (.p 15 (.p 16 .done))))))))))))))))) (by kernel_rfl) (fun K hK=> ?_);refine Qv J J J (Q9 J J sAdrs.und (List.length_map ..) J (QY J J J fS7 J (QZ J J J J J lInt J (Qw ilss J J J J (Qv J J J (Qe 73 J (fun g3=> ?_) (fun g3=> ?_)))))))
 · rw [if_neg (by rw [decide_eq_false (show ¬r.tt<=(p.length:Int) by omega)];simp)] at hs;refine Qk 11 J (Qz (hK _ _ (Qq (Xk J (Qi (Qq ?_))))));clear hK K;refine Qx (Qw (iadd (by omega) (by omega)) J J J J ?_);refine Qv J J J (Qz (Q5 ?_));refine Xv 1 (Xv 0 (Q6 (i+1,m2) (by dsimp only;omega) ⟨by dsimp only;omega,hm2⟩ (by dsimp only;rw [hs];exact QX J ⟨rfl,rfl,rfl,rfl,rfl,by simp only [Int.natCast_add];rfl,trivial⟩)))
 rw [decide_eq_true (show r.tt<=(p.length:Int) by omega),Bool.true_and] at hs
 have e6:(r.tt - 1).toNat=r.tt.toNat - 1:=by omega
 refine Qv J J J (QY J J J fS7 J (QY J J J fS11 J (Zl J J fN0 J (QZ J J J J J lInt J (Qw (isub (by omega) (by omega)) J J J J ?_)))))
 refine Ql J J J sAdrs (by omega) (adrs_at (by omega) (by omega)) J ?_
 rw [e6];skip;refine Xj J J J lAddr J (QZ J J J J J lAddr J (Qw ineq J J J J (Z1 J J J J (Qz (hK _ _ (Qq ?_))))));clear hK K;refine Q1 J (fun g4=> ?_) (fun g4=> ?_)
 · have g4:¬p.getD (r.tt.toNat - 1) 0=r.fr:=fun h=>g4 (by rw [h])
   rw [if_neg (by rw [decide_eq_false g4];simp)] at hs;refine Qi (Qq (Qx ?_))
   refine Qw (iadd (by omega) (by omega)) J J J J ?_
   refine Qv J J J (Qz (Q5 ?_));refine Xv 1 (Xv 0 (Q6 (i+1,m2) (by dsimp only;omega) ⟨by dsimp only;omega,hm2⟩ (by dsimp only;rw [hs];exact QX J ⟨rfl,rfl,rfl,rfl,rfl,by simp only [Int.natCast_add];rfl,trivial⟩)))
 have g4:p.getD (r.tt.toNat - 1) 0=r.fr:=_root_.Fin.ext (by have:=Decidable.not_not.1 g4;omega);rw [decide_eq_true g4,Bool.true_and] at hs;refine QU (Qq (Qj (Qx ?_)));refine Qv J J J (QY J J J fS7 J (QZ J J J J J lInt J (Ops.cutHi J J J sAdrs (by omega) (by rw [List.length_map];omega) J ?_)));rw [<- List.map_take];have hw:=wires_ok (p.take r.tt.toNat) (by rw [List.length_take];omega);generalize wsO (p.take r.tt.toNat)=wo at hs hw hFr;obtain ⟨ws,wb⟩:=wo;dsimp only at hs hw hFr;refine QJ gowires hw J J J J (Qv J J J (QV J J J J (QV J J J J (Qk 2 J (Qz (Qq (Qj ?_)))))));refine Qx (Qv J J J (Qz (Qq ?_)));refine Xa J (fun g5=> ?_) (fun g5=> ?_)
 · rw [if_pos g5] at hs;refine Qx (Qv J J J (Qa (n:=17) J J J J J lRes J (Qv J J J (Qm J bMe J (.agg J J J J (.one J J J J .nil)) J (Za (n:=18) J J sMes J J (by decide) J ?_)))))
   refine Qo (q.map mf).length (mes (q.map mf++ [(r,ws)])) J J J J sMes (mes_len _) J (by rw [List.length_map];omega) (by rw [List.length_map];omega) (mes_snoc _ _) J ?_
   refine Qy J J J (Qz (Qq ?_));refine Qx (Qw (iadd (by omega) (by omega)) J J J J ?_);refine Qv J J J (Qz (Q5 ?_));refine Xv 1 (Xv 0 (Q6 (i+1,m2) (by dsimp only;omega) ⟨by dsimp only;omega,hm2⟩ (by dsimp only;rw [hs,List.map_append,List.map_singleton,hFr];exact QX J ⟨rfl,rfl,rfl,rfl,rfl,by simp only [Int.natCast_add];rfl,trivial⟩)))
 · rw [if_neg (by rw [g5];decide)] at hs;refine QU (Qq (Qx ?_))
   refine Qw (iadd (by omega) (by omega)) J J J J ?_
   refine Qv J J J (Qz (Q5 ?_));refine Xv 1 (Xv 0 (Q6 (i+1,m2) (by dsimp only;omega) ⟨by dsimp only;omega,hm2⟩ (by dsimp only;rw [hs];exact QX J ⟨rfl,rfl,rfl,rfl,rfl,by simp only [Int.natCast_add];rfl,trivial⟩)))
theorem IndexFunc_res(xs:List Rs)(f:FuncId)(p:Rs ->Bool)(hgo:InGo prog f)(hf:∀x∈xs,Ok prog f [rsC x] (boolC (p x)))(hl:xs.length<4611686018427387904):Ok prog 100 [rssC xs,(.ex (.func (.func f) #[] #[]))] (intC (idxI p xs)):=by
 refine Ok.enter func100 J _ ntmps100 J ?_
 intro S w;refine Qj (Qx ?_);refine Qy J J J (Qz (Qq (Qj (Qj ?_))));refine Qx (Qv J J J (Q9 J J sRes.und (List.length_map ..) J (Qv J J J (Qz (Qq (Q2 ?_))))))
 refine Qn (α:=Nat) (fun i=>i<=xs.length/\ ∀j,j<i ->p (xs.getD j rs0)=false)
  (fun i=>[(0, .ct (rssC xs)),(1, .ct (.ex (.func (.func f) #[] #[]))),(7, .ct (intC xs.length)),(8, .ct (intC i))]) (fun _=>[]) (fun i=>xs.length - i) 0 ⟨Nat.zero_le _,fun j h=>absurd h (Nat.not_lt_zero j)⟩ (by exact QX J ⟨rfl,rfl,rfl,rfl,trivial⟩) ?_
 intro i ⟨hi,hv⟩;dsimp only;refine Qj (Qx ?_);refine Qw ilss J J J J (Qz (Qq (Qj ?_)));refine Q1 J (fun h=> ?_) (fun h=> ?_)
 · have e2:(i:Int).toNat=i:=Int.toNat_natCast i;refine QU (Qq (Qj (Q2 (Qj (Qx ?_)))));refine Qk 2 J (Qz (Qq (Qj ?_)));refine Qx (Qk 3 J (Ql J J J sRes (by omega) (rss_at (by omega) (by omega)) J ?_))
   refine Xe (n:=17) J J J lRes J J ?_
   try rw [e2]
   skip
   refine Y9 hgo J (hf _ (Zc (by omega))) J J J J ?_
   refine Qz (Qq ?_);refine Xa J (fun h2=> ?_) (fun h2=> ?_)
   · refine Qj (Qx ?_);refine Qk 2 J (Qz (Qq (Q0 (Q8 (QW (QW (Q8 (QW ?_))))))));refine QK [_] rfl (Qu J QQ) (by rw [idxI_hit (by omega) h2 hv];rfl) J
   · refine QU (Qq (Qx ?_))
     refine Qw (iadd (by omega) (by omega)) J J J J ?_
     refine Qv J J J (Qz (Q5 ?_));refine Q6 (i+1) (by omega) ⟨by omega,?_⟩ (by exact QX J ⟨rfl,rfl,rfl,by simp only [Int.natCast_add];rfl,trivial⟩);intro j hj;rcases Nat.lt_or_ge j i with h3|h3
     · exact hv j h3
     · have:j=i:=by omega
       rw [this];exact h2
 · have hi' :i=xs.length:=by omega
   refine Qi (Qq (Qj (Qx ?_)));refine Qy J J J (Qz (Qq (Q0 ?_)));refine QK [_] rfl (Qu J QQ) (by rw [idxI_miss (fun j hj=>hv j (by omega))];rfl) J
theorem goIndexFunc_res:InGo prog 100:=InGo.of func100 (by kernel_rfl) (by kernel_rfl)
theorem ContainsFunc_res(xs:List Rs)(f:FuncId)(p:Rs ->Bool)(hgo:InGo prog f)(hf:∀x∈xs,Ok prog f [rsC x] (boolC (p x)))(hl:xs.length<4611686018427387904):Ok prog 56 [rssC xs,(.ex (.func (.func f) #[] #[]))] (boolC (xs.any p)):=by
 refine Ok.enter func56 J _ ntmps56 J ?_
 intro S w;refine Qj (Qx ?_);refine Qy J J J (Qz (Qq (Qj ?_)));refine Qx (Qk 2 J (QJ goIndexFunc_res (IndexFunc_res xs f p hgo hf hl) J J J J (Qw igeq J J J J (Qy J J J (Qz (Qq (Q0 ?_)))))));refine QK [_] rfl (Qu J QQ) (by rw [<- idxI_any];rfl) J
theorem goContainsFunc_res:InGo prog 56:=InGo.of func56 (by kernel_rfl) (by kernel_rfl)
end Go.Proofs.YtojkdfilabmafaaGreat
namespace Go.Proofs.YtojkdfilabmafaaGreat
open Go.Own Go.Limbs Go.Proofs.Tryz
attribute [local irreducible] St Ops Go.Own.Fin Ok OkB OkN OkT OkL OkF
theorem goClash:InGo prog 167:=InGo.of func167 rfl (by decide)
theorem drop_getD{α:Type}{l:List α}{z:α}{i:Nat}(h:i<l.length):l.drop i=l.getD i z::l.drop (i+1):=by
 rw [List.drop_eq_getElem_cons h,List.getD_eq_getElem?_getD,List.getElem?_eq_getElem h];rfl
theorem Clash_ok(l:List Rs)(hl:l.length<=100000):Ok prog 167 [rssC l] (intC (clashG [] l)):=by
 refine Ok.enter func167 J _ ntmps167 J ?_
 intro S w;refine Qj (Qx ?_);refine Qy J J J (Qz (Qq (Qj ?_)));refine Qx (Ops.mkMap 8 J J J J J (fun v1 hv1=> ?_));refine Qy J J J (Qz (Qq (Qj (Qj ?_))));refine Qx (Qv J J J (Q9 J J sRes.und (List.length_map ..) J (Qv J J J (Qz (Qq (Q2 ?_))))))
 refine Qn (α:=Nat × SeenM) (fun q=>q.1<=l.length/\ clashG [] l=q.1+clashG q.2 (l.drop q.1))
  (fun q=>[(3, .ct (.ex v1)),(0, .ct (rssC l)),(11, .ct (rssC l)),(12, .ct (intC l.length)),(13, .ct (intC q.1))]) (fun q=>[(8, .mpx v1 (kvs esE adrF q.2))]) (fun q=>l.length - q.1) (0,[]) ⟨Nat.zero_le _,(Nat.zero_add _).symm⟩ (by exact QX J ⟨rfl,rfl,rfl,rfl,rfl,trivial⟩) ?_
 rintro ⟨i,m⟩ ⟨hi,hq⟩
 try dsimp only at hi hq ⊢
 refine Qj (Qx ?_);refine Qw ilss J J J J (Qz (Qq (Qj ?_)));refine Q1 J (fun h=> ?_) (fun h=> ?_)
 · have e2:(i:Int).toNat=i:=Int.toNat_natCast i;rw [drop_getD (z:=rs0) (show i<l.length by omega)] at hq;refine QU (Qq (Qj (Q2 (Qj (Qx ?_)))));refine Qv J J J (Ql J J J sRes (by omega) (rss_at (by omega) (by omega)) J ?_);refine Xe (n:=17) J J J lRes J J (Qb 0 J J zvRes J J J (Qy J J J (Q7 17 J J J J J szRes J J (Qz (Qq (Qj ?_))))));refine Qx (Qa (n:=17) J J J J J lRes J ?_);rw [e2];generalize l.getD i rs0=c at hq ⊢;have hP:=Place_ok c;simp only [clashG] at hq;generalize plS c=sc at hP hq;generalize plB c=pc at hP hq;skip;refine QJ goPlace hP J J J J (Qv J J J (QV J J J J (QV J J J J (Qb 3 J J zvES J J J (Q7 5 J J J J J szES J J (Qy J J J (Qz (Qq (Qj (Qj ?_))))))))));refine Qx (Qv J J J (Qr J J J (Qz (Qq ?_))));refine Xa J (fun h1=> ?_) (fun h1=> ?_)
   · have h1' :pc=false:=by simpa using h1
     rw [if_pos h1'] at hq;refine Qi (Qq (Qx ?_))
     refine Qw (iadd (by omega) (by omega)) J J J J ?_
     refine Qv J J J (Qz (Q5 ?_));refine Xv 3 (Xv 0 (Q6 (i+1,m) (by dsimp only;omega) ⟨by dsimp only;omega,by dsimp only;omega⟩ (by exact QX J ⟨rfl,rfl,rfl,rfl,by simp only [Int.natCast_add];rfl,trivial⟩)))
   · have h1' :pc=true:=by simpa using h1
     rw [if_neg (by rw [h1'];decide)] at hq;refine QU (Qq (Qj (Qj (Qx ?_))));refine Qv J J J (Qa (n:=5) J J J J J lES J (Ops.lookM2 (i:=8) (cv:=adrF) (enc:=esE) 0 sc J J J J (KeyIs.agg (us:=esV sc) J) uMSeen z0Adr (fun _ _=>rfl) keyES J ?_));generalize (look1 m sc).isSome=b at hq ⊢;generalize (look1 m sc).getD 0=a at hq ⊢;refine Qv J J J (QV J J J J (QV J J J J (Qk 2 J (Qz (Qq (Qj ?_))))));refine Qx (Qk 2 J (Xc 32 (b:=b) J (fun h2=> ?_) (fun h2=> ?_)))
     · refine Qv J J J (QY J J J fS11 J (Zl J J fN0 J (QZ J J J J J lAddr J (Qw ineq J J J J (Zx J J J J (Qz (Qq ?_)))))));refine Q1 J (fun h3=> ?_) (fun h3=> ?_)
       · rw [if_pos ⟨h2,fun h=>h3 (by rw [h])⟩] at hq;refine Qj (Qx ?_);refine Qk 2 J (Qz (Qq (Q0 (QW (Q8 (QW (QW (Q8 (QW ?_)))))))));refine QK [_] rfl (Qu J QQ) (by rw [hq];rfl) J
       · rw [if_neg (fun h=>h.2 (Fin.ext (by omega)))] at hq;refine QU (Qq (Qx ?_));refine Qv J J J (Qa (n:=5) J J J J J lES J (QY J J J fS11 J (Zl J J fN0 J (QZ J J J J J lAddr J (XJ (i:=8) (enc:=esE) (cv:=adrF) sc c.fr J J J (KeyIs.agg (us:=esV sc) J) J uMSeen keyES (Qz (Qq ?_)))))));refine Qx (Qw (iadd (by omega) (by omega)) J J J J ?_);refine Qv J J J (Qz (Q5 ?_));refine Xv 3 (Xv 0 (Q6 (i+1,ins m sc c.fr) (by dsimp only;omega) ⟨by dsimp only;omega,by dsimp only;omega⟩ (by exact QX J ⟨rfl,rfl,rfl,rfl,by simp only [Int.natCast_add];rfl,trivial⟩)))
     · rw [if_neg (fun h=>by rw [h2] at h;cases h.1)] at hq;refine Qk 6 J (Qz (Qq (Qt J (QU (Qq ?_)))));refine Qx (Qv J J J (Qa (n:=5) J J J J J lES J (QY J J J fS11 J (Zl J J fN0 J (QZ J J J J J lAddr J (XJ (i:=8) (enc:=esE) (cv:=adrF) sc c.fr J J J (KeyIs.agg (us:=esV sc) J) J uMSeen keyES (Qz (Qq ?_))))))));refine Qx (Qw (iadd (by omega) (by omega)) J J J J ?_);refine Qv J J J (Qz (Q5 ?_));refine Xv 3 (Xv 0 (Q6 (i+1,ins m sc c.fr) (by dsimp only;omega) ⟨by dsimp only;omega,by dsimp only;omega⟩ (by exact QX J ⟨rfl,rfl,rfl,rfl,by simp only [Int.natCast_add];rfl,trivial⟩)))
 · have hi' :i=l.length:=by omega
   rw [hi',List.drop_length] at hq;simp only [clashG,Nat.add_zero] at hq;refine Qi (Qq (Qj (Qx ?_)));refine Qv J J J (Q9 J J sRes.und (List.length_map ..) J (Qy J J J (Qz (Qq (Q0 ?_)))));refine QK [_] rfl (Qu J QQ) (by rw [hq];rfl) J
theorem witG_loop{p:Rs ->Bool}{z:Rs}:∀(l:List Rs) (i:Nat),(∀j,j<i ->j<l.length ->p (l.getD j z)=false) ->i<=l.length ->l.findIdx? p=((l.drop i).findIdx? p).map (· +i)
 | [],i,_,h=>by
  have:i=0:=by simpa using h
  subst this;rfl
 |a::l,0,_,_=>by simp
 |a::l,i+1,h,hi=>by
  have h0:p a=false:=h 0 (Nat.succ_pos _) (Nat.succ_pos _)
  have ih:=witG_loop l i (fun j h1 h2=>h (j+1) (by omega) (by simpa using h2)) (by simpa using hi)
  rw [List.findIdx?_cons,h0,ih]
  simp only [List.drop_succ_cons,Bool.false_eq_true,if_false,Option.map_map,Function.comp_def]
  rfl
abbrev witC (o : List Rs) : List CT := match witG o with
  | some i => [ikC (idOf (o.getD i rs0)), ikC (idOf (o.getD (clashG [] o) rs0)), boolC true]
  | none => [ikC ⟨0, 0, 0⟩, ikC ⟨0, 0, 0⟩, boolC false]
theorem goWitness:InGo prog 105:=InGo.of func105 rfl (by decide)
theorem take_getD{l:List Rs}{z:Rs}{k i:Nat}(h:i<k):(l.take k).getD i z=l.getD i z:=by
 rw [List.getD_eq_getElem?_getD,List.getElem?_take_of_lt h,<- List.getD_eq_getElem?_getD]
theorem fidx_drop{p:Rs ->Bool}{z:Rs}{l:List Rs}{k i:Nat}(hk:k<=l.length)(hi:i<=k)(h:∀j,j<i ->p (l.getD j z)=false):(l.take k).findIdx? p=(((l.take k).drop i).findIdx? p).map (· +i):=by
 refine witG_loop (z:=z) (l.take k) i (fun j h1 h2=> ?_) (by rw [List.length_take];omega);rw [List.getD_eq_getElem?_getD,List.getElem?_take_of_lt (by rw [List.length_take] at h2;omega),<- List.getD_eq_getElem?_getD];exact h j h1
theorem Witness_ok(l:List Rs)(hl:l.length<=10000):Ok prog 105 [rssC l] (.fr (tupT (witC (sd cmpR (l.filter okR))))):=by
 have hO:=Order_ok l hl
 have hol:(sd cmpR (l.filter okR)).length<=10000:=by
  have:=sd_len cmpR (l.filter okR);have:=List.length_filter_le okR l;omega
 generalize sd cmpR (l.filter okR)=o at hO hol ⊢;have hC:=Clash_ok o (by omega);have hle:=clashG_le o []
 have ew:witG o=if clashG [] o<o.length then (o.take (clashG [] o)).findIdx? (fun a=>conB a (o.getD (clashG [] o) rs0)) else none:=rfl
 have eC:(CT.fr (tupT (witC o)))= .fr (tupT (match witG o with
  |some i=>[ikC (idOf (o.getD i rs0)),ikC (idOf (o.getD (clashG [] o) rs0)),boolC true]
  |none=>[ikC ⟨0,0,0⟩,ikC ⟨0,0,0⟩,boolC false])):=rfl
 rw [eC];clear eC;generalize clashG [] o=k at hC hle ew ⊢;generalize witG o=wt at ew ⊢
 refine Ok.enter func105 J _ ntmps105 J ?_
 intro S w;refine Qj (Qx ?_);refine Qb 0 J J zvID J J J (Qb 1 J J zvID J J J (Qy J J J (Qz (Qq (Qj ?_)))));refine Qx (Qv J J J (Yw 3 goOrder hO J J J J J J (Zk 3 _ J (rss_frozen _ _) noBor_sub (Qy J J J (Qz (Qq (Qj ?_)))))));refine Qx (Qv J J J (QJ goClash hC J J J J (Qy J J J (Qz (Qq (Qj (Qj ?_)))))));refine Qx (Qy J J J (Qz (Qq (Q2 ?_))))
 refine Qn (α:=Nat) (fun i=>i<=k/\ (k<o.length ->∀j,j<i ->conB (o.getD j rs0) (o.getD k rs0)=false))
  (fun i=>[(2, .own 0),(3, .own 1),(5, .ct (rssC o)),(6, .ct (intC k)),(7, .ct (intC i))]) (fun _=>[(1, .box 82 (ikCs ⟨0,0,0⟩)),(0, .box 82 (ikCs ⟨0,0,0⟩))]) (fun i=>k - i) 0 ⟨Nat.zero_le _,fun _ j hj=>by omega⟩ (by exact QX J ⟨rfl,rfl,rfl,rfl,rfl,trivial⟩) ?_
 intro i ⟨hi,hq⟩
 try dsimp only
 refine Qj (Qj (Qx ?_));refine Qk 2 J (Qw ilss J J J J (Qv J J J (Qe 15 (p:=(i:Int)<k) J (fun h=> ?_) (fun h=> ?_))))
 · refine Qk 2 J (Q9 J J sRes.und (List.length_map ..) J (Qw ilss J J J J (Zx J J J J (Qz (Qq ?_)))));refine Q1 J (fun h2=> ?_) (fun h2=> ?_)
   · have hk:k<o.length:=by omega
     rw [if_pos hk,fidx_drop (i:=i) hle hi (hq hk)] at ew;have e1:(i:Int).toNat=i:=Int.toNat_natCast i;have e2:(k:Int).toNat=k:=Int.toNat_natCast k;rw [drop_getD (z:=rs0) (show i<(o.take k).length by rw [List.length_take];omega),take_getD (by omega),List.findIdx?_cons] at ew;have hCo:=Contradict_ok (o.getD i rs0) (o.getD k rs0)
     have hn:conB (o.getD i rs0) (o.getD k rs0)=false ->∀j,j<i+1 ->conB (o.getD j rs0) (o.getD k rs0)=false:=fun h j hj=>by
      rcases Nat.lt_or_ge j i with h3|h3
      · exact hq hk j h3
      · have:j=i:=by omega
        rw [this];exact h
     generalize conB (o.getD i rs0) (o.getD k rs0)=cb at hCo hn ew;have hA:=Identity_ok (o.getD i rs0);have hB:=Identity_ok (o.getD k rs0);refine QU (Qq (Qj (Q2 (Qj ?_))));refine Xy mixed 9 (.p 0 (.p 1 (.p 2 (.p 4 (.p 5 (.p 6 (.f 3 (.f 7 (.m 8 .done))))))))) (by kernel_rfl) (fun K hK=> ?_);refine Qk 2 J (Ql J J J sRes (by omega) (rss_at (by omega) (by omega)) J ?_);refine Qk 2 J (Ql J J J sRes (by omega) (rss_at (by omega) (by omega)) J ?_);refine Xe (n:=17) J J J lRes J J (Xe (n:=17) J J J lRes J J ?_);rw [e1,e2];skip;refine QJ goContradict hCo J J J J (Qz (hK _ _ (Qq ?_)));clear hK K;refine Xa J (fun h3=> ?_) (fun h3=> ?_)
     · rw [if_pos h3] at ew;simp only [Option.map_some,Nat.zero_add] at ew;refine Qj (Xy mixed 10 (.p 0 (.p 1 (.p 2 (.p 5 (.p 6 (.p 7 (.f 3 (.fork 4 (.m 8 (.m 9 (.a 10 (.a 11 (.p 12 .done))))) 8 (.m 4 (.m 9 (.a 10 (.a 11 (.p 12 .done))))))))))))) (by kernel_rfl) (fun K hK=> ?_));refine Qk 2 J (Ql J J J sRes (by omega) (rss_at (by omega) (by omega)) J ?_);refine Qk 2 J (Ql J J J sRes (by omega) (rss_at (by omega) (by omega)) J ?_)
       refine Xe (n:=17) J J J lRes J J ?_
       rw [e1];skip
       refine Ops.fork ?_ ?_
       · refine QJ goIdentity hA J J J J (Xe (n:=17) J J J lRes J J ?_);rw [e2];skip
         refine QJ goIdentity hB J J J J ?_
         skip;refine Q7 3 J J J J J szID J J (Q7 3 J J J J J szID J J (Qy J J J (Qz (hK _ _ (Qq (Q0 (Q8 (QW (QW (Q8 (QW ?_)))))))))));clear hK K;refine QK [_,_,_] rfl (Qd (n:=3) J J lID J (Qd (n:=3) J J lID J (Qu J QQ))) (by rw [ew];rfl) J
       · refine Xe (n:=17) J J J lRes J J ?_
         rw [e2];skip
         refine QJ goIdentity hA J J J J ?_
         skip
         refine QJ goIdentity hB J J J J ?_
         skip;refine Q7 3 J J J J J szID J J (Q7 3 J J J J J szID J J (Qy J J J (Qz (hK _ _ (Qq (Q0 (Q8 (QW (QW (Q8 (QW ?_)))))))))));clear hK K;refine QK [_,_,_] rfl (Qd (n:=3) J J lID J (Qd (n:=3) J J lID J (Qu J QQ))) (by rw [ew];rfl) J
     · refine QU (Qq (Qx ?_));refine Qv J J J (Qw (iadd (by omega) (by omega)) J J J J ?_);refine Qy J J J (Qz (Q5 ?_));refine Q6 (i+1) (by omega) ⟨by omega,fun _=>hn h3⟩ (by exact QX J ⟨rfl,rfl,rfl,rfl,by simp only [Int.natCast_add];rfl,trivial⟩)
   · rw [if_neg (by omega)] at ew;refine Qi (Qq (Qj (Qx ?_)));refine Qm J bID' J .nil J (Qm J bID' J .nil J (Q7 3 J J J J J szID J J (Q7 3 J J J J J szID J J (Qy J J J (Qz (Qq (Q0 ?_)))))));refine QK [_,_,_] rfl (Qd (n:=3) J J lID J (Qd (n:=3) J J lID J (Qu J QQ))) (by rw [ew];rfl) J
 · have ew:wt=none:=by
    rw [ew];split
    · rename_i hk
      rw [fidx_drop (i:=i) hle hi (hq hk),show i=k by omega,List.drop_of_length_le (by rw [List.length_take];omega)];rfl
    · rfl
   refine Qk 5 J (Qz (Qq (Qt J (Qi (Qq (Qj ?_))))));refine Qx (Qm J bID' J .nil J (Qm J bID' J .nil J (Q7 3 J J J J J szID J J (Q7 3 J J J J J szID J J (Qy J J J (Qz (Qq (Q0 ?_))))))));refine QK [_,_,_] rfl (Qd (n:=3) J J lID J (Qd (n:=3) J J lID J (Qu J QQ))) (by rw [ew];rfl) J
theorem goConsistent:InGo prog 60:=InGo.of func60 rfl (by decide)
def consB (l : List Rs) : Bool := (witG (sd cmpR (l.filter okR))).isNone
theorem Consistent_ok(l:List Rs)(hl:l.length<=10000):Ok prog 60 [rssC l] (boolC (consB l)):=by
 have hW:=Witness_ok l hl;have e0:consB l=(witG (sd cmpR (l.filter okR))).isNone:=rfl
 have hw:∃i j:Ik,witC (sd cmpR (l.filter okR))=[ikC i,ikC j,boolC (!consB l)]:=by
  rw [e0];unfold witC
  cases witG (sd cmpR (l.filter okR)) <;>exact ⟨_,_,rfl⟩
 obtain ⟨a,b,hw⟩:=hw;rw [hw] at hW;generalize consB l=c at hW ⊢
 refine Ok.enter func60 J _ ntmps60 J ?_
 intro S w;refine Qj (Qx ?_);refine Qy J J J (Qz (Qq (Qj ?_)));refine Qx (Qv J J J (QJ goWitness hW J J J J (Qv J J J (QV J J J J (QV J J J J (QV J J J J (Qb 0 J J zvID J J J (Qb 1 J J zvID J J J (Q7 3 J J J J J szID J J (Q7 3 J J J J J szID J J (Qy J J J (Qz (Qq (Qj ?_))))))))))))));refine Qx (Qv J J J (Qr J J J (Qy J J J (Qz (Qq (Q0 ?_))))));refine QK [_] rfl (Qu J QQ) (by rw [Bool.not_not];rfl) J
end Go.Proofs.YtojkdfilabmafaaGreat
namespace Go.Proofs.YtojkdfilabmafaaGreat
open Go.Own Go.Limbs Go.Proofs.Tryz
def chkF (l : List Rs) : Int := if (l.any fun r => !okR r) = true then 1 else if 512 < ((sd cmpR (l.filter okR)).length : Int) then 5 else if consB l = true then 0 else 30
def crsF (l : List Rs) (w : Wr) (b : Bool) : List Rs := (sd cmpR (l.filter okR)).filter fun r => decide (w ∈ wayF l r) && (r.an == b)
structure Cn where
  wr : Wr
  se : Int
  lo : Int
  hi : Int
deriving DecidableEq
def cn0 : Cn := ⟨(0, 0), 0, 0, 0⟩
def cntF (l : List Rs) (w : Wr) (b : Int) : Cn × Int :=
  if b < 0 ∨ 1048576 < b then (cn0, 1)
  else if chkF l ≠ 0 then (cn0, chkF l)
  else if (crsF l w true).length + (crsF l w false).length = 0 then (cn0, 8)
  else (⟨w, ((crsF l w true).length : Int) + (crsF l w false).length, max 0 ((crsF l w false).length - b), (crsF l w false).length⟩, 0)
def adN (t : Int) : Fin 4294967296 := ⟨t.toNat % 4294967296, Nat.mod_lt _ (by decide)⟩
theorem adN_val{t:Int}(h:0<=t)(h2:t<4294967296):((adN t).val:Int)=t:=by unfold adN;simp only;omega
def chF : Nat → Int → List (Fin 4294967296)
  | 0, _ => []
  | c + 1, t => adN t :: chF c (t + 1)
structure Chain (n : Nat) (t0 : Tk) (l : List Rs) : Prop where
  up : Up cmpR l
  ok : ∀ r ∈ l, okR r = true ∧ r.db = false ∧ r.fl = 0 ∧ trOf r = t0 ∧ 1 ≤ r.tt ∧ r.tt ≤ n ∧ (r.an = true → r.ki = 1 ∧ r.fr = adN r.tt)
  all : ∀ t : Int, 1 ≤ t → t ≤ n → ∃ r ∈ l, r.an = true ∧ r.tt = t
variable {n : Nat} {t0 : Tk} {l : List Rs}
theorem endF_zero:∀(l:List Rs) (e:Int),(∀r∈l,fiR r=false) ->l.foldl endS e=e
 | [],_,_=>rfl
 |r::l,e,h=>by
  have h1:endS e r=e:=by unfold endS;rw [if_neg (by rw [h r (List.mem_cons_self ..)];simp)]
  rw [List.foldl_cons,h1]
  exact endF_zero l e fun x hx=>h x (List.mem_cons_of_mem _ hx)
abbrev stV (m : AdM × StM) (t : Int) : Int := (look1 m.2 (0, t)).getD 0
def invM (m : AdM × StM) : Prop := ∀ t : Int, stV m t ≤ 1 ∨ (stV m t = 2 ∧ look1 m.1 (0, t) = some (adN t))
theorem look_chain:∀(q:List Rs) (m:AdM × StM),(∀r∈q,usR r=true/\ r.fl=0/\ (r.an=true ->r.fr=adN r.tt)) ->invM m ->
  invM (q.foldl (lookS 0) m)/\ ∀t,(stV m t=2 \/∃r∈q,r.an=true/\ r.tt=t) ->stV (q.foldl (lookS 0) m) t=2
 | [],m,_,hm=>⟨hm,fun t h=>h.elim id fun ⟨_,h,_⟩=>by cases h⟩
 |r::q,m,hq,hm=>by
  obtain ⟨h1,h2,h3⟩:=hq r (List.mem_cons_self ..)
  have key:invM (lookS 0 m r)/\ ∀t,(stV m t=2 \/(r.an=true/\ r.tt=t)) ->stV (lookS 0 m r) t=2:=by
   unfold lookS;rw [if_neg (by rw [h1];simp),h2]
   cases ha:r.an with
   |false=>
    rw [if_pos J];refine ⟨fun t=> ?_,fun t h=> ?_⟩
    · simp only [stV,look1_ins];have:=hm t;by_cases e:t=r.tt
      · subst e;rw [if_pos J];simp only [Option.getD_some];unfold stV at this;rcases this with h|⟨h,h'⟩
        · left;omega
        · right;exact ⟨by omega,h'⟩
      · rw [if_neg (by intro h;injection h with _ h;exact e h)];exact this
    · simp only [stV,look1_ins];rcases h with h|⟨h,_⟩
      · by_cases e:t=r.tt
        · subst e;rw [if_pos J];simp only [Option.getD_some];unfold stV at h;omega
        · rw [if_neg (by intro h;injection h with _ h;exact e h)];exact h
      · cases h
   |true=>
    rw [if_neg (by decide)];have h4:=h3 ha;have hr:=hm r.tt;unfold stV at hr;by_cases hs:(look1 m.2 (0,r.tt)).getD 0<=1
    · rw [if_pos hs];refine ⟨fun t=> ?_,fun t h=> ?_⟩
      · simp only [stV,look1_ins];by_cases e:t=r.tt
        · subst e;rw [if_pos J,if_pos J,h4];right;exact ⟨rfl,rfl⟩
        · rw [if_neg (by intro h;injection h with _ h;exact e h),if_neg (by intro h;injection h with _ h;exact e h)];exact hm t
      · simp only [stV,look1_ins];by_cases e:t=r.tt
        · subst e;rw [if_pos rfl];rfl
        · rw [if_neg (by intro h;injection h with _ h;exact e h)];rcases h with h|⟨_,h⟩
          · exact h
          · exact absurd h.symm e
    · rw [if_neg hs];rcases hr with hr|⟨hr,hr'⟩
      · exact absurd hr hs
      · rw [if_neg (by rw [hr',h4];simp)];refine ⟨hm,fun t h=> ?_⟩;rcases h with h|⟨_,h⟩
        · exact h
        · subst h;exact hr
  obtain ⟨k1,k2⟩:=key;obtain ⟨i1,i2⟩:=look_chain q (lookS 0 m r) (fun x hx=>hq x (List.mem_cons_of_mem _ hx)) k1;refine ⟨i1,fun t h=>i2 t ?_⟩;rcases h with h|⟨x,hx,h⟩
  · exact .inl (k2 t (.inl h))
  · rcases List.mem_cons.1 hx with rfl|hx
    · exact .inl (k2 t (.inr h))
    · exact .inr ⟨x,hx,h⟩
theorem Chain.us(h:Chain n t0 l){r:Rs}(hr:r∈l):usR r=true:=by
 obtain ⟨h1,h2,_⟩:=h.ok r hr;unfold usR;rw [h1,h2];rfl
theorem Chain.fi(h:Chain n t0 l):∀r∈l,fiR r=false:=fun r hr=>by
 obtain ⟨_,_,_,_,_,_,h3⟩:=h.ok r hr
 unfold fiR
 cases ha:r.an with
 |false=>rfl
 |true=>rw [(h3 ha).1];rfl
theorem Chain.look(h:Chain n t0 l):lookG l=l.foldl (lookS 0) ([],[]):=by
 have h1:endF l=0:=endF_zero l 0 h.fi;unfold lookG;rw [h1]
theorem pathG_chain{m:AdM × StM}(h1:∀t:Int,1<=t ->t<=n ->stV m t=2/\ look1 m.1 (0,t)=some (adN t))(h2:hasS m.2 0 (n+1)=false):
  ∀(c k:Nat) (t:Int),1<=t ->t+c=n+1 ->c<k ->pathG m 0 k t=chF c t
 |0,k+1,t,_,he,_=>by
  unfold pathG
  have:t=(n:Int)+1:=by omega
  rw [this,h2];rfl
 |c+1,k+1,t,ht,he,hk=>by
  obtain ⟨a1,a2⟩:=h1 t ht (by omega)
  have:hasS m.2 0 t=true:=by unfold hasS;unfold stV at a1;rw [a1];rfl
  unfold pathG chF
  rw [if_pos this,a2,pathG_chain h1 h2 c k (t+1) (by omega) (by omega) (by omega)]
  rfl
 |_,0,_,_,_,h=>by omega
theorem Chain.path(h:Chain n t0 l)(hn:n<256):pathF l 0=chF n 1:=by
 unfold pathF;obtain ⟨i1,i2⟩:=look_chain l ([],[]) (fun r hr=>⟨h.us hr,(h.ok r hr).2.2.1,fun ha=>((h.ok r hr).2.2.2.2.2.2 ha).2⟩) (fun t=> .inl (by show (0:Int)<=1;decide));rw [<- h.look] at i1 i2
 refine pathG_chain (n:=n) (fun t h1 h2=> ?_) ?_ n 256 1 (by decide) (by omega) hn
 · have e:=i2 t (.inr (h.all t h1 h2));refine ⟨e,?_⟩;rcases i1 t with h3|h3
   · rw [e] at h3;exact absurd h3 (by decide)
   · exact h3.2
 · cases hb:hasS (lookG l).2 0 (n+1) with
   |false=>rfl
   |true=>
    unfold hasS at hb
    cases e:look1 (lookG l).2 (0,(n:Int)+1) with
    |none=>rw [e] at hb;simp at hb
    |some v=>
     obtain ⟨_,r,hr,_,hs⟩:=lookG_keys l _ _ e
     injection hs with _ hs
     have:=(h.ok r hr).2.2.2.2.2.1;omega
theorem Chain.sd(h:Chain n t0 l):sd cmpR (l.filter okR)=l:=by
 have:l.filter okR=l:=List.filter_eq_self.2 fun r hr=>(h.ok r hr).1
 rw [this];exact sd_eq ordR h.up
def wk (k : Int) : Wr := (adN (k - 1), adN k)
theorem clash_chain:∀(q:List Rs) (m:SeenM),(∀r∈q,r.an=true ->r.fr=adN r.tt) ->(∀s v,look1 m s=some v ->v=adN s.2.2) ->clashG m q=q.length
 | [],_,_,_=>rfl
 |r::q,m,hq,hm=>by
  have ih:=fun m' =>clash_chain q m' fun x hx=>hq x (List.mem_cons_of_mem _ hx)
  unfold clashG
  rw [List.length_cons]
  by_cases hp:plB r=false
  · rw [if_pos hp,ih m hm]
  · rw [if_neg hp]
    have ha:r.an=true:=by
     unfold plB at hp
     cases h:r.an with
     |true=>rfl
     |false=>rw [h] at hp;exact absurd J hp
    have hr:=hq r (List.mem_cons_self ..) ha;rw [if_neg,ih]
    · intro s v hs;rw [look1_ins] at hs;split at hs
      · rename_i e;subst e;injection hs with hs;rw [<- hs];exact hr
      · exact hm s v hs
    · rintro ⟨h1,h2⟩
      obtain ⟨v,hv⟩:=Option.isSome_iff_exists.1 h1;rw [hv] at h2;exact h2 (by rw [hr];exact hm _ v hv)
theorem Chain.cons(h:Chain n t0 l):consB l=true:=by
 unfold consB witG;rw [h.sd,clash_chain l [] (fun r hr ha=>((h.ok r hr).2.2.2.2.2.2 ha).2) (fun _ _ h=>by cases h)];simp
theorem Chain.chk(h:Chain n t0 l)(hl:l.length<=512):chkF l=0:=by
 unfold chkF;rw [if_neg,h.sd,if_neg (by omega),if_pos h.cons];intro h';obtain ⟨r,hr,h1⟩:=List.any_eq_true.1 h';rw [(h.ok r hr).1] at h1;cases h1
def mkX (o k t w : Int) : Rs := ⟨0, 0, k, 10 * k, 9, 17, 0, t, decide (w = 0), false, 10 * k + o, if w = 0 then adN t else 0, if w = 0 then 1 else 0, 0, 0, 0, 0⟩
def xF (o : Int) : Int → List (Int × Int) → List Rs
  | _, [] => []
  | i, p :: d => mkX o i p.1 p.2 :: xF o (i + 1) d
theorem cmpL_lt{x y:Int}{xs ys:List Int}(h:x<y):cmpL (x::xs) (y::ys)<0:=by
 have h1:cmp3 x y= -1:=by unfold cmp3;rw [if_pos h]
 have h2:cmpL (x::xs) (y::ys)=if cmp3 x y≠0 then cmp3 x y else cmpL xs ys:=rfl
 rw [h2,if_pos (by rw [h1];decide),h1];decide
def x0T : Tk := ⟨0, 9, 17⟩
end Go.Proofs.YtojkdfilabmafaaGreat
namespace Go.Proofs.YtojkdfilabmafaaGreat
open Go.Own Go.Limbs Go.Shelf Go.Proofs.Tryz
open Go.Sort hiding Ok
attribute [local irreducible] St Ops Go.Own.Fin Ok OkB OkN OkT OkL OkF OkM
def wsA (l : List Me) : List Wr := l.flatMap fun x => x.2
def vrF (l : List Rs) : List Wr := sd cmpW (wsA (msF l))
def vrO (l : List Rs) : List Wr × Int := if ¬ chkF l = 0 then ([], chkF l) else if 16 < ((vrF l).length : Int) then ([], 5) else (vrF l, 0)
theorem me_wires(l:List Rs):∀x∈msF l,x.2.length<=256:=fun x hx=>by
 obtain ⟨r,hr,rfl⟩:=List.mem_map.1 hx
 show (wsO _).1.length<=256
 unfold wsO
 have hp:(paF l r).length<=256:=pathF_len _ _
 split
 · rw [wsG_len,List.length_take];omega
 · exact Nat.zero_le _
theorem wsA_len:∀(l:List Me),(∀x∈l,x.2.length<=256) ->(wsA l).length<=l.length*256
 | [],_=>Nat.le_refl _
 |x::l,h=>by
  have h1:=wsA_len l fun y hy=>h y (List.mem_cons_of_mem _ hy)
  have h2:=h x (List.mem_cons_self ..)
  have e:wsA (x::l)=x.2++wsA l:=by simp [wsA]
  rw [e,List.length_append,List.length_cons,Nat.succ_mul]
  omega
theorem lWrs1:Ld1 prog 25:=Ld1.of _ underlying25 rfl
theorem wrs_ones(l:List Wr):ones (wrs l)=true:=el_ones (fun _=>rfl) l
theorem goVar1:InGo prog 57:=InGo.of func57 rfl (by decide)
theorem Var1_ok(r:Rs):Ok prog 57 [rsC r] (boolC (!okR r)):=by
 refine Ok.enter func57 J _ ntmps57 J ?_
 intro S w;refine Qj (Qx ?_);refine Xx 0 J J J J J J J (Qy J J J (Qz (Qq (Qj ?_))));refine Qx (Qa (n:=17) J J J J J lRes J (QJ goValidR (ValidR_ok r) J J J J (Qr J J J (Qy J J J (Qz (Qq (Q0 ?_)))))));refine QK [_] rfl (Qu J QQ) J J
theorem goVariables:InGo prog 27:=InGo.of func27 rfl (by decide)
theorem Jq(l:List Rs)(hl:l.length<=10000):Ok prog 27 [rssC l] (.fr (tupT [wrsC (vrO l).1,intC (vrO l).2])):=by
 have hC:=ContainsFunc_res l _ (fun r=> !okR r) goVar1 (fun x _=>Var1_ok x) (by omega);have hO:=Order_ok l hl;have hN:=Consistent_ok l hl;have hM:=measures_ok l hl
 have e:vrO l=if ¬chkF l=0 then ([],chkF l) else if 16<((vrF l).length:Int) then ([],5) else (vrF l,0):=rfl
 have e1:chkF l=if (l.any fun r=> !okR r)=true then 1 else if 512<((sd cmpR (l.filter okR)).length:Int) then 5 else if consB l=true then 0 else 30:=rfl
 have e2:vrF l=dd ((wsA (msF l)).mergeSort fun x y=> !(ltOf cmpW) y x):=rfl
 have hol:(sd cmpR (l.filter okR)).length<=10000:=by
  have:=sd_len cmpR (l.filter okR);have:=List.length_filter_le okR l;omega
 have hml:(msF l).length<=10000:=by
  unfold msF;rw [List.length_map];exact Nat.le_trans (List.length_filter_le _ _) hol
 have hmw:=me_wires l;generalize vrO l=out at e ⊢;generalize vrF l=vr at e e2;generalize chkF l=c at e e1;generalize (l.any fun r=> !okR r)=b1 at hC e1;generalize sd cmpR (l.filter okR)=o at hO e1 hol;generalize consB l=b3 at hN e1;generalize msF l=ms at hM e2 hml hmw
 refine Ok.enter func27 J _ ntmps27 J ?_
 intro S w;refine Qj (Qx ?_);refine Qk 2 J (Qz (Qq (Qj (Q2 (Qj ?_)))));refine Qx (Qv J J J (QJ goContainsFunc_res hC J J J J (Qy J J J (Qz (Qq ?_)))));refine Xa J (fun h=> ?_) (fun h=> ?_)
 · rw [if_pos h] at e1;rw [if_pos (by rw [e1];decide),e1] at e;refine Qj (Qx ?_);refine Qk 2 J (Qz (Qq (Q0 (Q8 (QW ?_)))));refine QK [_,_] rfl (X1 Yv (Qu J (Qu J QQ))) (by rw [e];rfl) J
 rw [if_neg (by rw [h];decide)] at e1;refine Qj (Qx ?_);refine Qv J J J (Yw 3 goOrder hO J J J J J J (Zk 3 _ J (rss_frozen _ _) noBor_sub (Q9 J J sRes.und (List.length_map ..) J (Qw igtr J J J J (Qy J J J (Qz (Qq ?_)))))));refine Q1 J (fun h2=> ?_) (fun h2=> ?_)
 · rw [if_pos h2] at e1;rw [if_pos (by rw [e1];decide),e1] at e;refine Qj (Qx ?_);refine Qk 2 J (Qz (Qq (Q0 (Q8 (QW ?_)))));refine QK [_,_] rfl (X1 Yv (Qu J (Qu J QQ))) (by rw [e];rfl) J
 rw [if_neg h2] at e1;refine Qj (Qx ?_);refine Qv J J J (QJ goConsistent hN J J J J (Qr J J J (Qy J J J (Qz (Qq ?_)))));refine Xa J (fun h3=> ?_) (fun h3=> ?_)
 · rw [if_neg (by simpa using h3)] at e1;rw [if_pos (by rw [e1];decide),e1] at e;refine Qj (Qx ?_);refine Qk 2 J (Qz (Qq (Q0 (Q8 (QW ?_)))));refine QK [_,_] rfl (X1 Yv (Qu J (Qu J QQ))) (by rw [e];rfl) J
 rw [if_pos (by simpa using h3)] at e1;rw [if_neg (fun h=>h e1)] at e;refine QU (Qq (Qj (Qx ?_)));refine Qy J J J (Qz (Qq (Qj (Qj ?_))));refine Qx (Qv J J J (QJ gomeasures hM J J J J (Q9 J J sMes.und (List.length_map ..) J (Qv J J J (Qz (Qq (Q2 ?_)))))))
 refine ZY 4 0 37 2 J J J ?_
 refine Qn (α:=Nat) (fun i=>i<=ms.length)
  (fun i=>[(4, .own 0),(20, .ct (mesC ms)),(21, .ct (intC ms.length)),(22, .ct (intC i))])
  (fun i=>[(0, .row 37 2 (wrs (wsA (ms.take i))))]) (fun i=>ms.length - i) 0 (Nat.zero_le _) (by exact QX J ⟨rfl,rfl,rfl,rfl,trivial⟩) ?_
 intro i hi
 try dsimp only at hi ⊢
 refine Qj (Qx ?_);refine Qw ilss J J J J (Qz (Qq (Qj ?_)));refine Q1 J (fun h4=> ?_) (fun h4=> ?_)
 · have e4:(i:Int).toNat=i:=Int.toNat_natCast i
   have hs:wsA (ms.take (i+1))=wsA (ms.take i)++(ms.getD i me0).2:=by
    unfold wsA;rw [List.take_add_one,List.getElem?_eq_getElem (by omega),List.getD_eq_getElem?_getD,List.getElem?_eq_getElem (by omega),List.flatMap_append];simp
   have hwl:=wsA_len (ms.take i) fun x hx=>hmw x (List.mem_of_mem_take hx)
   rw [List.length_take] at hwl
   have hwl:(wsA (ms.take i)).length<=2560000:=by omega
   have hx2:=hmw (ms.getD i me0) (by rw [List.getD_eq_getElem?_getD,List.getElem?_eq_getElem (by omega)];exact List.getElem_mem _);refine QU (Qq (Qj (Q2 (Qj (Qx ?_)))))
   refine Ql J J J sMes (by omega) (mes_at (by omega) (by omega)) J ?_
   rw [e4];generalize ms.getD i me0=x at hs hx2;generalize wsA (ms.take i)=q at hs hwl ⊢;obtain ⟨r,ws⟩:=x;dsimp only at hs hx2;refine Xe (n:=18) J J J lMe J J (Qb 1 J J zvMe J J J (Q7 18 J J J J J szMe J J (Qz (Qq ?_))));refine Qx (Qv J J J (QY J J J fMe1 J (QZ J J J J J lWrs1 J ?_)))
   have hx3:(ws.map wrCs).length<=256:=by rw [List.length_map];exact hx2
   refine Ops.append q.length (wrs (q++ws)) J J J J sWrs (wrs_len q) (wrs_ones ws) (by show (q.length+(ws.map wrCs).length)*8<=_;omega) (by show q.length+(ws.map wrCs).length<=_;omega) (wrs_app q ws) J ?_
   refine Qy J J J (Qz (Qq ?_));refine Qx (Qw (iadd (by omega) (by omega)) J J J J ?_);refine Qv J J J (Qz (Q5 ?_));refine Xv 1 (Q6 (i+1) (by omega) (by omega) (by rw [hs];exact QX J ⟨rfl,rfl,rfl,by simp only [Int.natCast_add];rfl,trivial⟩))
 have hi' :i=ms.length:=by omega
 have hwl:=wsA_len ms hmw
 have hwl:(wsA ms).length<=2560000:=by omega
 rw [hi',List.take_length];generalize wsA ms=q at e2 hwl ⊢
 have hvl:vr.length<=2560000:=by rw [e2];exact Nat.le_trans (dd_len _) (by rw [List.length_mergeSort];omega)
 refine Qi (Qq (Qj (Qx ?_)));refine Qv J J J (Ops.callL goSortW (SortD_ok q (by omega)) J J J J J ?_);refine Qz (Qq (Qj ?_));refine Qx (Qv J J J (Ops.callT goCompact_Wr (Compact_Wr_ok (q.mergeSort fun x y=> !(ltOf cmpW) y x) (by rw [List.length_mergeSort];omega)) J J J J J ?_));rw [<- e2];refine Qy J J J (Qz (Qq (Qj (Qj ?_))));refine Qx (Qv J J J (Yd vr.length J J J (by decide) (wrs_len vr) sWrs.und J ?_));refine Qw igtr J J J J (Qz (Qq ?_));refine Q1 J (fun h5=> ?_) (fun h5=> ?_)
 · rw [if_pos h5] at e;refine Qj (Qx ?_);refine Qk 2 J (Qz (Qq (Q0 (QW ?_))));refine QK [_,_] rfl (X1 Yv (Qu J (Qu J QQ))) (by rw [e];rfl) J
 rw [if_neg h5] at e;refine QU (Qq (Qj (Qx ?_)));refine Qk 3 J (Qz (Qq (Q0 ?_)));refine Yi 0 _ J (wrs_frozen _ _) noBor_sub (QK [_,_] rfl (Qu J (Qu J QQ)) (by rw [e];rfl) J)
end Go.Proofs.YtojkdfilabmafaaGreat
namespace Go.Proofs.YtojkdfilabmafaaGreat
open Go.Own Go.Limbs Go.Proofs.Tryz
def rpY (n t T : Int) : Rs := ⟨0, 0, n, 100 * n, 9, 17, 0, t, true, false, 100 * n + T, adN t, 1, 0, 0, 0, 0⟩
def yF : Int → List Int → List Rs
  | _, [] => []
  | i, T :: d => rpY i (i + 1) T :: yF (i + 1) d
theorem yF_len:∀(d:List Int) (i:Int),(yF i d).length=d.length
 | [],_=>rfl
 |_::d,i=>by show (yF (i+1) d).length+1=_;rw [yF_len d];rfl
theorem yF_mem{r:Rs}:∀{d:List Int} {i:Int},r∈yF i d ->∃k:Nat,k<d.length/\ r=rpY (i+k) (i+k+1) (d.getD k 0)
 | [],_,h=>by cases h
 |T::d,i,h=>by
  rcases List.mem_cons.1 h with rfl|h
  · exact ⟨0,Nat.succ_pos _,by rw [Int.natCast_zero,Int.add_zero];rfl⟩
  · obtain ⟨k,h1,h2⟩:=yF_mem h
    refine ⟨k+1,Nat.succ_lt_succ h1,?_⟩
    rw [h2,show i+1+(k:Int)=i+((k+1:Nat):Int) by omega];rfl
theorem yF_has:∀{d:List Int} {i:Int} {k:Nat},k<d.length ->rpY (i+k) (i+k+1) (d.getD k 0)∈yF i d
 | [],_,_,h=>by cases h
 |T::d,i,0,_=>by rw [Int.natCast_zero,Int.add_zero];exact List.mem_cons_self ..
 |T::d,i,k+1,h=>by
  have:=yF_has (d:=d) (i:=i+1) (k:=k) (Nat.lt_of_succ_lt_succ h)
  rw [show i+1+(k:Int)=i+((k+1:Nat):Int) by omega] at this
  exact List.mem_cons_of_mem _ this
theorem yF_up:∀(d:List Int) (i:Int),Up cmpR (yF i d)
 | [],_=>List.Pairwise.nil
 |T::d,i=>by
  refine List.pairwise_cons.2 ⟨fun r hr=> ?_,yF_up d (i+1)⟩
  obtain ⟨k,_,rfl⟩:=yF_mem hr
  exact cmpL_lt (show 100*i<100*(i+1+k) by omega)
theorem yF_chain{d:List Int}(hd:d.length<=200)(hT:∀T∈d,0<=T/\ T<=1000000):Chain d.length x0T (yF 0 d) where
 up:=yF_up d 0
 ok r hr:=by
  obtain ⟨k,hk,rfl⟩:=yF_mem hr
  have hm:d.getD k 0∈d:=by rw [List.getD_eq_getElem?_getD,List.getElem?_eq_getElem hk];exact List.getElem_mem hk
  have hb:=hT _ hm;generalize d.getD k 0=T at hb;have hv:=adN_val (t:=0+(k:Int)+1) (by omega) (by omega);refine ⟨?_,rfl,rfl,rfl,by show 1<=0+(k:Int)+1;omega,by show 0+(k:Int)+1<=d.length;omega,fun _=>⟨rfl,rfl⟩⟩;generalize hz:0+(k:Int)=z at hv
  have hP1:¬P1 (rpY z (z+1) T):=by unfold P1 rpY;simp only;omega
  have hP2:¬P2 (rpY z (z+1) T):=by unfold P2 rpY;simp only;omega
  have hP3:¬P3 (rpY z (z+1) T):=by unfold P3 rpY;simp
  have hP4:¬P4 (rpY z (z+1) T):=by unfold P4 rpY;simp only;omega
  have hck:ckE (rpY z (z+1) T)=0:=by unfold ckE;rw [if_neg hP1,if_neg hP2,if_neg hP3,if_neg hP4]
  have hf:(rpY z (z+1) T).fr.val≠0:=by show (adN (z+1)).val≠0;omega
  unfold okR;rw [hck,decide_eq_true hf];simp [rpY]
 all t ht1 ht2:=by
  have:=yF_has (d:=d) (i:=0) (k:=(t - 1).toNat) (by omega);rw [show (0:Int)+((t - 1).toNat:Int)=t - 1 by omega] at this;exact ⟨_,this,rfl,by show t - 1+1=t;omega⟩
theorem chF_take:∀(c n:Nat) (s:Int),c<=n ->(chF n s).take c=chF c s
 |0,_,_,_=>by simp [chF]
 |c+1,n+1,s,h=>by show adN s::(chF n (s+1)).take c=_;rw [chF_take c n _ (by omega)];rfl
theorem chF_len:∀(c:Nat) (s:Int),(chF c s).length=c
 |0,_=>rfl
 |c+1,s=>by show (chF c (s+1)).length+1=_;rw [chF_len]
theorem chF_getD:∀(c:Nat) (s:Int) (i:Nat),i<c ->(chF c s).getD i 0=adN (s+i)
 |c+1,s,0,_=>by show adN s=_;rw [Int.natCast_zero,Int.add_zero]
 |c+1,s,i+1,h=>by
  show (chF c (s+1)).getD i 0=_
  rw [chF_getD c _ i (by omega),show s+1+(i:Int)=s+((i+1:Nat):Int) by omega]
theorem chF_all:∀(c:Nat) (s:Int),1<=s ->s+c<=4294967296 ->(chF c s).all (fun a=>decide (a≠0))=true
 |0,_,_,_=>rfl
 |c+1,s,h1,h2=>by
  have:=adN_val (t:=s) (by omega) (by omega)
  have hd:decide (adN s≠0)=true:=decide_eq_true (fun h=>by rw [h] at this;have:(0:Int)=s:=this;omega)
  rw [show chF (c+1) s=adN s::chF c (s+1) from rfl,List.all_cons,hd,chF_all c (s+1) (by omega) (by omega)];rfl
def wks (s : Int) (c : Nat) : List Wr := (List.range c).map fun i : Nat => wk (s + (i : Int))
theorem wks_succ(s:Int)(c:Nat):wks s (c+1)=wks s c++ [wk (s+c)]:=by
 unfold wks;rw [List.range_succ,List.map_append];rfl
theorem wsG_chF:∀(c:Nat) (s:Int),wsG (adN (s - 1)) (chF c s)=wks s c
 |0,_=>rfl
 |c+1,s=>by
  have:=wsG_chF c (s+1)
  rw [Int.add_sub_cancel] at this
  show (adN (s - 1),adN s)::wsG (adN s) (chF c (s+1))=_
  rw [this]
  unfold wks
  rw [List.range_succ_eq_map,List.map_cons,List.map_map,Int.natCast_zero,Int.add_zero]
  refine congrArg _ (List.map_congr_left fun i _=> ?_)
  show wk (s+1+i)=wk (s+((i+1:Nat):Int))
  congr 1;omega
theorem wsO_chF(c:Nat)(h:c<=1000):wsO (chF c 1)=(wks 1 c,true):=by
 unfold wsO;rw [chF_all c 1 (by decide) (by omega),if_pos J,<- wsG_chF];rfl
section
variable {d : List Int}
theorem yF_pa(hd:d.length<=200)(hT:∀T∈d,0<=T/\ T<=1000000){r:Rs}(hr:r∈yF 0 d):paF (yF 0 d) r=chF d.length 1:=by
 have h:=yF_chain hd hT;obtain ⟨_,_,hf,ht,_⟩:=h.ok r hr
 have e:((yF 0 d).filter fun x=>decide (trOf x=trOf r))=yF 0 d:=List.filter_eq_self.2 fun x hx=>by rw [(h.ok x hx).2.2.2.1,ht];simp
 unfold paF ofF;rw [h.sd,e,hf,h.path (by omega)]
theorem yF_ms(hd:d.length<=200)(hT:∀T∈d,0<=T/\ T<=1000000):msF (yF 0 d)=(yF 0 d).map fun r=>(r,wks 1 r.tt.toNat):=by
 have h:=yF_chain hd hT
 have hw:∀r∈yF 0 d,mesB (yF 0 d) r=true/\ meF (yF 0 d) r=(r,wks 1 r.tt.toNat):=fun r hr=>by
  obtain ⟨_,_,hf,ht,ha,hb,hc⟩:=h.ok r hr;have hu:=h.us hr;have hp:=yF_pa hd hT hr;have hl:=chF_len d.length 1
  have han:r.an=true:=by obtain ⟨k,_,rfl⟩:=yF_mem hr;rfl
  have hO:wsO ((chF d.length 1).take r.tt.toNat)=(wks 1 r.tt.toNat,true):=by rw [chF_take _ _ _ (by omega)];exact wsO_chF _ (by omega)
  have hg:(chF d.length 1).getD (r.tt.toNat - 1) 0=r.fr:=by
   rw [chF_getD _ _ _ (by omega),(hc han).2];congr 1;omega
  unfold mesB meF;rw [hp,hO,hg,han,hu,hl,decide_eq_true hb,decide_eq_true J];exact ⟨rfl,rfl⟩
 unfold msF;rw [h.sd,List.filter_eq_self.2 fun r hr=>(hw r hr).1]
 exact List.map_congr_left fun r hr=>(hw r hr).2
theorem cmpW_wk{a b:Int}(h0:1<=a)(h:a<b)(h2:b<=1000):cmpW (wk a) (wk b)<0:=by
 have h1:=adN_val (t:=a - 1) (by omega) (by omega);have h3:=adN_val (t:=b - 1) (by omega) (by omega);exact cmpL_lt (show ((adN (a - 1)).val:Int)<(adN (b - 1)).val by omega)
theorem wks_up{c:Nat}(h:c<=900):Up cmpW (wks 1 c):=by
 show List.Pairwise _ _;rw [List.pairwise_iff_getElem];intro i j hi hj hij
 have hl:(wks 1 c).length=c:=by unfold wks;rw [List.length_map,List.length_range]
 have e:∀(k:Nat) (hk:k<(wks 1 c).length),(wks 1 c)[k]=wk (1+k):=fun k hk=>by simp [wks]
 rw [e,e];exact cmpW_wk (by omega) (by omega) (by omega)
theorem wks_mem{c:Nat}{w:Wr}:w∈wks 1 c↔∃i:Nat,i<c/\ w=wk (1+i):=by
 unfold wks;rw [List.mem_map];constructor
 · rintro ⟨i,hi,rfl⟩;exact ⟨i,List.mem_range.1 hi,rfl⟩
 · rintro ⟨i,hi,rfl⟩;exact ⟨i,List.mem_range.2 hi,rfl⟩
theorem yF_vr(hd:d.length<=200)(hT:∀T∈d,0<=T/\ T<=1000000):vrF (yF 0 d)=wks 1 d.length:=by
 have h4:=sd_spec ordW (wsA (msF (yF 0 d)))
 refine Up.ext ordW h4.1 (wks_up (by omega)) fun w=> ?_
 show w∈sd cmpW (wsA (msF (yF 0 d)))↔_;rw [h4.2,yF_ms hd hT,wks_mem];unfold wsA;rw [List.mem_flatMap];constructor
 · rintro ⟨m,hm,hw⟩
   obtain ⟨r,hr,rfl⟩:=List.mem_map.1 hm;obtain ⟨k,hk,rfl⟩:=yF_mem hr;obtain ⟨i,hi,rfl⟩:=wks_mem.1 hw;have hi:i<(0+(k:Int)+1).toNat:=hi;exact ⟨i,by omega,rfl⟩
 · rintro ⟨i,hi,rfl⟩
   refine ⟨_,List.mem_map_of_mem (yF_has (i:=0) hi),wks_mem.2 ⟨i,?_,rfl⟩⟩;show i<(0+(i:Int)+1).toNat;omega
theorem yF_vrO(hd:d.length<=16)(hT:∀T∈d,0<=T/\ T<=1000000):vrO (yF 0 d)=(wks 1 d.length,0):=by
 have hc:=(yF_chain (by omega) hT).chk (by rw [yF_len];omega)
 have hl:(wks 1 d.length).length=d.length:=by unfold wks;rw [List.length_map,List.length_range]
 unfold vrO;rw [if_neg (fun h=>h hc),yF_vr (by omega) hT,if_neg (by omega)]
end
end Go.Proofs.YtojkdfilabmafaaGreat
namespace Go.Proofs.YtojkdfilabmafaaGreat
open Go.Own Go.Limbs Go.Det Go.Proofs.Tryz
def cfW (vs ws : List Wr) (f : Int) : List Int := vs.map fun v => f * (ws.count v : Int)
def meR (vs : List Wr) (qu : Int) (m : Me) : List Rw := [⟨cfW vs m.2 1, m.1.bk - m.1.tm⟩, ⟨cfW vs m.2 (-1), qu - (m.1.bk - m.1.tm)⟩]
def rowsD (vs : List Wr) (mo qu : Int) (ms : List Me) : List Rw := (vs.map fun v => ⟨cfW vs [v] 1, mo⟩) ++ ms.flatMap (meR vs qu)
def tiB (mo qu : Int) : Bool := decide (0 ≤ mo ∧ mo ≤ 1073741824 ∧ 0 ≤ qu ∧ qu ≤ 1073741824)
def rwO (l : List Rs) (mo qu : Int) : List Rw × List Ik × Int :=
  if tiB mo qu = false then ([], [], 1) else if ¬ (vrO l).2 = 0 then ([], [], (vrO l).2)
  else if 64 < ((vrO l).1.length : Int) + 2 * (msF l).length then ([], [], 5) else (rowsD (vrO l).1 mo qu (msF l), (msF l).map (fun m => idOf m.1), 0)
def unL (n i : Nat) (f : Int) : List Int := (List.replicate n 0).set i f
theorem unL_getD{n i:Nat}(f:Int)(h:i<n)(j:Nat):(unL n i f).getD j 0=if j=i then f else 0:=by
 unfold unL;rw [List.getD_eq_getElem?_getD,List.getElem?_set];by_cases e:i=j
 · subst e;rw [if_pos rfl,if_pos (by simpa using h),if_pos rfl];rfl
 · rw [if_neg e,if_neg (fun h=>e h.symm)];by_cases hj:j<n
   · rw [List.getElem?_replicate,if_pos hj];rfl
   · rw [List.getElem?_replicate,if_neg hj];rfl
theorem rsum_un{n i:Nat}(f:Int)(h:i<n)(X:Nat ->Int):rsum n (unL n i f) X=f*X i:=by
 unfold rsum;rw [YY (i:=i) h (fun k _ hk=>by rw [unL_getD f h,if_neg hk,Int.zero_mul]),unL_getD f h,if_pos J]
end Go.Proofs.YtojkdfilabmafaaGreat
namespace Go.Proofs.YtojkdfilabmafaaGreat
open Go.Own Go.Limbs Go.Proofs.Tryz
theorem cfW_nil(vs:List Wr)(f:Int):cfW vs [] f=List.replicate vs.length 0:=by
 unfold cfW;refine List.eq_replicate_iff.2 ⟨List.length_map _,fun x hx=> ?_⟩;obtain ⟨v,_,rfl⟩:=List.mem_map.1 hx;rw [List.count_nil];exact Int.mul_zero f
theorem cfW_len(vs ws:List Wr)(f:Int):(cfW vs ws f).length=vs.length:=by unfold cfW;rw [List.length_map]
theorem cfW_out{vs:List Wr}{x:Wr}(h:x ∉ vs)(l:List Wr)(f:Int):cfW vs (l++ [x]) f=cfW vs l f:=by
 unfold cfW
 refine List.map_congr_left fun v hv=> ?_
 have hne:(x==v)=false:=by rw [beq_eq_false_iff_ne];exact fun e=>h (e▸hv)
 rw [List.count_append,List.count_singleton,hne];rfl
theorem cfW_get{vs:List Wr}(l:List Wr)(f:Int){k:Nat}(hk:k<vs.length):(cfW vs l f).getD k 0=f*(l.count (vs.getD k wr0):Int):=by
 unfold cfW;rw [List.getD_eq_getElem?_getD,List.getElem?_map,List.getElem?_eq_getElem hk,List.getD_eq_getElem?_getD,List.getElem?_eq_getElem hk];rfl
theorem cfW_el{vs:List Wr}(l:List Wr)(f:Int){k:Nat}(h:k<(cfW vs l f).length):(cfW vs l f)[k]=f*(l.count (vs.getD k wr0):Int):=by
 have:=cfW_get (vs:=vs) l f (k:=k) (by rw [cfW_len] at h;exact h);rw [List.getD_eq_getElem?_getD,List.getElem?_eq_getElem h] at this;exact this
theorem cfW_in{vs:List Wr}(hu:Up cmpW vs){x:Wr}(h:x∈vs)(l:List Wr)(f:Int):(cfW vs l f).set (posD vs x) ((cfW vs l f).getD (posD vs x) 0+f)=cfW vs (l++ [x]) f:=by
 obtain ⟨h1,h2⟩:=(posD_at hu).1 h
 have hun:∀k,k<vs.length ->vs.getD k wr0=x ->k=posD vs x:=fun k hk e=>by
  have hp:=posD_lt (t:=x) hu hk;rw [e,ordW.self] at hp
  have hk2:¬k<posD vs x:=fun h=>absurd (hp.2 h) (by decide)
  rcases Nat.lt_or_eq_of_le (Nat.le_of_not_lt hk2) with q|q
  · have h3:=List.pairwise_iff_getElem.1 hu _ _ h1 hk q;rw [List.getD_eq_getElem?_getD,List.getElem?_eq_getElem h1] at h2;rw [List.getD_eq_getElem?_getD,List.getElem?_eq_getElem hk] at e;simp only [Option.getD_some] at h2 e;rw [h2,e,ordW.self] at h3;exact absurd h3 (by decide)
  · exact q.symm
 refine List.ext_getElem (by rw [List.length_set,cfW_len,cfW_len]) fun k hk1 hk2=> ?_
 have hk:k<vs.length:=by rw [cfW_len] at hk2;exact hk2
 rw [List.getElem_set,cfW_el (l++ [x]) f hk2,List.count_append,List.count_singleton];by_cases e:posD vs x=k
 · have hx:vs.getD k wr0=x:=by rw [<- e];exact h2
   rw [if_pos e,e,cfW_get l f hk,hx,if_pos (beq_self_eq_true x),Int.natCast_add,Int.mul_add,Int.natCast_one,Int.mul_one]
 · have hne:¬(x==vs.getD k wr0)=true:=fun h3=>e (hun k hk (eq_of_beq h3).symm).symm
   rw [if_neg e,if_neg hne,Nat.add_zero];exact cfW_el l f (by rw [cfW_len];exact hk)
theorem cfW_bd(vs l:List Wr){f:Int}(hf:f=1 \/f= -1)(hl:l.length<=1000)(k:Nat): -1000<=(cfW vs l f).getD k 0/\ (cfW vs l f).getD k 0<=1000:=by
 by_cases hk:k<vs.length
 · rw [cfW_get l f hk];have:l.count (vs.getD k wr0)<=1000:=Nat.le_trans List.count_le_length hl;generalize l.count (vs.getD k wr0)=c at this;rcases hf with rfl|rfl
   · omega
   · omega
 · rw [List.getD_eq_getElem?_getD,List.getElem?_eq_none (by rw [cfW_len];omega)];exact ⟨by decide,by decide⟩
end Go.Proofs.YtojkdfilabmafaaGreat
namespace Go.Own
theorem ushr1{p:Int}{kk:IntKind}:IBin .shr .u64 p kk 1 (.int .u64 (p/2)):= .of fun P t w=>by
 show (Op.shift .shr .u64 p kk 1).run P w=_
 have e:(Op.shift .shr .u64 p kk 1)=pure (.int .u64 (p.fdiv (2 ^ 1))):=rfl
 rw [e,Int.fdiv_eq_ediv_of_nonneg _ (by decide)]
 rfl
end Go.Own
namespace Go.Proofs.YtojkdfilabmafaaGreat
open Go.Own Go.Limbs Go.Proofs.Tryz
attribute [local irreducible] St Ops Go.Own.Fin Ok OkB OkN OkT OkL OkF OkM
theorem uUintD:prog.underlying 165=some (.int .u64):=underlying165
theorem goBSearch:InGo prog 49:=InGo.of func49 rfl (by decide)
theorem BSearch_ok(vs:List Wr)(x:Wr)(hu:Up cmpW vs)(hl:vs.length<=100000):Ok prog 49 [wrsC vs,wrC x,cmpDV] (.fr (tupT [intC (posD vs x),boolC (decide (x∈vs))])):=by
 have hlt:=fun h (hh:h<vs.length)=>posD_lt (t:=x) hu hh
 have hat:=posD_at (t:=x) hu;have hpl:=posD_le vs x
 have hmem:decide (x∈vs)=decide (posD vs x<vs.length/\ cmpW (vs.getD (posD vs x) wr0) x=0):=decide_eq_decide.2 (by
  rw [hat];exact and_congr_right fun _=>⟨fun h=>by rw [h];exact ordW.self x,fun h=>ordW.eq0 _ _ h⟩)
 clear hat;generalize posD vs x=ps at hlt hpl hmem ⊢;generalize decide (x∈vs)=bm at hmem ⊢
 refine Ok.enter func49 J _ ntmps49 J ?_
 intro S w;refine Qj (Qx ?_);refine Xx 0 J J J J J J J (Qk 2 J (Qz (Qq (Qj ?_))));refine Qx (Qv J J J (Q9 J J sWrs.und (List.length_map ..) J (Qy J J J (Qz (Qq (Qj ?_))))));refine Qx (Qk 3 J (Qz (Qq (Qj (Q2 ?_)))))
 refine Qn (α:=Nat × Nat) (fun q=>q.1<=q.2/\ q.2<=vs.length/\ q.1<=ps/\ ps<=q.2)
  (fun q=>[(0, .ct (wrsC vs)),(2, .ct cmpDV),(4, .own 0),(8, .ct (intC vs.length)),(9, .ct (intC q.1)),(10, .ct (intC q.2))]) (fun _=>[(0, .box 37 (wrCs x))]) (fun q=>q.2 - q.1) (0,vs.length) ⟨Nat.zero_le _,Nat.le_refl _,Nat.zero_le _,hpl⟩ (by exact QX J ⟨rfl,rfl,rfl,rfl,rfl,rfl,trivial⟩) ?_
 rintro ⟨i,j⟩ ⟨hij,hj,h1,h2⟩
 dsimp only at hij hj h1 h2 ⊢;refine Qj (Qj (Qx ?_));refine Qk 2 J (Qw ilss J J J J (Qz (Qq ?_)));refine Q1 J (fun h=> ?_) (fun h=> ?_)
 · have eh:((i:Int)+j)/2=(((i+j)/2:Nat):Int):=by omega
   have hh:i<=(i+j)/2/\ (i+j)/2<j:=by omega
   refine QU (Qq (Q2 (Qj (Qx ?_))));refine Qk 2 J (Qw (iadd (by omega) (by omega)) J J J J ?_)
   refine ZU J J uInt uUintD (wrap_u (by omega) (by omega)) J ?_
   refine Qw ushr1 J J J J ?_
   rw [eh];generalize (i+j)/2=k at hh
   refine ZU J J uUintD uInt (Z5 (by omega) (by omega)) J ?_
   clear eh;have e2:(k:Int).toNat=k:=Int.toNat_natCast k;have hk:=hlt k (by omega);refine Qy J J J (Qz (Qq (Qj ?_)));refine Xy mixed 8 (.p 0 (.p 1 (.p 2 (.p 3 (.f 4 (.f 5 (.m 6 (.p 7 .done)))))))) (by kernel_rfl) (fun K hK=> ?_);refine Qk 3 J (Ql J J J sWrs (by omega) (wrs_at (by omega) (by omega)) J ?_);rw [e2];refine Xe (n:=2) J J J YK J J (Qa (n:=2) J J J J J YK J (Y9 goDcmp J (Dcmp_ok _ _) J J J J (Qw ilss J J J J (Qz (hK _ _ (Qq ?_))))));clear hK K;refine Q1 J (fun h3=> ?_) (fun h3=> ?_)
   · have h4:=hk.1 h3;refine Qx (Qv J J J (Qw (iadd (by omega) (by omega)) J J J J ?_));refine Qy J J J (Qz (Qh (Q5 ?_)));refine Q6 (k+1,j) (by dsimp only;omega) ⟨by dsimp only;omega,by dsimp only;omega,by dsimp only;omega,by dsimp only;omega⟩ (by exact QX J ⟨rfl,rfl,rfl,rfl,by simp only [Int.natCast_add];rfl,rfl,trivial⟩)
   · have h4:¬k<ps:=fun h=>h3 (hk.2 h)
     refine Qx (Qk 2 J (Qz (Qh (Q5 ?_))));refine Q6 (i,k) (by dsimp only;omega) ⟨by dsimp only;omega,by dsimp only;omega,by dsimp only;omega,by dsimp only;omega⟩ (by exact QX J ⟨rfl,rfl,rfl,rfl,rfl,rfl,trivial⟩)
 have hip:i=ps:=by omega
 subst hip;have e2:(i:Int).toNat=i:=Int.toNat_natCast i;clear hlt h1 h2 hij;refine Qi (Qq (Qj ?_));refine Xy mixed 16 (.p 0 (.p 1 (.p 2 (.p 3 (.p 4 (.p 5 (.p 6 (.p 7 (.p 8 (.f 9 (.f 10 (.m 11 (.p 12 (.p 13 (.p 14 (.p 15 .done)))))))))))))))) (by kernel_rfl) (fun K hK=> ?_);refine Qk 3 J (Qw ilss J J J J (Qv J J J (Qe 39 J (fun h3=> ?_) (fun h3=> ?_))))
 · have hb:bm=decide (cmpW (vs.getD i wr0) x=0):=by rw [hmem];exact decide_eq_decide.2 ⟨fun h=>h.2,fun h=>⟨by omega,h⟩⟩
   refine Qk 3 J (Ql J J J sWrs (by omega) (wrs_at (by omega) (by omega)) J ?_);rw [e2];refine Xe (n:=2) J J J YK J J (Qa (n:=2) J J J J J YK J (Y9 goDcmp J (Dcmp_ok _ _) J J J J (Qw ieql J J J J (Qk 3 J (Qz (hK _ _ (Qq (Q0 ?_))))))));clear hK K;refine QK [_,_] rfl (Qu J (Qu J QQ)) (by rw [hb];rfl) J
 · have hb:bm=false:=by rw [hmem];exact decide_eq_false fun h=>h3 (by omega)
   refine Qk 11 J (Qz (hK _ _ (Qq (Q0 ?_))));clear hK K;refine QK [_,_] rfl (Qu J (Qu J QQ)) (by rw [hb];rfl) J
theorem gounit:InGo prog 52:=InGo.of func52 rfl (by decide)
theorem unit_ok(n k:Nat)(hk:k<n)(hn:n<=1000)(f:Int):Ok prog 52 [intC n,intC k,intC f] (intsC (unL n k f)):=by
 have e2:(k:Int).toNat=k:=Int.toNat_natCast k
 refine Ok.enter func52 J _ ntmps52 J ?_
 intro S w;refine Qj (Qx ?_);refine Qy J J J (Qz (Qq (Qj ?_)));refine Qx (Qv J J J (Zb 0 n J J J J sInts (by omega) (by omega) J J J ?_));rw [ints_made];refine Qy J J J (Qz (Qq (Qj ?_)));refine Qx (Qk 3 J (XY n J J J (by simp [ints]) J sInts (by omega) (by omega) J ?_))
 refine Xw J J J J J zInt (by simp [Ent.cs];omega) ?_
 simp only [Ent.setc,Zv];rw [show (k:Int).toNat*1=k by omega];refine Qz (Qq (Qj ?_));refine Qx (Qk 2 J (Qz (Qq (Q0 ?_))));refine Yi 0 _ J (Xf _ _) noBor_sub (QK [_] rfl (Qu J QQ) J J)
end Go.Proofs.YtojkdfilabmafaaGreat
namespace Go.Proofs.YtojkdfilabmafaaGreat
open Go.Own Go.Limbs Go.Proofs.Tryz
attribute [local irreducible] St Ops Go.Own.Fin Ok OkB OkN OkT OkL OkF OkM
theorem takeS{α:Type}{z:α}{l:List α}{i:Nat}(h:i<l.length):l.take (i+1)=l.take i++ [l.getD i z]:=by
 rw [List.take_add_one,List.getElem?_eq_getElem h];simp [List.getD_eq_getElem?_getD,List.getElem?_eq_getElem h]
def rwsF (rs : List Rw) : List CT := (rs.map rwCs).flatten
theorem rw_len(r:Rw):(rwCs r).length=2:=rfl
theorem rwsF_len(l:List Rw):(rwsF l).length=l.length*2:=el_len rw_len l
theorem rwsF_snoc(l:List Rw)(r:Rw):rwsF (l++ [r])=rwsF l++rwCs r:=by simp [rwsF]
theorem rwsF_frozen(e:Nat)(l:List Rw):(Ent.row e 2 (rwsF l)).frozen (sliceT 2 (l.map rwCs)):=
 ⟨_,rfl,fun e he=>by obtain ⟨m,_,rfl⟩:=List.mem_map.mp he;rfl,by decide,rfl⟩
abbrev prB (vs : List Wr) (v : Value) (rs : List Rw) : BL := [(0, .box 108 [wrsC vs, .ex v]), (1, .rowx v 79 2 (rwsF rs))]
theorem fPr0:fldInfo prog 108 0=some (0,some 1):=by kernel_rfl
theorem fPr1:fldInfo prog 108 1=some (1,some 1):=by kernel_rfl
theorem lWrs1P:Ld1 prog 25:=Ld1.of _ underlying25 rfl
theorem lRws1:Ld1 prog 56:=Ld1.of _ underlying56 rfl
theorem zRws1:(prog.info? 56).map (·.size)=some 1:=by kernel_rfl
theorem bRow:bInfo prog 79=some (.agg #[.slice none 0 0, .int .i64 0],[(0,some 1),(1,some 1)]):=by kernel_rfl
theorem goadd:InGo prog 46:=InGo.of func46 rfl (by decide)
theorem add_ok(vs:List Wr)(hu:Up cmpW vs)(hvl:vs.length<=100)(v:Value)(hv:v.oneCell' =true)(rs:List Rw)(hrl:rs.length<=100000)(ws:List Wr)(hwl:ws.length<=1000)(f b:Int)(hf:f=1 \/f= -1):
  OkM prog 46 [.own 0, .ct (wrsC ws), .ct (intC f), .ct (intC b)] (prB vs v rs) [0] (fun v' :Value=>v'.oneCell' =true) (fun _=> .ct unitC) (fun v' =>prB vs v' (rs++ [⟨cfW vs ws f,b⟩])):=by
 refine OkM.enter func46 J _ ntmps46 J (fun i hi=>by rw [List.mem_singleton.1 hi];rfl) ?_
 intro S w ρ0 hbor;refine Qj (Qx ?_);refine Qv J J J (Q3 J J J J (QY J J J fPr0 J (QZ J J J J J lWrs1P J (Q9 J J sWrs.und (List.length_map ..) J (Zb 2 vs.length J J J J sInts (by omega) (by omega) J J J ?_)))));rw [ints_made,<- cfW_nil vs f];refine Qy J J J (Qz (Qq (Qj (Qj ?_))));refine Qx (Qv J J J (Q9 J J sWrs.und (List.length_map ..) J (Qv J J J (Qz (Qq (Q2 ?_))))))
 refine Qn (α:=Nat) (fun i=>i<=ws.length)
  (fun i=>[(0, .own 0),(2, .ct (intC f)),(3, .ct (intC b)),(8, .own 2),(19, .ct (wrsC ws)),(20, .ct (intC ws.length)),(21, .ct (intC i))])
  (fun i=>(2, .row 3 1 (ints (cfW vs (ws.take i) f)))::prB vs v rs) (fun i=>ws.length - i) 0 (Nat.zero_le _) (by exact QX J ⟨rfl,rfl,rfl,rfl,rfl,rfl,rfl,trivial⟩) ?_
 intro i hi
 try dsimp only at hi ⊢
 refine Qj (Qx ?_);refine Qw ilss J J J J (Qz (Qq (Qj ?_)));refine Q1 J (fun h=> ?_) (fun h=> ?_)
 · have e2:(i:Int).toNat=i:=Int.toNat_natCast i;have hs:ws.take (i+1)=ws.take i++ [ws.getD i wr0]:=takeS (by omega);have hbd:=cfW_bd vs (ws.take i) hf (by rw [List.length_take];omega);refine QU (Qq (Qj (Q2 (Qj (Qx ?_)))))
   refine Ql J J J sWrs (by omega) (wrs_at (by omega) (by omega)) J ?_
   rw [e2];generalize ws.getD i wr0=x at hs;refine Xe (n:=2) J J J YK J J (Qb 3 J J zvWire J J J (Q7 2 J J J J J szWire J J (Qz (Qq (Qj ?_)))));refine Xy mixed 11 (.p 0 (.p 1 (.p 2 (.f 3 (.f 4 (.m 5 (.p 6 (.p 7 (.p 8 (.p 9 (.p 10 .done))))))))))) (by kernel_rfl) (fun K hK=> ?_);refine Qv J J J (Q3 J J J J (QY J J J fPr0 J ?_));skip;refine QZ J J J J J lWrs1P J (Qa (n:=2) J J J J J YK J (QJ goBSearch (BSearch_ok vs x hu (by omega)) J J J J ?_));refine Qv J J J (QV J J J J (QV J J J J (Qk 2 J (Qz (hK _ _ (Qq (Qj ?_)))))));clear hK K;refine Qx (Qv J J J (Qz (Qq ?_)));by_cases hx:x∈vs
   · rw [decide_eq_true hx];have hin:=cfW_in hu hx (ws.take i) f;have hpl:=((posD_at hu).1 hx).1;have hbd:=hbd (posD vs x);have hcl:=cfW_len vs (ws.take i) f;rw [<- hs] at hin;generalize posD vs x=k at hin hpl hbd ⊢;generalize cfW vs (ws.take i) f=cs at hin hbd hcl ⊢
     have e3:(k:Int).toNat*1=k:=by omega
     refine Xk J (Qx ?_);refine Qk 2 J (XY vs.length J J J (by simp [hcl]) J sInts (by omega) (by omega) J ?_);rw [e3]
     refine QZ J J J J (Xo (by omega)) lInt J ?_
     refine Qv J J J (Qw (iadd (by omega) (by omega)) J J J J ?_)
     refine XY vs.length J J J (by simp [hcl]) J sInts (by omega) (by omega) J ?_
     rw [e3]
     refine Xw J J J J J zInt (by simp [Ent.cs];omega) ?_
     simp only [Ent.setc,Zv];rw [hin];refine Qz (Qq ?_);refine Qx (Qw (iadd (by omega) (by omega)) J J J J ?_);refine Qv J J J (Qz (Q5 ?_));refine Xv 3 (Q6 (i+1) (by omega) (by omega) (by exact QX J ⟨rfl,rfl,rfl,rfl,rfl,rfl,by simp only [Int.natCast_add];rfl,trivial⟩))
   · rw [decide_eq_false hx];have hout:=cfW_out hx (ws.take i) f;rw [<- hs] at hout;rw [<- hout];refine Qt J (QU (Qq (Qx ?_)))
     refine Qw (iadd (by omega) (by omega)) J J J J ?_
     refine Qv J J J (Qz (Q5 ?_));refine Xv 3 (Q6 (i+1) (by omega) (by omega) (by exact QX J ⟨rfl,rfl,rfl,rfl,rfl,rfl,by simp only [Int.natCast_add];rfl,trivial⟩))
 have hi' :i=ws.length:=by omega
 rw [hi',List.take_length];generalize cfW vs ws f=cs;refine Qi (Qq (Qx ?_));refine Qk 2 J (Q3 J J J J (QY J J J fPr1 J (QZ J J J J J lRws1 J (Qk 2 J (Zk 2 _ J (Xf _ _) hbor (Qm J bRow J (.one J J J J (.one J J J J .nil)) J (Za (n:=2) J J sRows J J (by decide) J ?_)))))));refine Xd 47 1 J J (Qo rs.length (rwsF (rs++ [⟨cs,b⟩])) J J J J sRows (rwsF_len rs) J (by omega) (by omega) (rwsF_snoc rs ⟨cs,b⟩) J ?_);refine Q3 J J J J (QY J J J fPr1 J (Ops.name 52 1 J J (fun v' hv' => ?_)))
 refine Xw (c:= .ex v') J J J J hv' zRws1 (by simp [Ent.cs]) ?_
 refine Qz (Fin.endM v' [] rfl QQ J (fun j=> ?_) hv');rfl
end Go.Proofs.YtojkdfilabmafaaGreat
namespace Go.Proofs.YtojkdfilabmafaaGreat
open Go.Own Go.Limbs Go.Det Go.Proofs.Tryz
def tmT (d : List Int) (t : Nat) : Int := if t = 0 then 0 else d.getD (t - 1) 0
theorem tmT_succ(d:List Int)(t:Nat):tmT d (t+1)=d.getD t 0:=by unfold tmT;rw [if_neg (Nat.succ_ne_zero t),Nat.add_sub_cancel]
theorem tmT_zero(d:List Int):tmT d 0=0:=rfl
def Gap (d : List Int) (mo qu : Int) : Prop := 0 ≤ qu ∧ ∀ t, t < d.length → qu ≤ tmT d (t + 1) - tmT d t ∧ tmT d (t + 1) - tmT d t + qu ≤ mo
theorem wks_len(c:Nat):(wks 1 c).length=c:=by unfold wks;rw [List.length_map,List.length_range]
theorem wk_inj{a b:Nat}(ha:a<=900)(hb:b<=900)(h:wk (1+a)=wk (1+b)):a=b:=by
 have h1:=adN_val (t:=1+(a:Int)) (by omega) (by omega);have h2:=adN_val (t:=1+(b:Int)) (by omega) (by omega);have h3:adN (1+(a:Int))=adN (1+(b:Int)):=congrArg (·.2) h;rw [h3] at h1;omega
theorem count_wks{j:Nat}(hj:j<=900):∀t:Nat,t<=900 ->(wks 1 t).count (wk (1+j))=if j<t then 1 else 0
 |0,_=>by rw [if_neg (Nat.not_lt_zero _)];rfl
 |t+1,ht=>by
  rw [wks_succ,List.count_append,count_wks hj t (by omega),List.count_singleton]
  by_cases e:t=j
  · subst e;rw [if_neg (Nat.lt_irrefl _),if_pos (Nat.lt_succ_self _)];simp
  · have hne:(wk (1+(t:Int))==wk (1+(j:Int)))=false:=by
     rw [beq_eq_false_iff_ne];exact fun h=>e (wk_inj (by omega) hj h)
    rw [hne,if_neg (show ¬(false=true) by decide),Nat.add_zero];by_cases h:j<t
    · rw [if_pos h,if_pos (show j<t+1 by omega)]
    · rw [if_neg h,if_neg (show ¬j<t+1 by omega)]
theorem cf_getD{n j:Nat}(ws:List Wr)(f:Int)(hj:j<n):(cfW (wks 1 n) ws f).getD j 0=f*(ws.count (wk (1+j)):Int):=by
 unfold cfW wks;rw [List.map_map,List.getD_eq_getElem?_getD,List.getElem?_map,List.getElem?_range hj];rfl
theorem pre_getD{n j t:Nat}(f:Int)(hj:j<n)(ht:t<=n)(hn:n<=16):(cfW (wks 1 n) (wks 1 t) f).getD j 0=if j<t then f else 0:=by
 rw [cf_getD _ _ hj,count_wks (by omega) t (by omega)];split
 · rw [Int.natCast_one,Int.mul_one]
 · rw [Int.natCast_zero,Int.mul_zero]
theorem one_getD{n i j:Nat}(hj:j<n)(hi:i<n)(hn:n<=16):(cfW (wks 1 n) [wk (1+i)] 1).getD j 0=if j=i then 1 else 0:=by
 rw [cf_getD _ _ hj,List.count_singleton];by_cases e:j=i
 · subst e;simp
 · have hne:(wk (1+(i:Int))==wk (1+(j:Int)))=false:=by
    rw [beq_eq_false_iff_ne];exact fun h=>e (wk_inj (by omega) (by omega) h).symm
   rw [hne,if_neg e];rfl
theorem tele(S:Nat ->Int)(f:Int)(t:Nat):∀n:Nat,sm (fun j=>(if j<t then f else 0)*(S (j+1) - S j)) n=f*(S (min t n) - S 0)
 |0=>by rw [Nat.min_zero,Int.sub_self,Int.mul_zero];rfl
 |n+1=>by
  show sm _ n+(if n<t then f else 0)*(S (n+1) - S n)=_
  rw [tele S f t n]
  by_cases h:n<t
  · rw [if_pos h,Nat.min_eq_right (by omega),Nat.min_eq_right (by omega)];grind
  · rw [if_neg h,Nat.min_eq_left (by omega),Nat.min_eq_left (by omega),Int.zero_mul,Int.add_zero]
theorem rsum_pre{n t:Nat}(S:Nat ->Int)(f:Int)(ht:t<=n)(hn:n<=16):rsum n (cfW (wks 1 n) (wks 1 t) f) (fun j=>S (j+1) - S j)=f*(S t - S 0):=by
 unfold rsum;rw [Xh (g:=fun j=>(if j<t then f else 0)*(S (j+1) - S j)) (fun k hk=>by rw [pre_getD f hk ht hn]),tele,Nat.min_eq_left ht]
theorem rsum_one{n i:Nat}(X:Nat ->Int)(hi:i<n)(hn:n<=16):rsum n (cfW (wks 1 n) [wk (1+i)] 1) X=X i:=by
 unfold rsum;rw [YY (i:=i) hi (fun k hk he=>by rw [one_getD hk hi hn,if_neg he,Int.zero_mul]),one_getD hi hi hn,if_pos J,Int.one_mul]
section
variable {d : List Int} {mo qu : Int}
def rowsY (d : List Int) (mo qu : Int) : List Rw := rowsD (wks 1 d.length) mo qu (msF (yF 0 d))
theorem rowsY_mem(hd:d.length<=16)(hT:∀T∈d,0<=T/\ T<=1000000){r:Rw}:r∈rowsY d mo qu↔(∃i,i<d.length/\ r=⟨cfW (wks 1 d.length) [wk (1+(i:Nat))] 1,mo⟩) \/
  ∃t,t<d.length/\ (r=⟨cfW (wks 1 d.length) (wks 1 (t+1)) 1,tmT d (t+1)⟩ \/r=⟨cfW (wks 1 d.length) (wks 1 (t+1)) (-1),qu - tmT d (t+1)⟩):=by
 have hm:∀k:Nat,meR (wks 1 d.length) qu (rpY (0+k) (0+k+1) (d.getD k 0),wks 1 (rpY (0+k) (0+k+1) (d.getD k 0)).tt.toNat)=
   [⟨cfW (wks 1 d.length) (wks 1 (k+1)) 1,tmT d (k+1)⟩,⟨cfW (wks 1 d.length) (wks 1 (k+1)) (-1),qu - tmT d (k+1)⟩]:=fun k=>by
  have e1:(rpY (0+k) (0+k+1) (d.getD k 0)).tt.toNat=k+1:=by show (0+(k:Int)+1).toNat=_;omega
  have e2:(rpY (0+(k:Int)) (0+k+1) (d.getD k 0)).bk - (rpY (0+(k:Int)) (0+k+1) (d.getD k 0)).tm=tmT d (k+1):=by
   rw [tmT_succ];show 100*(0+(k:Int))+d.getD k 0 - 100*(0+(k:Int))=_;omega
  unfold meR;dsimp only;rw [e1,e2]
 unfold rowsY rowsD;rw [List.mem_append,List.mem_map,yF_ms (by omega) hT,List.mem_flatMap];refine or_congr ⟨?_,?_⟩ ⟨?_,?_⟩
 · rintro ⟨w,hw,rfl⟩
   obtain ⟨i,hi,rfl⟩:=wks_mem.1 hw;exact ⟨i,hi,rfl⟩
 · rintro ⟨i,hi,rfl⟩
   exact ⟨_,wks_mem.2 ⟨i,hi,rfl⟩,rfl⟩
 · rintro ⟨m,hmm,hr⟩
   obtain ⟨x,hx,rfl⟩:=List.mem_map.1 hmm;obtain ⟨k,hk,rfl⟩:=yF_mem hx;rw [hm k] at hr;refine ⟨k,hk,?_⟩;rcases List.mem_cons.1 hr with h|h
   · exact .inl h
   · exact .inr (List.mem_singleton.1 h)
 · rintro ⟨k,hk,hr⟩
   refine ⟨_,List.mem_map_of_mem (yF_has (i:=0) hk),?_⟩;rw [hm k];rcases hr with h|h
   · rw [h];exact List.mem_cons_self ..
   · rw [h];exact List.mem_cons_of_mem _ (List.mem_cons_self ..)
theorem rowsD_len(vs:List Wr)(mo qu:Int):∀ms:List Me,(rowsD vs mo qu ms).length=vs.length+2*ms.length:=fun ms=>by
 have:∀ms:List Me,(ms.flatMap (meR vs qu)).length=2*ms.length:=fun ms=>by
  induction ms with
  |nil=>rfl
  |cons m ms ih=>rw [List.flatMap_cons,List.length_append,ih,List.length_cons];show 2+_=_;omega
 unfold rowsD
 rw [List.length_append,List.length_map,this]
theorem rowsY_len(hd:d.length<=16)(hT:∀T∈d,0<=T/\ T<=1000000):(rowsY d mo qu).length=3*d.length:=by
 unfold rowsY;rw [rowsD_len,wks_len,yF_ms (by omega) hT,List.length_map,yF_len];omega
def stS (d : List Int) (qu : Int) (s t : Nat) : Int := tmT d t - (if t = s ∧ 0 < t then qu else 0)
theorem feasY(hd:d.length<=16)(hT:∀T∈d,0<=T/\ T<=1000000)(hG:Gap d mo qu)(s:Nat):Feas d.length (rowsY d mo qu) 1 (fun j=>stS d qu s (j+1) - stS d qu s j):=by
 obtain ⟨hq,hg⟩:=hG
 have h0:stS d qu s 0=0:=by unfold stS;rw [if_neg (fun h=>absurd h.2 (Nat.lt_irrefl _)),tmT_zero];rfl
 have hst:∀t,stS d qu s t<=tmT d t/\ tmT d t - qu<=stS d qu s t:=fun t=>by unfold stS;split <;>omega
 have hgap:∀j,j<d.length ->0<=stS d qu s (j+1) - stS d qu s j/\ stS d qu s (j+1) - stS d qu s j<=mo:=fun j hj=>by
  have h1:=hg j hj;have h2:=hst j;have h3:=hst (j+1);omega
 refine feas_of (fun v hv=>(hgap v hv).1) fun r hr=> ?_
 rcases (rowsY_mem hd hT).1 hr with ⟨i,hi,rfl⟩|⟨t,ht,rfl|rfl⟩
 · dsimp only;rw [rsum_one _ hi hd];exact (hgap i hi).2
 · dsimp only;rw [rsum_pre (stS d qu s) 1 (by omega) hd,h0];have:=hst (t+1);omega
 · dsimp only;rw [rsum_pre (stS d qu s) (-1) (by omega) hd,h0];have:=hst (t+1);omega
def hiY (d : List Int) (qu : Int) (i : Nat) : Int := tmT d (i + 1) - tmT d i + if i = 0 then 0 else qu
def loY (d : List Int) (qu : Int) (i : Nat) : Int := tmT d (i + 1) - tmT d i - qu
theorem hi_sol(hd:d.length<=16)(hT:∀T∈d,0<=T/\ T<=1000000)(hG:Gap d mo qu){i:Nat}(hi:i<d.length){O:Oc}(h:Sol d.length (rowsY d mo qu) (unL d.length i 1) O):O.kind=1/\ Btw (hiY d qu i) (hiY d qu i) O.value:=by
 have hF:=feasY hd hT hG i;have hl:=rowsY_len (mo:=mo) (qu:=qu) hd hT
 have hX:rsum d.length (unL d.length i 1) (fun j=>stS d qu i (j+1) - stS d qu i j)=hiY d qu i:=by
  rw [rsum_un _ hi,Int.one_mul];unfold stS hiY;rw [if_neg (by omega)];by_cases e:i=0
  · rw [if_neg (by omega),if_pos e];omega
  · rw [if_pos ⟨rfl,by omega⟩,if_neg e];omega
 have hY:∃Y,Dual d.length (rowsY d mo qu) (unL d.length i 1) 1 Y/\ sm (fun k=>cb (rowsY d mo qu) k*Y k) (rowsY d mo qu).length=hiY d qu i:=by
  have m1:(⟨cfW (wks 1 d.length) (wks 1 (i+1)) 1,tmT d (i+1)⟩:Rw)∈rowsY d mo qu:=(rowsY_mem hd hT).2 (.inr ⟨i,hi, .inl J⟩);by_cases e:i=0
  · obtain ⟨Y,y1,y2⟩:=dual_one (n:=d.length) (c:=unL d.length i 1) m1 (fun j hj=>by rw [unL_getD 1 hi,pre_getD 1 hj (by omega) hd];split <;>split <;>omega);refine ⟨Y,y1,y2.trans ?_⟩;unfold hiY;rw [if_pos e,e,tmT_zero];dsimp only;omega
  · have m2:(⟨cfW (wks 1 d.length) (wks 1 (i - 1+1)) (-1),qu - tmT d (i - 1+1)⟩:Rw)∈rowsY d mo qu:=(rowsY_mem hd hT).2 (.inr ⟨i - 1,by omega, .inr J⟩);rw [show i - 1+1=i by omega] at m2;obtain ⟨Y,y1,y2⟩:=dual_two (n:=d.length) (c:=unL d.length i 1) m1 m2 (fun j hj=>by rw [unL_getD 1 hi,pre_getD 1 hj (by omega) hd,pre_getD (-1) hj (by omega) hd];split <;>split <;>split <;>omega);refine ⟨Y,y1,y2.trans ?_⟩;unfold hiY;rw [if_neg e];dsimp only;omega
 obtain ⟨Y,y1,y2⟩:=hY;have:=sol_btw h (by omega) hF y1;rw [hX,y2] at this;exact this
theorem lo_sol(hd:d.length<=16)(hT:∀T∈d,0<=T/\ T<=1000000)(hG:Gap d mo qu){i:Nat}(hi:i<d.length){O:Oc}(h:Sol d.length (rowsY d mo qu) (unL d.length i (-1)) O):O.kind=1/\ Btw (-loY d qu i) (-loY d qu i) O.value:=by
 have hF:=feasY hd hT hG (i+1);have hl:=rowsY_len (mo:=mo) (qu:=qu) hd hT
 have hX:rsum d.length (unL d.length i (-1)) (fun j=>stS d qu (i+1) (j+1) - stS d qu (i+1) j)= -loY d qu i:=by
  rw [rsum_un _ hi];unfold stS loY;rw [if_pos ⟨rfl,Nat.succ_pos _⟩,if_neg (by omega)];omega
 have hY:∃Y,Dual d.length (rowsY d mo qu) (unL d.length i (-1)) 1 Y/\ sm (fun k=>cb (rowsY d mo qu) k*Y k) (rowsY d mo qu).length= -loY d qu i:=by
  have m1:(⟨cfW (wks 1 d.length) (wks 1 (i+1)) (-1),qu - tmT d (i+1)⟩:Rw)∈rowsY d mo qu:=(rowsY_mem hd hT).2 (.inr ⟨i,hi, .inr J⟩);by_cases e:i=0
  · obtain ⟨Y,y1,y2⟩:=dual_one (n:=d.length) (c:=unL d.length i (-1)) m1 (fun j hj=>by rw [unL_getD (-1) hi,pre_getD (-1) hj (by omega) hd];split <;>split <;>omega);refine ⟨Y,y1,y2.trans ?_⟩;unfold loY;rw [e,tmT_zero];dsimp only;omega
  · have m2:(⟨cfW (wks 1 d.length) (wks 1 (i - 1+1)) 1,tmT d (i - 1+1)⟩:Rw)∈rowsY d mo qu:=(rowsY_mem hd hT).2 (.inr ⟨i - 1,by omega, .inl J⟩);rw [show i - 1+1=i by omega] at m2;obtain ⟨Y,y1,y2⟩:=dual_two (n:=d.length) (c:=unL d.length i (-1)) m1 m2 (fun j hj=>by rw [unL_getD (-1) hi,pre_getD (-1) hj (by omega) hd,pre_getD 1 hj (by omega) hd];split <;>split <;>split <;>omega);refine ⟨Y,y1,y2.trans ?_⟩;unfold loY;dsimp only;omega
 obtain ⟨Y,y1,y2⟩:=hY;have:=sol_btw h (by omega) hF y1;rw [hX,y2] at this;exact this
end
theorem cf_ok(vs ws:List Wr){f:Int}(hf:f=1 \/f= -1)(hw:ws.length<=256):okCoeffs (vs.length:Int) (cfW vs ws f)=true:=by
 unfold okCoeffs;rw [Bool.and_eq_true,decide_eq_true_eq];refine ⟨by unfold cfW;rw [List.length_map];omega,?_⟩
 have:(cfW vs ws f).any badC=false:=by
  rw [List.any_eq_false];intro x hx;obtain ⟨v,_,rfl⟩:=List.mem_map.1 hx;have hc:ws.count v<=256:=Nat.le_trans List.count_le_length hw;generalize ws.count v=k at hc;unfold badC;rcases hf with rfl|rfl
  · simp;omega
  · simp;omega
 rw [this];rfl
theorem rowsD_valid{vs:List Wr}{ms:List Me}{mo qu:Int}(hv:vs.length<=16)(hl:vs.length+2*ms.length<=64)(hm:∀m∈ms,m.2.length<=256/\ 0<=m.1.bk - m.1.tm/\ m.1.bk - m.1.tm<=2251799813685248)(ht:tiB mo qu=true):validR (vs.length:Int) (rowsD vs mo qu ms)=true:=by
 have ht:0<=mo/\ mo<=1073741824/\ 0<=qu/\ qu<=1073741824:=of_decide_eq_true ht
 have good:∀(ws:List Wr) (f b:Int),(f=1 \/f= -1) ->ws.length<=256 -> -4503599627370496<=b ->b<=4503599627370496 ->badR (vs.length:Int) ⟨cfW vs ws f,b⟩=false:=fun ws f b hf hw h1 h2=>by
  unfold badR;dsimp only;rw [cf_ok vs ws hf hw,decide_eq_false (by omega),decide_eq_false (by omega)];rfl
 unfold validR;rw [decide_eq_true (by omega),decide_eq_true (by omega),decide_eq_true (by rw [rowsD_len];exact hl)]
 have:(rowsD vs mo qu ms).any (badR (vs.length:Int))=false:=by
  rw [List.any_eq_false];intro r hr;unfold rowsD at hr;rcases List.mem_append.1 hr with h|h
  · obtain ⟨v,_,rfl⟩:=List.mem_map.1 h;rw [good [v] 1 mo (.inl J) (by show 1<=256;decide) (by omega) (by omega)];decide
  · obtain ⟨m,hmm,h⟩:=List.mem_flatMap.1 h;obtain ⟨h1,h2,h3⟩:=hm m hmm;rcases List.mem_cons.1 h with rfl|h
    · rw [good m.2 1 _ (.inl J) h1 (by omega) (by omega)];decide
    · rw [List.mem_singleton.1 h,good m.2 (-1) _ (.inr J) h1 (by omega) (by omega)];decide
 rw [this];rfl
theorem unL_ok{n i:Nat}(h:i<n){f:Int}(hf:f=1 \/f= -1):okCoeffs (n:Int) (unL n i f)=true:=by
 unfold okCoeffs;rw [Bool.and_eq_true,decide_eq_true_eq];refine ⟨by unfold unL;rw [List.length_set,List.length_replicate];omega,?_⟩
 have:(unL n i f).any badC=false:=by
  rw [List.any_eq_false];intro x hx
  have hb:x=0 \/x=f:=by
   unfold unL at hx;rcases List.mem_or_eq_of_mem_set hx with h|h
   · exact .inl (List.eq_of_mem_replicate h)
   · exact .inr h
  unfold badC;rcases hb with rfl|rfl
  · decide
  · rcases hf with rfl|rfl <;>decide
 rw [this];rfl
theorem ok_time{r:Rs}(h:okR r=true):0<=r.tm/\ r.tm<=2251799813685248/\ 0<=r.bk - r.tm/\ r.bk - r.tm<=2251799813685248:=by
 unfold okR at h;rw [Bool.and_eq_true,decide_eq_true_eq] at h
 have hP:¬P1 r:=fun hp=>by have:=h.1;unfold ckE at this;rw [if_pos hp] at this;cases this
 unfold P1 at hP;omega
theorem me_time(l:List Rs):∀m∈msF l,(0<=m.1.tm/\ m.1.tm<=2251799813685248)/\ 0<=m.1.bk - m.1.tm/\ m.1.bk - m.1.tm<=2251799813685248:=fun m hm=>by
 obtain ⟨r,hr,rfl⟩:=List.mem_map.1 hm
 have h1:=(List.mem_filter.1 hr).1
 have h2:=(List.mem_filter.1 (((sd_spec ordR _).2 r).1 h1)).2
 obtain ⟨a,b,c,e⟩:=ok_time h2
 exact ⟨⟨a,b⟩,c,e⟩
def bdF (O1 O2 : Oc) : Oc × Oc × (Int × Int) × Int :=
  if O1.kind ≠ 1 ∨ O2.kind ≠ 1 then (oc0, oc0, (0, 0), 33) else if flV O2.value < -flV O1.value then (oc0, oc0, (0, 0), 33) else (O1, O2, (-flV O1.value, flV O2.value), 0)
end Go.Proofs.YtojkdfilabmafaaGreat
namespace Go.Own
section
variable {X : Ctx} {L : AL} {B : BL} {ops : Array Oper} {K : Act → World → Prop} {r : Pl} {k : Kd}
  {x y z : Operand} {d : Nat} {t t2 t' : TypeId} {pos : String} {af : Array Edge} {g : Option (Nat × Bool)}
theorem Entails.front{L' :AL}{B' :BL}(a:Nat)(e:Ent)(hb:bget B a=some e)(h:Entails X L ((a,e)::bdel B a) L' B'):Entails X L B L' B' :=fun x ρ w hI=>h x ρ w (hI.bext fun j=>by
 by_cases hj:a=j
 · subst hj;rw [Qf,hb]
 · rw [Q4 _ _ hj,X6 _ (Ne.symm hj)])
end
end Go.Own
namespace Go.Proofs.YtojkdfilabmafaaGreat
open Go.Own Go.Limbs Go.Proofs.Tryz
attribute [local irreducible] St Ops Go.Own.Fin Ok OkB OkN OkT OkL OkF OkM
abbrev tiCs (mo qu : Int) : List CT := [intC mo, intC qu]
abbrev tiC (mo qu : Int) : CT := .fr (aggT (tiCs mo qu))
theorem lTi:LdN prog 32 2:=LdN.of _ underlying32 rfl (by kernel_rfl)
theorem fTi0:fldInfo prog 32 0=some (0,some 1):=by kernel_rfl
theorem fTi1:fldInfo prog 32 1=some (1,some 1):=by kernel_rfl
theorem bPrg:bInfo prog 108=some (.agg #[.slice none 0 0, .slice none 0 0],[(0,some 1),(1,some 1)]):=by kernel_rfl
theorem fMe0:fldInfo prog 111 0=some (0,some 17):=by kernel_rfl
theorem goDValid:InGo prog 30:=InGo.of func30 rfl (by decide)
theorem DValid_ok(mo qu:Int):Ok prog 30 [tiC mo qu] (boolC (tiB mo qu)):=by
 have no:¬(0<=mo/\ mo<=1073741824/\ 0<=qu/\ qu<=1073741824) ->tiB mo qu=false:=fun h=>decide_eq_false h
 have yes:0<=mo ->mo<=1073741824 ->0<=qu ->tiB mo qu=decide (qu<=1073741824):=fun h1 h2 h3=>decide_eq_decide.2 ⟨fun h=>h.2.2.2,fun h=>⟨h1,h2,h3,h⟩⟩
 generalize tiB mo qu=out at no yes ⊢
 refine Ok.enter func30 J _ ntmps30 J ?_
 intro S w;refine Qj (Qx ?_);refine Xx 0 J J J J J J J (Qy J J J (Qz (Qq (Qj ?_))));refine Qx (QY J J J fTi0 J (QZ J J J J J lInt J (Qw igeq J J J J (Qv J J J (Qe 6 J (fun h1=> ?_) (fun h1=> ?_))))));rotate_left
 · have e:=no (fun h=>h1 h.1);refine Qk 15 J (Qz (Qq (Q0 ?_)));refine QK [_] rfl (Qu J QQ) (by rw [e];rfl) J
 refine QY J J J fTi0 J (QZ J J J J J lInt J (Qw ileq J J J J (Qk 2 J (Qe 11 J (fun h2=> ?_) (fun h2=> ?_)))));rotate_left
 · have e:=no (fun h=>h2 h.2.1);refine Qk 10 J (Qz (Qq (Q0 ?_)));refine QK [_] rfl (Qu J QQ) (by rw [e];rfl) J
 refine QY J J J fTi1 J (QZ J J J J J lInt J (Qw igeq J J J J (Qk 2 J (Qe 16 J (fun h3=> ?_) (fun h3=> ?_)))));rotate_left
 · have e:=no (fun h=>h3 h.2.2.1);refine Qk 5 J (Qz (Qq (Q0 ?_)));refine QK [_] rfl (Qu J QQ) (by rw [e];rfl) J
 have e:=yes h1 h2 h3;refine QY J J J fTi1 J (QZ J J J J J lInt J (Qw ileq J J J J (Qk 2 J (Qz (Qq (Q0 ?_))))));refine QK [_] rfl (Qu J QQ) (by rw [e];rfl) J
theorem prog_none{vs:List Wr}{v:Value}{rs:List Rw}{j:Nat}(h:2<=j):bget (prB vs v rs) j=none:=by
 show bget ((0,_)::(1,_)::[]) j=none;rw [Q4 _ _ (by omega),Q4 _ _ (by omega)];rfl
theorem prog_swap{E:BL}(h:beside E=true)(vs:List Wr)(v:Value)(rs:List Rw)(j:Nat):bget (E++prB vs v rs) j=bget (prB vs v rs++E) j:=by
 rw [Xi,Xi]
 cases h1:bget E j with
 |none=>cases bget (prB vs v rs) j <;>rfl
 |some e=>
  have:=beside_get h (j:=j) (by rw [h1];rfl);rw [prog_none (by omega)];rfl
section
variable {X : Ctx} {L : AL} {B : BL} {ops : Array Oper} {K : Act → World → Prop} {r : Pl} {k : Kd}
  {x y z : Operand} {d : Nat} {t t2 t' : TypeId} {pos : String} {af : Array Edge} {g : Option (Nat × Bool)}
theorem Ops.callAdd{f:FuncId}{args:List Operand}{tys:Array TypeId}{As:List Sl}{vs:List Wr}{v:Value}{rs rs' :List Rw}{J:Value ->Prop}(E:BL)(hgo:InGo X.P f)(hok:OkM X.P f As (prB vs v rs) [0] J (fun _=> .ct unitC) (fun q=>prB vs q rs'))(hg:gd ops L g=some true)(hargs:evS L args=some As)(hn:Nat.blt d X.n=true)
  (hbor:∀gb,X.bor gb ->X.S0 gb) (hB:B=E++prB vs v rs) (hE:beside E=true) (hfix:∀p∈X.fix,(bget E p.1).isSome=true \/p.1∈ [0])
  (h:∀q,J q ->Ops X ops r ((d, .ct unitC)::keepL kpT L) (E++prB vs q rs') K):Ops X ops (.cons ⟨some d, .call {callee:= .value (.func f),args:=args.toArray,argTypes:=tys},t,pos,af,g⟩ .any r) L B K:=by
 subst hB;refine Ops.callM E kpT hgo hok hg hargs hn hbor (prog_swap hE vs v rs) (fun j hj=> ?_) (fun j hj=> ?_) hfix (fun q j h=> ?_) (fun q hq=> ?_)
 · have:=beside_get hE hj;exact ⟨prog_none (by omega),fun q=>prog_none (by omega)⟩
 · unfold kpT at hj;rw [Bool.or_eq_true,Bool.and_eq_true] at hj;rcases hj with hj|⟨h1,h2⟩
   · exact .inl (by rw [Nat.eq_of_beq_eq_true hj];simp)
   · have:=Nat.le_of_ble_eq_true h1
     exact .inr fun q=>prog_none (by omega)
 · rcases h with h|⟨_,h⟩ <;>cases h
 · exact Ops.reB (fun j=>prog_swap hE vs q rs' j) (h q hq)
end
theorem goDRows:InGo prog 17:=InGo.of func17 rfl (by decide)
theorem DRows_ok(l:List Rs)(hl:l.length<=10000)(mo qu:Int):Ok prog 17 [rssC l,tiC mo qu] (.fr (tupT [rowsC (rwO l mo qu).1,iksC (rwO l mo qu).2.1,intC (rwO l mo qu).2.2])):=by
 have hV:=DValid_ok mo qu;have hVa:=Jq l hl;have hM:=measures_ok l hl;have hmw:=me_wires l;have hmt:=me_time l
 have hti:tiB mo qu=true ->0<=mo/\ mo<=1073741824/\ 0<=qu/\ qu<=1073741824:=fun h=>of_decide_eq_true h
 have hml:(msF l).length<=10000:=by
  unfold msF;rw [List.length_map];have h1:=List.length_filter_le (mesB l) (sd cmpR (l.filter okR));have h2:=sd_len cmpR (l.filter okR);have h3:=List.length_filter_le okR l;omega
 have e:rwO l mo qu=if tiB mo qu=false then ([],[],1) else if ¬(vrO l).2=0 then ([],[],(vrO l).2)
  else if 64<((vrO l).1.length:Int)+2*(msF l).length then ([],[],5) else (rowsD (vrO l).1 mo qu (msF l),(msF l).map (fun m=>idOf m.1),0):=rfl
 have hvu:Up cmpW (vrO l).1:=by
  unfold vrO;split
  · exact List.Pairwise.nil
  · split
    · exact List.Pairwise.nil
    · exact (sd_spec ordW _).1
 have hvl:(vrO l).1.length<=16:=by
  unfold vrO;split
  · exact Nat.zero_le _
  · split
    · exact Nat.zero_le _
    · dsimp only;omega
 generalize rwO l mo qu=out at e ⊢;generalize tiB mo qu=tb at hV hti e;generalize vrO l=vo at hVa e hvu hvl;generalize msF l=ms at hM hmw hmt hml e;obtain ⟨vs,ve⟩:=vo;dsimp only at hVa e hvu hvl
 refine Ok.enter func17 J _ ntmps17 J ?_
 intro S w;refine Qj (Qx (Xx 5 J J J J J J J (Qk 3 J (Qz (Qq (Qj (Qj ?_)))))));refine Qx (Qa (n:=2) J J J J J lTi J (QJ goDValid hV J J J J (Qr J J J (Qz (Qq ?_)))));refine Xa J (fun h1=> ?_) (fun h1=> ?_)
 · rw [if_pos (by cases tb with|true=>cases h1|false=>rfl)] at e;refine Qj (Qx ?_);refine Qk 3 J (Qz (Qq (Q0 (QW ?_))));refine QK [_,_,_] rfl (X1 Yv (Qu J (X1 Yv (Qu J (Qu J QQ))))) (by rw [e];rfl) J
 have htb:tb=true:=by cases tb with|true=>rfl|false=>cases h1
 obtain ⟨t1,t2,t3,t4⟩:=hti htb;rw [if_neg (by rw [htb];decide)] at e;refine QU (Qq (Qj (Qx ?_)));refine Qv J J J (QJ goVariables hVa J J J J (Qv J J J (QV J J J J (QV J J J J (Qk 2 J (Qz (Qq (Qj (Qj ?_)))))))));refine Qx (Qv J J J (Qw ineq J J J J (Qz (Qq ?_))));refine Q1 J (fun h2=> ?_) (fun h2=> ?_)
 · rw [if_pos h2] at e;refine Qj (Qx ?_);refine Qk 4 J (Qz (Qq (Q0 (QW ?_))));refine QK [_,_,_] rfl (X1 Yv (Qu J (X1 Yv (Qu J (Qu J QQ))))) (by rw [e];rfl) J
 rw [if_neg h2] at e;refine QU (Qq (Qj (Qx ?_)));refine Qv J J J (QJ gomeasures hM J J J J (Qy J J J (Qz (Qq (Qj (Qj ?_))))));refine Qx (Qv J J J (Q9 J J sWrs.und (List.length_map ..) J (Qv J J J (Q9 J J sMes.und (List.length_map ..) J (Qw (imul (by omega) (by omega)) J J J J ?_)))))
 refine Qw (iadd (by omega) (by omega)) J J J J ?_
 refine Qw igtr J J J J (Qz (Qq ?_));refine Q1 J (fun h3=> ?_) (fun h3=> ?_)
 · rw [if_pos (by omega)] at e;refine Qj (Qx ?_);refine Qk 3 J (Qz (Qq (Q0 (QW ?_))));refine QK [_,_,_] rfl (X1 Yv (Qu J (X1 Yv (Qu J (Qu J QQ))))) (by rw [e];rfl) J
 rw [if_neg (by omega)] at e
 have hms:ms.length<=32:=by omega
 refine QU (Qq (Qj (Qx ?_)));refine Qv J J J (Qm J bPrg J (.one J J J J .nil) J (Xx 0 J J J J J J J (Qy J J J (Qz (Qq (Qj (Qj ?_)))))));refine Qx (Qv J J J (Q9 J J sWrs.und (List.length_map ..) J (Qv J J J (Qz (Qq (Q2 ?_))))))
 refine St.nilX 1 79 2 J J ?_
 refine Qn (α:=Nat × Value) (fun q=>q.1<=vs.length/\ q.2.oneCell' =true)
  (fun q=>[(3, .own 5),(7, .ct (wrsC vs)),(9, .ct (mesC ms)),(10, .own 0),(40, .ct (wrsC vs)),(41, .ct (intC vs.length)),(42, .ct (intC q.1))])
  (fun q=>(5, .box 32 (tiCs mo qu))::prB vs q.2 ((vs.take q.1).map fun v=>⟨cfW vs [v] 1,mo⟩)) (fun q=>vs.length - q.1) (0, .slice none 0 0) ⟨Nat.zero_le _,rfl⟩
  (Entails.front 0 _ J (Entails.front 5 _ J (by exact QX J ⟨rfl,rfl,rfl,rfl,rfl,rfl,rfl,trivial⟩))) ?_
 rintro ⟨i,v⟩ ⟨hi,hv⟩
 dsimp only at hi hv ⊢;refine Qj (Qx ?_);refine Qw ilss J J J J (Qz (Qq (Qj ?_)));refine Q1 J (fun h4=> ?_) (fun h4=> ?_)
 · have e2:(i:Int).toNat=i:=Int.toNat_natCast i
   have hs:(vs.take (i+1)).map (fun v=>(⟨cfW vs [v] 1,mo⟩:Rw))=(vs.take i).map (fun v=>(⟨cfW vs [v] 1,mo⟩:Rw))++ [⟨cfW vs [vs.getD i wr0] 1,mo⟩]:=by rw [takeS (z:=wr0) (by omega),List.map_append];rfl
   have hrl:((vs.take i).map (fun v=>(⟨cfW vs [v] 1,mo⟩:Rw))).length<=16:=by rw [List.length_map,List.length_take];omega
   generalize (vs.take i).map (fun v=>(⟨cfW vs [v] 1,mo⟩:Rw))=rs at hs hrl ⊢;refine QU (Qq (Qj (Q2 (Qj (Qx ?_)))))
   refine Ql J J J sWrs (by omega) (wrs_at (by omega) (by omega)) J ?_
   rw [e2];generalize vs.getD i wr0=x at hs;refine Xe (n:=2) J J J YK J J (Qb 6 J J zvWire J J J (Q7 2 J J J J J szWire J J (Qz (Qq ?_))));refine Qx (Qv J J J (Qa (n:=2) J J J J J YK J (Za (n:=2) J J sWrs J J (by decide) J ?_)));refine QY J J J fTi0 J (QZ J J J J J lInt J (Ops.callAdd (As:=[.own 0, .ct (wrsC [x]), .ct (intC 1), .ct (intC mo)]) [(6,_),(5,_)] goadd (add_ok vs hvu (by omega) v hv rs (by omega) [x] (by show 1<=1000;decide) 1 mo (.inl J)) J J J (fun _ h=>h.elim) J J (fun p hp=>absurd hp (by simp)) (fun v' hv' => ?_)));refine Qz (Qq ?_);refine Qx (Qw (iadd (by omega) (by omega)) J J J J ?_);refine Qv J J J (Qz (Q5 ?_));refine Xv 6 (Q6 (i+1,v') (by dsimp only;omega) ⟨by dsimp only;omega,hv'⟩ (by rw [hs];exact QX J ⟨rfl,rfl,rfl,rfl,rfl,rfl,by simp only [Int.natCast_add];rfl,trivial⟩))
 have hi' :i=vs.length:=by omega
 rw [hi',List.take_length]
 have hrl0:(vs.map (fun v=>(⟨cfW vs [v] 1,mo⟩:Rw))).length<=16:=by rw [List.length_map];omega
 have er:rowsD vs mo qu ms=vs.map (fun v=>(⟨cfW vs [v] 1,mo⟩:Rw))++ms.flatMap (meR vs qu):=rfl;rw [er] at e;generalize vs.map (fun v=>(⟨cfW vs [v] 1,mo⟩:Rw))=r0 at hrl0 e ⊢;clear er;refine Qi (Qq (Qj (Qx ?_)));refine Qy J J J (Qz (Qq (Qj (Qj ?_))));refine Qx (Qv J J J (Q9 J J sMes.und (List.length_map ..) J (Qv J J J (Qz (Qq (Q2 ?_))))))
 refine ZY 13 8 82 3 J J J ?_
 refine Qn (α:=Nat × Value) (fun q=>q.1<=ms.length/\ q.2.oneCell' =true)
  (fun q=>[(3, .own 5),(10, .own 0),(13, .own 8),(53, .ct (mesC ms)),(54, .ct (intC ms.length)),(55, .ct (intC q.1))])
  (fun q=>(8, .row 82 3 (iks ((ms.take q.1).map fun m=>idOf m.1)))::(5, .box 32 (tiCs mo qu))::prB vs q.2 (r0++(ms.take q.1).flatMap (meR vs qu))) (fun q=>ms.length - q.1) (0,v) ⟨Nat.zero_le _,hv⟩
  (by rw [List.take_zero,List.flatMap_nil,List.append_nil];exact QX J ⟨rfl,rfl,rfl,rfl,rfl,rfl,trivial⟩) ?_
 clear hv v
 rintro ⟨j,v⟩ ⟨hj,hv⟩
 dsimp only at hj hv ⊢;refine Qj (Qx ?_);refine Qw ilss J J J J (Qz (Qq (Qj ?_)));refine Q1 J (fun h5=> ?_) (fun h5=> ?_);rotate_left
 · have hj' :j=ms.length:=by omega
   rw [hj',List.take_length]
   refine St.frzX 1 0 1 _ J J J (rwsF_frozen 0 _) (fun _ h=>h.elim) ?_
   refine St.frz 8 _ J (iks_frozen _ _) (fun _ h=>h.elim) ?_
   refine Qi (Qq (Qj (Qx ?_)));refine Qv J J J (Q3 J J J J (QY J J J fPr1 J (QZ J J J J J lRws1 J (Qk 4 J (Qz (Qq (Q0 ?_)))))));refine QK [_,_,_] rfl (Qu J (Qu J (Qu J QQ))) (by rw [e];rfl) J
 have e2:(j:Int).toNat=j:=Int.toNat_natCast j
 have hmem:ms.getD j me0∈ms:=by rw [List.getD_eq_getElem?_getD,List.getElem?_eq_getElem (by omega)];exact List.getElem_mem _
 have hw:=hmw _ hmem;have ht:=hmt _ hmem
 have hs1:(ms.take (j+1)).map (fun m=>idOf m.1)=(ms.take j).map (fun m=>idOf m.1)++ [idOf (ms.getD j me0).1]:=by rw [takeS (z:=me0) (by omega),List.map_append];rfl
 have hs2:r0++(ms.take (j+1)).flatMap (meR vs qu)=(r0++(ms.take j).flatMap (meR vs qu))++ [⟨cfW vs (ms.getD j me0).2 1,(ms.getD j me0).1.bk - (ms.getD j me0).1.tm⟩]++ [⟨cfW vs (ms.getD j me0).2 (-1),qu - ((ms.getD j me0).1.bk - (ms.getD j me0).1.tm)⟩]:=by
  rw [takeS (z:=me0) (by omega),List.flatMap_append,<- List.append_assoc,List.append_assoc _ [_] [_]]
  refine congrArg _ ?_
  rw [List.flatMap_cons,List.flatMap_nil,List.append_nil];rfl
 have hl1:((ms.take j).map (fun m=>idOf m.1)).length<=32:=by rw [List.length_map,List.length_take];omega
 have hl2:(r0++(ms.take j).flatMap (meR vs qu)).length<=100:=by
  have:∀q:List Me,(q.flatMap (meR vs qu)).length=2*q.length:=fun q=>by
   induction q with
   |nil=>rfl
   |cons m q ih=>rw [List.flatMap_cons,List.length_append,ih,List.length_cons];show 2+_=_;omega
  rw [List.length_append,this,List.length_take];omega
 generalize (ms.take j).map (fun m=>idOf m.1)=is at hs1 hl1 ⊢;generalize r0++(ms.take j).flatMap (meR vs qu)=rs at hs2 hl2 ⊢;refine QU (Qq (Qj (Q2 (Qj (Qx ?_)))))
 refine Ql J J J sMes (by omega) (mes_at (by omega) (by omega)) J ?_
 rw [e2];generalize ms.getD j me0=m at hw ht hs1 hs2;obtain ⟨x,ws⟩:=m;dsimp only at hw ht hs1 hs2;refine Xe (n:=18) J J J lMe J J (Qb 7 J J zvMe J J J (Q7 18 J J J J J szMe J J (Qz (Qq (Qj ?_)))));refine Qx (QY J J J fMe0 J (Zl J J fS10 J (QZ J J J J J lInt J (QY J J J fMe0 J (Zl J J fS3 J (QZ J J J J J lInt J (Qw (isub (p:=x.bk) (q:=x.tm) (by omega) (by omega)) J J J J ?_)))))));refine Qy J J J (Qz (Qq (Qj ?_)));refine Qx (Qv J J J (QY J J J fMe1 J (QZ J J J J J lWrs1P J (Qv J J J (Ops.callAdd (As:=[.own 0, .ct (wrsC ws), .ct (intC 1), .ct (intC (x.bk - x.tm))]) [(7,_),(8,_),(5,_)] goadd (add_ok vs hvu (by omega) v hv rs (by omega) ws (by omega) 1 (x.bk - x.tm) (.inl J)) J J J (fun _ h=>h.elim) J J (fun p hp=>absurd hp (by simp)) (fun v2 hv2=> ?_))))));refine Qz (Qq (Qj ?_));refine Qx (Qv J J J (QY J J J fMe1 J (QZ J J J J J lWrs1P J (QY J J J fTi1 J (QZ J J J J J lInt J (Qv J J J (Qw (isub (by omega) (by omega)) J J J J ?_)))))))
 refine Ops.callAdd (As:=[.own 0, .ct (wrsC ws), .ct (intC (-1)), .ct (intC (qu - (x.bk - x.tm)))]) [(7,_),(8,_),(5,_)] goadd (add_ok vs hvu (by omega) v2 hv2 (rs++ [⟨cfW vs ws 1,x.bk - x.tm⟩]) (by rw [List.length_append,List.length_singleton];omega) ws (by omega) (-1) (qu - (x.bk - x.tm)) (.inr J)) J J J (fun _ h=>h.elim) J J (fun p hp=>absurd hp (by simp)) (fun v3 hv3=> ?_);refine Qz (Qq ?_);refine Qx (Qv J J J (QY J J J fMe0 J (YU (n:=17) J J J J (Nat.le_of_ble_eq_true J) lRes J (QJ goIdentity (Identity_ok x) J J J J (Za (n:=3) J J sIks J J (by decide) J ?_)))))
 refine Qo is.length (iks (is++ [idOf x])) J J J J sIks (iks_len _) J (by omega) (by omega) (iks_snoc _ _) J ?_
 refine Qy J J J (Qz (Qq ?_));refine Qx (Qw (iadd (by omega) (by omega)) J J J J ?_);refine Qv J J J (Qz (Q5 ?_));refine Xv 7 (Q6 (j+1,v3) (by dsimp only;omega) ⟨by dsimp only;omega,hv3⟩ (by rw [hs1,hs2];exact QX J ⟨rfl,rfl,rfl,rfl,rfl,by simp only [Int.natCast_add];rfl,trivial⟩))
abbrev ivCs (p : Int × Int) : List CT := [intC p.1, intC p.2]
abbrev ivC (p : Int × Int) : CT := .fr (aggT (ivCs p))
theorem lIv:LdN prog 39 2:=LdN.of _ underlying39 rfl (by kernel_rfl)
theorem szIv:(prog.info? 39).map (·.size)=some 2:=by kernel_rfl
theorem zvIv:(prog.info? 39).map (·.zero)=some (some (.agg #[.int .i64 0, .int .i64 0])):=by kernel_rfl
theorem bIv:bInfo prog 39=some (.agg #[.int .i64 0, .int .i64 0],[(0,some 1),(1,some 1)]):=by kernel_rfl
theorem fOu0:fldInfo prog 100 0=some (0,some 1):=by kernel_rfl
theorem fOu1:fldInfo prog 100 1=some (1,some 3):=by kernel_rfl
theorem flV_bd(f:Fr): -4611686018427387904<=flV f/\ flV f<=4611686018427387904:=by
 have h:=natAbs_sg f.neg (rnd f.num f.den f.neg);unfold flV
 split <;>omega
theorem Solve_any{n:Nat}{rs:List Rw}{c:List Int}(hv:validR n rs=true)(hc:okCoeffs n c=true):∃O:Oc,Sol n rs c O/\ Ok prog 81 [intC n,rowsC rs,intsC c] (.fr (tupT [ocC O,intC 0])):=by
 obtain ⟨N,e,hL⟩:=lpOf hv hc
 have e:n=N:=by omega
 subst e;obtain ⟨T,E,F,s,hR,hS⟩:=lp_sol hL;exact ⟨_,hS,Solve_ok n rs c hL hv hc hR⟩
structure OcF (O : Oc) : Prop where
  kind : O.kind = 1
  num : (limbs O.value.num).length ≤ 100
  den : (limbs O.value.den).length ≤ 100
  pos : 0 < O.value.den
theorem gobounds:InGo prog 44:=InGo.of func44 rfl (by decide)
theorem bounds_fine(n k:Nat)(hk:k<n)(hn:n<=16)(rs:List Rw)(O1 O2:Oc)(hS1:Ok prog 81 [intC n,rowsC rs,intsC (unL n k (-1))] (.fr (tupT [ocC O1,intC 0])))(hS2:Ok prog 81 [intC n,rowsC rs,intsC (unL n k 1)] (.fr (tupT [ocC O2,intC 0])))
  (z1:OcF O1) (z2:OcF O2) (hle: -flV O1.value<=flV O2.value):
  Ok prog 44 [rowsC rs,intC n,intC k] (.fr (tupT [ocC O1,ocC O2,ivC (-flV O1.value,flV O2.value),intC 0])):=by
 have hU1:=unit_ok n k hk (by omega) (-1);have hU2:=unit_ok n k hk (by omega) 1;have hF1:=FFloor_any O1.value z1.num z1.pos z1.den;have hF2:=FFloor_any O2.value z2.num z2.pos z2.den;have hb1:=flV_bd O1.value;have hb2:=flV_bd O2.value;have k1:=z1.kind;have k2:=z2.kind;clear z1 z2;obtain ⟨q1,⟨g1,m1,d1⟩,o1,y1,u1⟩:=O1;obtain ⟨q2,⟨g2,m2,d2⟩,o2,y2,u2⟩:=O2;dsimp only at k1 k2 hF1 hF2 hb1 hb2 hle ⊢;subst k1;subst k2;generalize flV ⟨g1,m1,d1⟩=lo at hF1 hb1 hle ⊢;generalize flV ⟨g2,m2,d2⟩=hi at hF2 hb2 hle ⊢
 refine Ok.enter func44 J _ ntmps44 J ?_
 intro S w;refine Qj (Qx (Qb 0 J J zvOut J J J (Qb 1 J J zvOut J J J (Qb 2 J J zvIv J J J (Qy J J J (Qz (Qq (Qj ?_))))))));refine Qx (Qk 4 J (QJ gounit hU1 J J J J (QJ goSolve hS1 J J J J (Qv J J J (QV J J J J (QV J J J J (Q7 7 J J J J J szOut J J (Qz (Qq (Qj ?_))))))))));refine Qx (Qk 4 J (QJ gounit hU2 J J J J (QJ goSolve hS2 J J J J (Qv J J J (QV J J J J (QV J J J J (Q7 7 J J J J J szOut J J (Qz (Qq (Qj (Qj ?_)))))))))));refine Qx (QY J J J fOu0 J (QZ J J J J J lInt J (Qw ineq J J J J (Qv J J J (Qe 35 J (fun g=>absurd J g) (fun _=> ?_))))));refine QY J J J fOu0 J (QZ J J J J J lInt J (Qw ineq J J J J (Z1 J J J J (Qz (Qq (Qt J (QU (Qq (Qj ?_)))))))));refine Qx (QY J J J fOu1 J (YU (n:=3) J J J J (Nat.le_of_ble_eq_true J) Xn J (QJ goFFloor hF1 J J J J (Qv J J J (QV J J J J (QV J J J J (Qk 2 J (Qz (Qq (Qj ?_))))))))))
 refine Qx (QY J J J fOu1 J (YU (n:=3) J J J J (Nat.le_of_ble_eq_true J) Xn J (QJ goFFloor hF2 J J J J (Qv J J J (QV J J J J (QV J J J J (Qk 2 J (Qz (Qq (Qj (Qj ?_)))))))))));refine Qx (Qv J J J (Ops.ineg J J (by omega) (by omega) J ?_));refine Qv J J J (Qw igtr J J J J (Qz (Qq ?_)));refine Q1 J (fun g=>absurd g (by omega)) (fun _=> ?_);refine QU (Qq (Qj ?_));refine Y0 mixed [6,7,8] (.p 2 (.p 3 (.p 4 (.p 5 (.f 0 (.m 1 (.a 6 (.a 7 (.a 8 (.p 9 .done) .non) .non) .non) (.a 6 (.f 1 (.a 7 (.a 8 (.p 9 .done) .non) .non)) .non))))))) (by kernel_rfl) (fun K hK=> ?_);refine Xz (Qv J J J (Qz (Xz (Ops.ineg J J (by omega) (by omega) J ?_))));refine Qz (Xz (Qv J J J (Qz (Xz (Qm J bIv J (.one J J J J (.one J J J J .nil)) J (Qz (Zz (Qa (n:=7) J J J J J lOut J (Qz (X5 ?_ ?_))))))))))
 · refine Qa (n:=7) J J J J J lOut J (Qz (Qp ?_ Qc));refine Q7 7 J J J J J szOut J J (Qz (Qp ?_ Qc));refine Q7 7 J J J J J szOut J J (Qz (Qp ?_ Qc));refine Q7 2 J J J J J szIv J J (Qz (Xz (Qy J J J (Qz (Xu (hK _ _ ?_))))));refine Qq (Q0 ?_);refine QK [_,_,_,_] rfl (Qd (n:=7) J J lOut J (Qd (n:=7) J J lOut J (Qd (n:=2) J J lIv J (Qu J QQ)))) J J
 refine Qp ?_ Qc
 refine Q7 7 J J J J J szOut J J (Qz (Zz (Qa (n:=7) J J J J J lOut J (Qz (Qp ?_ Qc)))));refine Q7 7 J J J J J szOut J J (Qz (Qp ?_ Qc));refine Q7 2 J J J J J szIv J J (Qz (Xz (Qy J J J (Qz (Xu (hK _ _ ?_))))));refine Qq (Q0 ?_);refine QK [_,_,_,_] rfl (Qd (n:=7) J J lOut J (Qd (n:=7) J J lOut J (Qd (n:=2) J J lIv J (Qu J QQ)))) J J
theorem goends:InGo prog 43:=InGo.of func43 rfl (by decide)
theorem ends_fine(l:List Rs)(hl:l.length<=10000)(mo qu:Int)(w:Wr)(h0:(rwO l mo qu).2.2=0)(hw:w∈(vrO l).1)(hu:Up cmpW (vrO l).1)(hvl:(vrO l).1.length<=16){O1 O2:Oc}{p:Int × Int}(hB:Ok prog 44 [rowsC (rwO l mo qu).1,intC (vrO l).1.length,intC (posD (vrO l).1 w)] (.fr (tupT [ocC O1,ocC O2,ivC p,intC 0]))):
  Ok prog 43 [rssC l,tiC mo qu,wrC w] (.fr (tupT [ocC O1,ocC O2,ivC p,intC 0])):=by
 have hR:=DRows_ok l hl mo qu;have hV:=Jq l hl;have hS:=BSearch_ok (vrO l).1 w hu (by omega);rw [decide_eq_true hw] at hS;rw [h0] at hR;generalize (rwO l mo qu).1=rs at hR hB;generalize (rwO l mo qu).2.1=is at hR;generalize (vrO l).2=ve at hV;generalize posD (vrO l).1 w=k at hS hB;generalize (vrO l).1=vs at hV hS hB;obtain ⟨q1,⟨g1,m1,d1⟩,o1,y1,u1⟩:=O1;obtain ⟨q2,⟨g2,m2,d2⟩,o2,y2,u2⟩:=O2
 refine Ok.enter func43 J _ ntmps43 J ?_
 intro S w0;refine Qj (Qx (Xx 3 J J J J J J J (Xx 4 J J J J J J J (Qb 0 J J zvOut J J J (Qb 1 J J zvOut J J J (Qb 2 J J zvIv J J J (Qy J J J (Qz (Qq (Qj ?_))))))))));refine Qx (Qv J J J (Qa (n:=2) J J J J J lTi J (QJ goDRows hR J J J J (Qv J J J (QV J J J J (QV J J J J (QV J J J J (Qk 3 J (Qz (Qq (Qj (Qj ?_))))))))))));refine Qx (Qv J J J (Qw ineq J J J J (Qz (Qq (Qt J (QU (Qq (Qj ?_))))))));refine Qx (Qv J J J (QJ goVariables hV J J J J (Qv J J J (QV J J J J (QV J J J J (Qk 2 J (Qz (Qq (Qj ?_)))))))));refine Qx (Qv J J J (Qa (n:=2) J J J J J YK J (QJ goBSearch hS J J J J (Qv J J J (QV J J J J (QV J J J J (Qk 2 J (Qz (Qq (Qj (Qj ?_)))))))))));refine Qx (Qv J J J (Qr J J J (Qz (Qq (Qt J (QU (Qq (Qj ?_))))))))
 refine Qx (Qk 2 J (Q9 J J sWrs.und (List.length_map ..) J (Qv J J J (QJ gobounds hB J J J J (QV J J J J (QV J J J J (QV J J J J (QV J J J J (Q7 7 J J J J J szOut J J (Q7 7 J J J J J szOut J J (Q7 2 J J J J J szIv J J (Qy J J J (Qz (Qq (Q0 ?_)))))))))))))));refine QK [_,_,_,_] rfl (Qd (n:=7) J J lOut J (Qd (n:=7) J J lOut J (Qd (n:=2) J J lIv J (Qu J QQ)))) J J
theorem goInterval:InGo prog 13:=InGo.of func13 rfl (by decide)
theorem Interval_fine(l:List Rs)(mo qu:Int)(w:Wr){O1 O2:Oc}{p:Int × Int}(hE:Ok prog 43 [rssC l,tiC mo qu,wrC w] (.fr (tupT [ocC O1,ocC O2,ivC p,intC 0]))):
  Ok prog 13 [rssC l,tiC mo qu,wrC w] (.fr (tupT [ivC p,intC 0])):=by
 obtain ⟨q1,⟨g1,m1,d1⟩,o1,y1,u1⟩:=O1;obtain ⟨q2,⟨g2,m2,d2⟩,o2,y2,u2⟩:=O2
 refine Ok.enter func13 J _ ntmps13 J ?_
 intro S w0;refine Qj (Qx (Xx 3 J J J J J J J (Xx 4 J J J J J J J (Qb 0 J J zvIv J J J (Qy J J J (Qz (Qq (Qj ?_))))))));refine Qx (Qv J J J (Qa (n:=2) J J J J J lTi J (Qa (n:=2) J J J J J YK J (QJ goends hE J J J J (Qv J J J (QV J J J J (QV J J J J (QV J J J J (QV J J J J (Qb 5 J J zvOut J J J (Qb 6 J J zvOut J J J (Qb 7 J J zvIv J J J (Q7 7 J J J J J szOut J J (Q7 7 J J J J J szOut J J (Q7 2 J J J J J szIv J J (Qy J J J (Qz (Qq (Qj ?_)))))))))))))))))));refine Qx (Qa (n:=2) J J J J J lIv J (Qv J J J (Q7 2 J J J J J szIv J J (Qy J J J (Qz (Qq (Q0 ?_)))))));refine QK [_,_] rfl (Qd (n:=2) J J lIv J (Qu J QQ)) J J
end Go.Proofs.YtojkdfilabmafaaGreat
namespace Go.Proofs.YtojkdfilabmafaaGreat
open Go.Own Go.Limbs Go.Proofs.Tryz
section
variable {d : List Int} {mo qu : Int}
theorem posD_wks{n i:Nat}(hn:n<=16)(hi:i<n):posD (wks 1 n) (wk (1+(i:Int)))=i:=by
 have hm:wk (1+(i:Int))∈wks 1 n:=wks_mem.2 ⟨i,hi,rfl⟩;obtain ⟨h1,h2⟩:=(posD_at (wks_up (c:=n) (by omega))).1 hm;generalize posD (wks 1 n) (wk (1+(i:Int)))=k at h1 h2;rw [wks_len] at h1
 have e:(wks 1 n).getD k wr0=wk (1+(k:Int)):=by
  unfold wks;rw [List.getD_eq_getElem?_getD,List.getElem?_map,List.getElem?_range h1];rfl
 rw [e] at h2;exact wk_inj (by omega) (by omega) h2
theorem yF_rwO(hd:d.length<=16)(hT:∀T∈d,0<=T/\ T<=1000000)(ht:tiB mo qu=true):∃is,rwO (yF 0 d) mo qu=(rowsY d mo qu,is,0):=by
 have hm:(msF (yF 0 d)).length=d.length:=by rw [yF_ms (by omega) hT,List.length_map,yF_len]
 have hv:=yF_vrO hd hT;unfold rwO;rw [hv];dsimp only;rw [if_neg (by rw [ht];decide),if_neg (fun h=>h J),if_neg (by rw [wks_len,hm];omega)];exact ⟨_,rfl⟩
theorem yF_rows_ok(hd:d.length<=16)(hT:∀T∈d,0<=T/\ T<=1000000)(ht:tiB mo qu=true):validR (d.length:Int) (rowsY d mo qu)=true:=by
 have hm:(msF (yF 0 d)).length=d.length:=by rw [yF_ms (by omega) hT,List.length_map,yF_len]
 have h:=rowsD_valid (vs:=wks 1 d.length) (ms:=msF (yF 0 d)) (mo:=mo) (qu:=qu) (by rw [wks_len];omega) (by rw [wks_len,hm];omega) (fun m hmm=>⟨me_wires _ m hmm,(me_time _ m hmm).2⟩) ht;rw [wks_len] at h;exact h
theorem Interval_chain(hd:d.length<=16)(hT:∀T∈d,0<=T/\ T<=1000000)(ht:tiB mo qu=true)(hG:Gap d mo qu){i:Nat}(hi:i<d.length):
  Ok prog 13 [rssC (yF 0 d),tiC mo qu,wrC (wk (1+(i:Int)))] (.fr (tupT [ivC (loY d qu i,hiY d qu i),intC 0])):=by
 have hrv:=yF_rows_ok hd hT ht;have hrl:=rowsY_len (mo:=mo) (qu:=qu) hd hT;obtain ⟨is,hrw⟩:=yF_rwO hd hT ht;have hvr:=yF_vrO hd hT;obtain ⟨O1,s1,k1⟩:=Solve_any hrv (unL_ok hi (f:= -1) (.inr rfl));obtain ⟨O2,s2,k2⟩:=Solve_any hrv (unL_ok hi (f:=1) (.inl rfl));obtain ⟨a1,b1⟩:=lo_sol hd hT hG hi s1;obtain ⟨a2,b2⟩:=hi_sol hd hT hG hi s2;have l1:=sol_len s1 (by omega);have l2:=sol_len s2 (by omega)
 have tb:∀t,t<=d.length ->0<=tmT d t/\ tmT d t<=1000000:=fun t ht=>by
  cases t with
  |zero=>rw [tmT_zero];exact ⟨by decide,by decide⟩
  |succ t=>
   rw [tmT_succ];exact hT _ (by rw [List.getD_eq_getElem?_getD,List.getElem?_eq_getElem (by omega)];exact List.getElem_mem _)
 have ht2:0<=mo/\ mo<=1073741824/\ 0<=qu/\ qu<=1073741824:=of_decide_eq_true ht;have t1:=tb i (by omega);have t2:=tb (i+1) (by omega)
 have hlo: -2000000000<=loY d qu i/\ loY d qu i<=2000000000:=by unfold loY;omega
 have hhi: -2000000000<=hiY d qu i/\ hiY d qu i<=3000000000:=by unfold hiY;split <;>omega
 have hll:loY d qu i<=hiY d qu i:=by unfold loY hiY;split <;>omega
 have f1:=flV_btw b1 (by omega) (by omega);have f2:=flV_btw b2 (by omega) (by omega)
 have e1:flV O1.value= -loY d qu i:=by omega
 have e2:flV O2.value=hiY d qu i:=by omega
 have hB:=bounds_fine d.length i hi hd (rowsY d mo qu) O1 O2 k1 k2 ⟨a1,l1.1,l1.2.1,l1.2.2 a1⟩ ⟨a2,l2.1,l2.2.1,l2.2.2 a2⟩ (by omega);rw [e1,e2,Int.neg_neg] at hB;refine Interval_fine (yF 0 d) mo qu _ (O1:=O1) (O2:=O2) (ends_fine (yF 0 d) (by rw [yF_len];omega) mo qu _ (by rw [hrw]) (by rw [hvr];exact wks_mem.2 ⟨i,hi,rfl⟩) (by rw [hvr];exact wks_up (by omega)) (by rw [hvr];dsimp only;rw [wks_len];exact hd) ?_);rw [hrw,hvr];dsimp only;rw [wks_len,posD_wks hd hi];exact hB
end
attribute [local irreducible] Go.Own.Fin Ok OkB OkF OkL OkM OkN OkT Ops St
theorem goreply:InGo prog 14:=InGo.of func14 rfl (by decide)
theorem reply_ok(n t T:Int)(h1:0<=n/\ n<=1000)(h2:0<=T/\ T<=1000000):Ok prog 14 [intC n,intC t,intC T,adrF (adN t)] (rsC (rpY n t T)):=by
 refine Ok.enter func14 J _ ntmps14 J ?_
 intro S w;refine Qj (Qx ?_);refine Qb 0 J J zvRes J J J (Qz (Qq (Qj ?_)));refine Qx (Qk 2 J (Qw (imul (by omega) (by omega)) J J J J ?_));refine Qk 2 J (Qw (imul (by omega) (by omega)) J J J J ?_);refine Qv J J J (Qw (iadd (by omega) (by omega)) J J J J ?_);refine Qv J J J (Qm J bAns J (.one J J J J (.one J J J J .nil)) J (Qm J bRes J (.one J J J J (.one J J J J (.one J J J J (.one J J J J (.one J J J J (.one J J J J (.one J J J J (.agg J J J J .nil)))))))) J (Q7 17 J J J J J szRes J J (Qz (Qq (Q0 ?_))))));refine QK [_] rfl (Qd (n:=17) J J lRes J QQ) J J
theorem bTi:bInfo prog 32=some (.agg #[.int .i64 0, .int .i64 0],[(0,some 1),(1,some 1)]):=by kernel_rfl
theorem szTi:(prog.info? 32).map (·.size)=some 2:=by kernel_rfl
theorem zvTi:(prog.info? 32).map (·.zero)=some (some (.agg #[.int .i64 0, .int .i64 0])):=by kernel_rfl
theorem eIv:EqS prog 39 [.i64, .i64]:=⟨by kernel_rfl,by kernel_rfl,by kernel_rfl,by kernel_rfl⟩
section
variable {X : Ctx} {L : AL} {B : BL} {ops : Array Oper} {K : Act → World → Prop} {r : Pl} {k : Kd}
  {x y z : Operand} {d : Nat} {t t2 t' : TypeId} {pos : String} {af : Array Edge} {g : Option (Nat × Bool)}
theorem eqIvT(p:Int × Int)(hg:gd ops L g=some true)(hx:ev L x=some (.ct (.fr (aggT (ivCs p)))))(hy:ev L y=some (.ct (.fr (aggT (ivCs p)))))(hP:X.P=prog)(hn:Nat.blt d X.n=true)
  (h:Ops X ops r ((d, .ct (boolC true))::L) B K):Ops X ops (.cons ⟨some d, .binOp .eql 39 x y t2,t',pos,af,g⟩ k r) L B K:=
 Ops.eqS (ks:=[.i64, .i64]) [p.1,p.2] [p.1,p.2] hg hx hy rfl rfl (hP▸eIv) hn (by rw [decide_eq_true rfl];exact h)
end
theorem goDAwake:InGo prog 9:=InGo.of func9 rfl (by decide)
theorem DAwake_ok:Ok prog 9 [] (boolC true):=by
 have hr1:Ok prog 14 [intC 0,intC 1,intC 10, .ex (.int .u32 1)] (rsC (rpY 0 1 10)):=reply_ok 0 1 10 (by decide) (by decide);have hr2:Ok prog 14 [intC 1,intC 2,intC 25, .ex (.int .u32 2)] (rsC (rpY 1 2 25)):=reply_ok 1 2 25 (by decide) (by decide)
 have hT:∀T∈ [(10:Int),25],0<=T/\ T<=1000000:=by decide
 have hti:tiB 100 2=true:=by decide
 have hG:Gap [(10:Int),25] 100 2:=⟨by decide,fun t ht=>by
  have:t=0 \/t=1:=by have:t<2:=ht;omega
  rcases this with rfl|rfl <;>decide⟩
 have hI1:Ok prog 13 [rssC (yF 0 [10,25]),tiC 100 2,wrC (0,1)] (.fr (tupT [ivC (8,10),intC 0])):=Interval_chain (d:=[10,25]) (by decide) hT hti hG (i:=0) (by decide);have hI2:Ok prog 13 [rssC (yF 0 [10,25]),tiC 100 2,wrC (1,2)] (.fr (tupT [ivC (13,17),intC 0])):=Interval_chain (d:=[10,25]) (by decide) hT hti hG (i:=1) (by decide);have hV:=Jq (yF 0 [10,25]) (by decide);rw [yF_vrO (d:=[10,25]) (by decide) hT] at hV;have hVl:(wks 1 [(10:Int),25].length).length=2:=wks_len 2;dsimp only at hV;generalize wks 1 [(10:Int),25].length=vs at hV hVl;have hD:=DValid_ok 100 2;rw [hti] at hD;have hl:CT.fr (sliceT 17 [rsCs (rpY 0 1 10),rsCs (rpY 1 2 25)])=rssC (yF 0 [10,25]):=rfl;rw [<- hl] at hI1 hI2 hV
 refine Ok.enter func9 J _ ntmps9 J ?_
 intro S w;refine Qj (Qx ?_);refine Qy J J J (Qz (Qq (Qj ?_)));refine Qx (QJ goreply hr1 J J J J (QJ goreply hr2 J J J J (Ops.lit (m:=2) (n:=17) (cs:=rsCs (rpY 0 1 10)++rsCs (rpY 1 2 25)) J J sRes (.agg J J J J (.agg J J J J .nil)) (by decide) J ?_)));refine Qy J J J (Qz (Qq (Qj ?_)));refine Qx (Qm J bTi J (.one J J J J (.one J J J J .nil)) J (Qb 0 J J zvTi J J J (Q7 2 J J J J J szTi J J (Qz (Qq (Qj ?_))))));refine Qx (Qv J J J (Qa (n:=2) J J J J J lTi J (Qm J bWire J (.one J J J J .nil) J (QJ goInterval hI1 J J J J (Qv J J J (QV J J J J (QV J J J J (Qb 1 J J zvIv J J J (Q7 2 J J J J J szIv J J (Qy J J J (Qz (Qq (Qj ?_)))))))))))));refine Qx (Qv J J J (Qa (n:=2) J J J J J lTi J (Qm J bWire J (.one J J J J (.one J J J J .nil)) J (QJ goInterval hI2 J J J J (Qv J J J (QV J J J J (QV J J J J (Qb 2 J J zvIv J J J (Q7 2 J J J J J szIv J J (Qy J J J (Qz (Qq (Qj ?_)))))))))))));refine Qx (Qv J J J (QJ goVariables hV J J J J (Qv J J J (QV J J J J (QV J J J J (Qk 2 J (Qz (Qq (Qj ?_)))))))))
 refine Qx (Qv J J J (Qw ieql J J J J (Qv J J J (Qa (n:=2) J J J J J lIv J (Qm J bIv J (.one J J J J (.one J J J J .nil)) J (eqIvT (8,10) J J J J J (Qk 3 J (Qw ieql J J J J (Qk 2 J (Qa (n:=2) J J J J J lIv J (Qm J bIv J (.one J J J J (.one J J J J .nil)) J (eqIvT (13,17) J J J J J (Qk 3 J (Qw ieql J J J J (Qk 3 J (Q9 J J sWrs.und (List.length_map ..) J (Qw ieql J J J J (Qk 2 J (Qe 57 J (fun _=> ?_) (fun g=>absurd (by show ((vs.length:Nat):Int)=2;omega) g))))))))))))))))))));refine Qa (n:=2) J J J J J lTi J (QJ goDValid hD J J J J (Qk 2 J (Qz (Qq (Q0 ?_)))));refine QK [_] rfl (Qu J QQ) J J
attribute [local irreducible] OkMv
def tmK (ws : List Wr) (ts : List Int) (w : Wr) : Nat → Int
  | 0 => 0
  | k + 1 => if ws.getD k wr0 = w then tmK ws ts w k + ts.getD k 0 else tmK ws ts w k
def prA (p : List Ad) : Nat → Ad
  | 0 => 0
  | i + 1 => p.getD i 0
def smK (ws : List Wr) (ts : List Int) (p : List Ad) : Nat → Int
  | 0 => 0
  | i + 1 => smK ws ts p i + tmK ws ts (prA p i, p.getD i 0) ws.length
def rpG (n t T : Int) (a : Ad) : Rs := ⟨0, 0, n, 100 * n, 9, 17, 0, t, true, false, 100 * n + T, a, 1, 0, 0, 0, 0⟩
def rpH (f n t T : Int) (a : Ad) : Rs := ⟨0, 0, n, 1000 * n, 9, 17, f, t, true, false, 1000 * n + T, a, 1, 0, 0, 0, 0⟩
theorem tmK_bd{ws:List Wr}{ts:List Int}(hts:∀x∈ts,0<=x/\ x<=60)(w:Wr):∀k,0<=tmK ws ts w k/\ tmK ws ts w k<=60*k
 |0=>⟨Int.le_refl _,Int.le_refl _⟩
 |k+1=>by
  have h:=tmK_bd (ws:=ws) hts w k
  have h2:0<=ts.getD k 0/\ ts.getD k 0<=60:=by
   rw [List.getD_eq_getElem?_getD]
   cases e:ts[k]? with
   |none=>exact ⟨Int.le_refl _,by decide⟩
   |some x=>exact hts x (List.mem_of_getElem? e)
  unfold tmK
  split <;>omega
theorem smK_bd{ws:List Wr}{ts:List Int}(hts:∀x∈ts,0<=x/\ x<=60)(hws:ws.length<=16)(p:List Ad):∀i,0<=smK ws ts p i/\ smK ws ts p i<=960*i
 |0=>⟨Int.le_refl _,Int.le_refl _⟩
 |i+1=>by
  have h:=smK_bd hts hws p i
  have h2:=tmK_bd (ws:=ws) hts (prA p i,p.getD i 0) ws.length
  unfold smK
  omega
theorem lPCod:Ld1 prog 29:=Ld1.of _ underlying29 rfl
theorem zRess:(prog.info? 24).map (·.size)=some 1:=by kernel_rfl
theorem replyG_ok(n t T:Int)(a:Ad)(h1:0<=n/\ n<=1000)(h2:0<=T/\ T<=1000000):Ok prog 14 [intC n,intC t,intC T,adrF a] (rsC (rpG n t T a)):=by
 refine Ok.enter func14 J _ ntmps14 J ?_
 intro S w;refine Qj (Qx ?_);refine Qb 0 J J zvRes J J J (Qz (Qq (Qj ?_)));refine Qx (Qk 2 J (Qw (imul (by omega) (by omega)) J J J J ?_));refine Qk 2 J (Qw (imul (by omega) (by omega)) J J J J ?_);refine Qv J J J (Qw (iadd (by omega) (by omega)) J J J J ?_);refine Qv J J J (Qm J bAns J (.one J J J J (.one J J J J .nil)) J (Qm J bRes J (.one J J J J (.one J J J J (.one J J J J (.one J J J J (.one J J J J (.one J J J J (.one J J J J (.agg J J J J .nil)))))))) J (Q7 17 J J J J J szRes J J (Qz (Qq (Q0 ?_))))));refine QK [_] rfl (Qd (n:=17) J J lRes J QQ) J J
abbrev trB (ps : List (List Ad)) (ws : List Wr) (ts : List Int) (vc : Value) (q : Int) (bs : List Int) (ho : Value) (out : List Rs) (c : Nat) : BL :=
  [(13, .box 94 [pthsC ps]), (10, .box 25 [wrsC ws]), (11, .box 26 [intsC ts]), (12, .box 24 [.ex ho]), (22, .rowx ho 47 17 (rss out)), (9, .box 29 [.ex vc]), (0, .box 98 (codes bs c)), (4, .box 3 [intC q])]
theorem gotruth1:InGo prog 41:=InGo.of func41 rfl (by decide)
set_option maxRecDepth 20000 in
theorem truth1_ok(bs:List Int)(hb:Bytes bs)(ps:List (List Ad))(ws:List Wr)(ts:List Int)(f t q:Int)(out:List Rs)(c0:Nat)(vc ho v13 v10 v11 v12 v9 v4:Value)
  (hf:0<=f/\ f<ps.length) (hps:ps.length<=16) (hpl:(ps.getD f.toNat []).length<=16) (ht:1<=t/\ t<=(ps.getD f.toNat []).length) (hws:ws.length=ts.length) (hwl:ws.length<=16)
  (hts:∀x∈ts,0<=x/\ x<=60) (hq:0<=q/\ q<=100) (hol:out.length<=100):
  OkMv prog 41 [.ct (intC f), .ct (intC t), .own 13, .own 10, .own 11, .own 12, .own 9, .own 4] (trB ps ws ts vc q bs ho out c0) [(13,v13),(10,v10),(11,v11),(12,v12),(9,v9),(0,vc),(4,v4)]
   (fun x:Int × Nat × Value=>((0<=x.1/\ x.1<=q)/\ x.2.2.oneCell' =true)/\ (x.1,x.2.1)=nxt bs c0 (q+1)) (fun _=> .ct (retC []))
   (fun x=>trB ps ws ts vc q bs x.2.2 (out++ [rpH f out.length t (smK ws ts (ps.getD f.toNat []) t.toNat+x.1) ((ps.getD f.toNat []).getD (t - 1).toNat 0)]) x.2.1):=by
 have hpA:=pths_at (ps:=ps) hf.1 hf.2;generalize hp:ps.getD f.toNat []=p at*;have hsB:=smK_bd hts hwl p;have htB:=tmK_bd (ws:=ws) hts
 refine OkMv.enter func41 J _ ntmps41 J (fun i hi=>by simp only [List.map_cons,List.map_nil,List.mem_cons,List.not_mem_nil,or_false] at hi;rcases hi with rfl|rfl|rfl|rfl|rfl|rfl|rfl <;>rfl) ?_
 intro S w ρ0 hbor hv;have e0:ρ0 0=vc:=hv (0,vc) (by simp);clear hv
 have htk:(p.take t.toNat).length=t.toNat:=by rw [List.length_take];omega
 refine Qj (Qx ?_);refine Qk 2 J (Qz (Qq (Qj (Qj ?_))));refine Qx (ZK J J J J J lPths J (Qv J J J (Ql J J J sPths (by omega) hpA J ?_)));refine Xj J J J lAdrs J (Qv J J J (Ops.cutHi J J J sAdrs (by omega) (by rw [List.length_map];omega) J ?_));rw [<- List.map_take];refine Q9 J J sAdrs.und (List.length_map ..) J (Qv J J J (Qz (Qq (Q2 ?_))));rw [htk]
 refine Qn (α:=Nat) (fun i=>i<=t.toNat)
  (fun i=>[(0, .ct (intC f)),(1, .ct (intC t)),(2, .own 13),(3, .own 10),(4, .own 11),(5, .own 12),(6, .own 9),(7, .own 4),(10, .ct (intC (smK ws ts p i))),(11, .ct (adrF (prA p i))),(22, .ct (adrsC (p.take t.toNat))),(23, .ct (intC t.toNat)),(24, .ct (intC i))])
  (fun _=>trB ps ws ts vc q bs ho out c0) (fun i=>t.toNat - i) 0 (Nat.zero_le _) (by exact QX J ⟨rfl,rfl,rfl,rfl,rfl,rfl,rfl,rfl,rfl,rfl,rfl,rfl,rfl,trivial⟩) ?_
 intro i hi;have hB:=hsB i
 try dsimp only at hi ⊢
 refine Qj (Qx ?_);refine Qw ilss J J J J (Qz (Qq (Qj ?_)));refine Q1 J (fun h=> ?_) (fun h=> ?_);rotate_left
 · have hi' :i=t.toNat:=by omega
   clear htk;subst hi';generalize smK ws ts p t.toNat=s at hB ⊢;refine Qi (Qq (Qj ?_))
   refine YW (α:=Int × Nat) (fun x=>(0<=x.1/\ x.1<q+1)/\ x=nxt bs c0 (q+1)) (fun _=>[(0, .ct (intC f)),(5, .own 12),(16, .own 1)])
    (fun x=>(1, .box 47 (rsCs (rpG out.length t (s+x.1) (p.getD (t - 1).toNat 0))))::trB ps ws ts vc q bs ho out x.2) (fun x hx=> ?_) (fun KN hM=> ?_)
   rotate_left
   · refine Y0 mixed [7,19] (.p 2 (.p 3 (.p 10 (.p 13 (.p 14 (.f 4 (.f 5 (.p 6 (.m 0 (.p 1 (.a 7 (.p 8 (.f 9 (.p 11 (.f 12 (.p 15 (.f 16 (.m 17 (.m 18 (.a 19 .done .non) .non) (.m 18 (.m 17 (.a 19 .done .non) .non) .non)))))))) (.m 9 (.p 11 (.a 7 (.p 8 (.f 12 (.p 15 (.f 16 (.m 17 (.m 18 (.a 19 .done .non) .non) (.m 18 (.m 17 (.a 19 .done .non) .non) .non)))))) (.m 12 (.p 15 (.a 7 (.p 8 (.f 16 (.m 17 (.m 18 (.a 19 .done .non) .non) (.m 18 (.m 17 (.a 19 .done .non) .non) .non)))) (.m 16 (.a 7 (.p 8 (.m 17 (.m 18 (.a 19 .done .non) .non) (.m 18 (.m 17 (.a 19 .done .non) .non) .non))) (.m 18 (.a 7 (.p 8 (.m 17 (.a 19 .done .non) .non)) .non) .non)) (.m 18 (.a 7 (.p 8 (.f 16 (.m 17 (.a 19 .done .non) .non))) (.m 16 (.a 7 (.p 8 (.m 17 (.a 19 .done .non) .non)) .non) .non)) .non)))) (.m 18 (.a 7 (.p 8 (.f 12 (.p 15 (.f 16 (.m 17 (.a 19 .done .non) .non))))) (.m 12 (.p 15 (.a 7 (.p 8 (.f 16 (.m 17 (.a 19 .done .non) .non))) (.m 16 (.a 7 (.p 8 (.m 17 (.a 19 .done .non) .non)) .non) .non))) .non)) .non)))) (.m 18 (.a 7 (.p 8 (.f 9 (.p 11 (.f 12 (.p 15 (.f 16 (.m 17 (.a 19 .done .non) .non))))))) (.m 9 (.p 11 (.a 7 (.p 8 (.f 12 (.p 15 (.f 16 (.m 17 (.a 19 .done .non) .non))))) (.m 12 (.p 15 (.a 7 (.p 8 (.f 16 (.m 17 (.a 19 .done .non) .non))) (.m 16 (.a 7 (.p 8 (.m 17 (.a 19 .done .non) .non)) .non) .non))) .non))) .non)) .non)))) (.a 7 (.p 8 (.f 0 (.p 1 (.f 9 (.p 11 (.f 12 (.p 15 (.f 16 (.m 17 (.m 18 (.a 19 .done .non) .non) (.m 18 (.m 17 (.a 19 .done .non) .non) .non)))))))))) (.m 9 (.p 11 (.m 0 (.p 1 (.a 7 (.p 8 (.f 12 (.p 15 (.f 16 (.m 17 (.m 18 (.a 19 .done .non) .non) (.m 18 (.m 17 (.a 19 .done .non) .non) .non)))))) (.m 12 (.p 15 (.a 7 (.p 8 (.f 16 (.m 17 (.m 18 (.a 19 .done .non) .non) (.m 18 (.m 17 (.a 19 .done .non) .non) .non)))) (.m 16 (.a 7 (.p 8 (.m 17 (.m 18 (.a 19 .done .non) .non) (.m 18 (.m 17 (.a 19 .done .non) .non) .non))) (.m 18 (.a 7 (.p 8 (.m 17 (.a 19 .done .non) .non)) .non) .non)) (.m 18 (.a 7 (.p 8 (.f 16 (.m 17 (.a 19 .done .non) .non))) (.m 16 (.a 7 (.p 8 (.m 17 (.a 19 .done .non) .non)) .non) .non)) .non)))) (.m 18 (.a 7 (.p 8 (.f 12 (.p 15 (.f 16 (.m 17 (.a 19 .done .non) .non))))) (.m 12 (.p 15 (.a 7 (.p 8 (.f 16 (.m 17 (.a 19 .done .non) .non))) (.m 16 (.a 7 (.p 8 (.m 17 (.a 19 .done .non) .non)) .non) .non))) .non)) .non)))) (.a 7 (.p 8 (.f 0 (.p 1 (.f 12 (.p 15 (.f 16 (.m 17 (.m 18 (.a 19 .done .non) .non) (.m 18 (.m 17 (.a 19 .done .non) .non) .non)))))))) (.m 12 (.p 15 (.m 0 (.p 1 (.a 7 (.p 8 (.f 16 (.m 17 (.m 18 (.a 19 .done .non) .non) (.m 18 (.m 17 (.a 19 .done .non) .non) .non)))) (.m 16 (.a 7 (.p 8 (.m 17 (.m 18 (.a 19 .done .non) .non) (.m 18 (.m 17 (.a 19 .done .non) .non) .non))) (.m 18 (.a 7 (.p 8 (.m 17 (.a 19 .done .non) .non)) .non) .non)) (.m 18 (.a 7 (.p 8 (.f 16 (.m 17 (.a 19 .done .non) .non))) (.m 16 (.a 7 (.p 8 (.m 17 (.a 19 .done .non) .non)) .non) .non)) .non)))) (.a 7 (.p 8 (.f 0 (.p 1 (.f 16 (.m 17 (.m 18 (.a 19 .done .non) .non) (.m 18 (.m 17 (.a 19 .done .non) .non) .non)))))) (.m 16 (.m 0 (.p 1 (.a 7 (.p 8 (.m 17 (.m 18 (.a 19 .done .non) .non) (.m 18 (.m 17 (.a 19 .done .non) .non) .non))) (.m 18 (.a 7 (.p 8 (.m 17 (.a 19 .done .non) .non)) .non) .non))) (.a 7 (.p 8 (.f 0 (.p 1 (.m 17 (.m 18 (.a 19 .done .non) .non) (.m 18 (.m 17 (.a 19 .done .non) .non) .non))))) (.m 18 (.m 0 (.p 1 (.a 7 (.p 8 (.m 17 (.a 19 .done .non) .non)) .non)) (.a 7 (.p 8 (.f 0 (.p 1 (.m 17 (.a 19 .done .non) .non)))) .non)) .non))) (.m 18 (.m 0 (.p 1 (.a 7 (.p 8 (.f 16 (.m 17 (.a 19 .done .non) .non))) (.m 16 (.a 7 (.p 8 (.m 17 (.a 19 .done .non) .non)) .non) .non))) (.a 7 (.p 8 (.f 0 (.p 1 (.f 16 (.m 17 (.a 19 .done .non) .non))))) (.m 16 (.m 0 (.p 1 (.a 7 (.p 8 (.m 17 (.a 19 .done .non) .non)) .non)) (.a 7 (.p 8 (.f 0 (.p 1 (.m 17 (.a 19 .done .non) .non)))) .non)) .non))) .non))))) (.m 18 (.m 0 (.p 1 (.a 7 (.p 8 (.f 12 (.p 15 (.f 16 (.m 17 (.a 19 .done .non) .non))))) (.m 12 (.p 15 (.a 7 (.p 8 (.f 16 (.m 17 (.a 19 .done .non) .non))) (.m 16 (.a 7 (.p 8 (.m 17 (.a 19 .done .non) .non)) .non) .non))) .non))) (.a 7 (.p 8 (.f 0 (.p 1 (.f 12 (.p 15 (.f 16 (.m 17 (.a 19 .done .non) .non))))))) (.m 12 (.p 15 (.m 0 (.p 1 (.a 7 (.p 8 (.f 16 (.m 17 (.a 19 .done .non) .non))) (.m 16 (.a 7 (.p 8 (.m 17 (.a 19 .done .non) .non)) .non) .non))) (.a 7 (.p 8 (.f 0 (.p 1 (.f 16 (.m 17 (.a 19 .done .non) .non))))) (.m 16 (.m 0 (.p 1 (.a 7 (.p 8 (.m 17 (.a 19 .done .non) .non)) .non)) (.a 7 (.p 8 (.f 0 (.p 1 (.m 17 (.a 19 .done .non) .non)))) .non)) .non)))) .non))) .non))))) (.m 18 (.m 0 (.p 1 (.a 7 (.p 8 (.f 9 (.p 11 (.f 12 (.p 15 (.f 16 (.m 17 (.a 19 .done .non) .non))))))) (.m 9 (.p 11 (.a 7 (.p 8 (.f 12 (.p 15 (.f 16 (.m 17 (.a 19 .done .non) .non))))) (.m 12 (.p 15 (.a 7 (.p 8 (.f 16 (.m 17 (.a 19 .done .non) .non))) (.m 16 (.a 7 (.p 8 (.m 17 (.a 19 .done .non) .non)) .non) .non))) .non))) .non))) (.a 7 (.p 8 (.f 0 (.p 1 (.f 9 (.p 11 (.f 12 (.p 15 (.f 16 (.m 17 (.a 19 .done .non) .non))))))))) (.m 9 (.p 11 (.m 0 (.p 1 (.a 7 (.p 8 (.f 12 (.p 15 (.f 16 (.m 17 (.a 19 .done .non) .non))))) (.m 12 (.p 15 (.a 7 (.p 8 (.f 16 (.m 17 (.a 19 .done .non) .non))) (.m 16 (.a 7 (.p 8 (.m 17 (.a 19 .done .non) .non)) .non) .non))) .non))) (.a 7 (.p 8 (.f 0 (.p 1 (.f 12 (.p 15 (.f 16 (.m 17 (.a 19 .done .non) .non))))))) (.m 12 (.p 15 (.m 0 (.p 1 (.a 7 (.p 8 (.f 16 (.m 17 (.a 19 .done .non) .non))) (.m 16 (.a 7 (.p 8 (.m 17 (.a 19 .done .non) .non)) .non) .non))) (.a 7 (.p 8 (.f 0 (.p 1 (.f 16 (.m 17 (.a 19 .done .non) .non))))) (.m 16 (.m 0 (.p 1 (.a 7 (.p 8 (.m 17 (.a 19 .done .non) .non)) .non)) (.a 7 (.p 8 (.f 0 (.p 1 (.m 17 (.a 19 .done .non) .non)))) .non)) .non)))) .non)))) .non))) .non)))))))))))) (by kernel_rfl) (fun K hK=> ?_)
     repeat' (first
      |refine Qc
      |refine Xz ?_
      |refine Zz ?_
      |refine X5 ?_ ?_
      |refine Qp ?_ ?_
      |refine Qz ?_
      |refine Qv J J J ?_
      |refine ZK J J J J J (by with_reducible first|exact lRess|exact lPCod|exact lInt|exact lPths) J ?_
      |refine Qw (iadd (by omega) (by omega)) J J J J ?_
      |refine Qw (isub (by omega) (by omega)) J J J J ?_
      |refine Ql J J J sPths (by omega) hpA J ?_
      |refine Ql J J J sAdrs (by omega) (adrs_at (by omega) (by omega)) J ?_
      |refine Xj J J J (by with_reducible first|exact lAdrs|exact lAddr) J ?_
      |refine Qb 1 J J zvRes J J J ?_
      |refine Q7 17 J J J J J szRes J J ?_
      |refine Ops.linkX 49 22 J J (Ops.lenX _ J J J (by decide) (rss_len _) sRes.und J ?_)
      |(refine Yq 53 0 J J e0 (Zf goNext (NextD_ok bs c0 (q+1) (by omega) (by omega) hb) J J J J J (fun z hz=> ?_))
        obtain ⟨u,c1⟩:=z
        dsimp only at hz ⊢)
      |refine QJ goreply (replyG_ok out.length t _ _ (by omega) (by omega)) J J J J ?_
      |(refine Xu (hK _ _ ?_)
        exact XQ hM (u,c1) hz (QX J ⟨rfl,rfl,rfl,trivial⟩)))
   obtain ⟨u,c1⟩:=x;dsimp only at hx ⊢;clear hsB htB;generalize p.getD (t - 1).toNat 0=a
   have eH:rpH f out.length t (s+u) a=⟨0,0,out.length,1000*out.length,9,17,f,t,true,false,1000*out.length+(100*out.length+(s+u)) - 100*out.length,a,1,0,0,0,0⟩:=by
    unfold rpH;rw [show (1000*(out.length:Int)+(100*out.length+(s+u)) - 100*out.length)=1000*out.length+(s+u) by omega]
   refine Qj ?_
   refine YW (α:=Unit) (fun _=>True) (fun _=>[(5, .own 12),(16, .own 1)])
    (fun _=>(1, .box 47 (rsCs (rpH f out.length t (s+u) a)))::trB ps ws ts vc q bs ho out c1) (fun _ _=> ?_) (fun KN hM=> ?_)
   rotate_left
   · rw [eH] at hM;refine Y0 mixed [14,16,18] (.p 6 (.p 9 (.p 12 (.f 0 (.p 1 (.p 2 (.f 7 (.f 10 (.p 13 (.m 3 (.p 4 (.p 5 (.p 8 (.p 11 (.a 14 (.p 15 (.a 16 (.p 17 (.a 18 .done .non)) .non)) .non))))) (.a 14 (.f 3 (.p 4 (.p 5 (.p 8 (.p 11 (.p 15 (.a 16 (.p 17 (.a 18 .done .non)) .non))))))) .non))))))))))) (by kernel_rfl) (fun K hK=> ?_)
     repeat' (first
      |refine Qc
      |refine Xz ?_
      |refine Zz ?_
      |refine X5 ?_ ?_
      |refine Qp ?_ ?_
      |refine Qz ?_
      |refine Qv J J J ?_
      |refine ZK J J J J J lRess J ?_
      |refine Ops.linkX 67 22 J J (Ops.lenX _ J J J (by decide) (rss_len _) sRes.und J ?_)
      |refine Ops.linkX 70 22 J J (Ops.lenX _ J J J (by decide) (rss_len _) sRes.und J ?_)
      |refine Qw (imul (by omega) (by omega)) J J J J ?_
      |refine Qw (iadd (by dsimp only [rpG];omega) (by dsimp only [rpG];omega)) J J J J ?_
      |refine Qw (isub (by dsimp only [rpG];omega) (by dsimp only [rpG];omega)) J J J J ?_
      |refine QY J J J (by with_reducible first|exact fS10|exact fS3|exact fS6) J ?_
      |refine QZ J J J J J lInt J ?_
      |refine Xw J J J J J zInt (Nat.le_of_ble_eq_true J) ?_
      |(refine Xu (hK _ _ ?_)
        exact XQ hM () trivial (QX J ⟨rfl,rfl,trivial⟩)))
   generalize hr:rpH f out.length t (s+u) a=rr;refine Qx (ZK J J J J J lRess J (Xd 83 22 J J (Qa (n:=17) J J J J J lRes J (Za (n:=17) J J sRes J J (by decide) J ?_))))
   refine Qo out.length (rss (out++ [rr])) J J J J sRes (rss_len out) J (by omega) (by omega) (rss_snoc out rr) J ?_
   refine Ops.name 86 22 J J (fun v hv=> ?_);refine Ops.st1O J J J J hv zRess (Qz (Fin.endMC [1] (u,c1,v) [] rfl QQ J J (fun _=>by rw [<- hr];rfl) ⟨⟨⟨hx.1.1,by omega⟩,hv⟩,hx.2⟩))
 refine QU (Qq (Qj (Q2 (Qj (Qx ?_)))))
 refine Ql J J J sAdrs (by omega) (adrs_at (by omega) (by omega)) J ?_
 have egi:(p.take t.toNat).getD i 0=p.getD i 0:=by
  rw [List.getD_eq_getElem?_getD,List.getD_eq_getElem?_getD,List.getElem?_take_of_lt (by omega)]
 rw [show (i:Int).toNat=i from rfl,egi];refine Xj J J J lAddr J (Qy J J J (Qz (Qq (Qj (Qj ?_)))));refine Qx (ZK J J J J J lWrs1 J (Q9 J J sWrs.und (List.length_map ..) J (Qv J J J (Qz (Qq (Q2 ?_))))));have e0k:tmK ws ts (prA p i,p.getD i 0) 0=0:=rfl;have eS:smK ws ts p (i+1)=smK ws ts p i+tmK ws ts (prA p i,p.getD i 0) ws.length:=rfl;have eP:prA p (i+1)=p.getD i 0:=rfl;have hT:=htB (prA p i,p.getD i 0)
 have hst:∀k,tmK ws ts (prA p i,p.getD i 0) (k+1)=if ws.getD k wr0=(prA p i,p.getD i 0) then tmK ws ts (prA p i,p.getD i 0) k+ts.getD k 0 else tmK ws ts (prA p i,p.getD i 0) k:=fun _=>rfl
 clear htB hsB egi hpA;generalize smK ws ts p i=s0 at hB eS;generalize prA p i=la at*;generalize p.getD i 0=a at*;generalize tmK ws ts (la,a)=tm at*
 refine Qn (α:=Nat) (fun k=>k<=ws.length)
  (fun k=>[(0, .ct (intC f)),(1, .ct (intC t)),(2, .own 13),(3, .own 10),(4, .own 11),(5, .own 12),(6, .own 9),(7, .own 4),(10, .ct (intC (s0+tm k))),(11, .ct (adrF la)),(13, .ct (adrF a)),(22, .ct (adrsC (p.take t.toNat))),(23, .ct (intC t.toNat)),(24, .ct (intC i)),(28, .ct (wrsC ws)),(29, .ct (intC ws.length)),(30, .ct (intC k))])
  (fun _=>trB ps ws ts vc q bs ho out c0) (fun k=>ws.length - k) 0 (Nat.zero_le _) (by rw [e0k,Int.add_zero];exact QX J ⟨rfl,rfl,rfl,rfl,rfl,rfl,rfl,rfl,rfl,rfl,rfl,rfl,rfl,rfl,rfl,rfl,rfl,trivial⟩) ?_
 intro k hk;have hTk:=hT k;have hst:=hst k
 try dsimp only at hk ⊢
 refine Qj (Qx ?_);refine Qw ilss J J J J (Qz (Qq (Qj ?_)));refine Q1 J (fun g=> ?_) (fun g=> ?_);rotate_left
 · have hk' :k=ws.length:=by omega
   subst hk';refine Qi (Qq (Qx ?_));refine Qk 2 J (Qz (Qq ?_));refine Qx (Qw (iadd (by omega) (by omega)) J J J J ?_);refine Qv J J J (Qz (Q5 ?_));refine Q6 (i+1) (by omega) (by omega) (by rw [eS,eP];exact QX J ⟨rfl,rfl,rfl,rfl,rfl,rfl,rfl,rfl,rfl,rfl,rfl,rfl,by simp only [Int.natCast_add];rfl,trivial⟩)
 refine QU (Qq (Qj (Q2 (Qj (Qx ?_)))));refine Qv J J J (Ql J J J sWrs (by omega) (wrs_at (by omega) (by omega)) J ?_);rw [show (k:Int).toNat=k from rfl];generalize ws.getD k wr0=x at hst;refine Xe (n:=2) J J J YK J J (Qb 1 J J zvWire J J J (Qy J J J (Q7 2 J J J J J szWire J J (Qz (Qq (Qj ?_))))));refine Qx (Qa (n:=2) J J J J J YK J (Qk 2 J (Qm J bWire J (.one J J J J (.one J J J J .nil)) J (eqWr x (la,a) J J J J J (Qz (Qq ?_))))));refine Q1 J (fun g2=> ?_) (fun g2=> ?_)
 · rw [if_pos g2] at hst
   have hz:0<=ts.getD (k:Int).toNat 0/\ ts.getD (k:Int).toNat 0<=60:=hts _ (by
    show ts.getD k 0∈ts
    rw [List.getD_eq_getElem?_getD,List.getElem?_eq_getElem (by omega)];exact List.getElem_mem _)
   have hst:tm (k+1)=tm k+ts.getD (k:Int).toNat 0:=hst;refine Qx (Qv J J J (ZK J J J J J lInts J (Qv J J J (Ql J J J sInts (by omega) (XK (by omega) (by omega)) J ?_))));refine Xj J J J lInt J (Qw (iadd (by omega) (by omega)) J J J J ?_);refine Qy J J J (Qz (Qq ?_));refine Qx (Qw (iadd (by omega) (by omega)) J J J J ?_);refine Qv J J J (Qz (Q5 ?_));refine Xv 1 (Q6 (k+1) (by omega) (by omega) (by rw [hst,<- Int.add_assoc];exact QX J ⟨rfl,rfl,rfl,rfl,rfl,rfl,rfl,rfl,rfl,rfl,rfl,rfl,rfl,rfl,rfl,rfl,by simp only [Int.natCast_add];rfl,trivial⟩))
 · rw [if_neg g2] at hst;refine QU (Qq (Qx ?_))
   refine Qw (iadd (by omega) (by omega)) J J J J ?_
   refine Qv J J J (Qz (Q5 ?_));refine Xv 1 (Q6 (k+1) (by omega) (by omega) (by rw [hst];exact QX J ⟨rfl,rfl,rfl,rfl,rfl,rfl,rfl,rfl,rfl,rfl,rfl,rfl,rfl,rfl,rfl,rfl,by simp only [Int.natCast_add];rfl,trivial⟩))
abbrev ptT : List (List Ad) := [[1, 2, 3, 4], [1, 5, 3, 6]]
def wiA (ws : List Wr) (p : List Ad) : Nat → List Wr
  | 0 => ws
  | i + 1 => if (prA p i, p.getD i 0) ∈ wiA ws p i then wiA ws p i else wiA ws p i ++ [(prA p i, p.getD i 0)]
def wiB : Nat → List Wr
  | 0 => []
  | f + 1 => wiA (wiB f) (ptT.getD f []) 4
def drT (bs : List Int) : Nat → List Int × Nat
  | 0 => ([], 0)
  | k + 1 => ((drT bs k).1 ++ [(nxt bs (drT bs k).2 60).1], (nxt bs (drT bs k).2 60).2)
theorem drT_snoc{bs ts:List Int}{c c1 k:Nat}{u:Int}(h:(ts,c)=drT bs k)(h2:(u,c1)=nxt bs c 60):(ts++ [u],c1)=drT bs (k+1):=by
 show _=((drT bs k).1++ [(nxt bs (drT bs k).2 60).1],(nxt bs (drT bs k).2 60).2);rw [<- h];dsimp only;rw [<- h2]
theorem wiA_len(ws:List Wr)(p:List Ad):∀i,(wiA ws p i).length<=ws.length+i
 |0=>Nat.le_refl _
 |i+1=>by
  have h:=wiA_len ws p i
  unfold wiA
  split
  · omega
  · rw [List.length_append];simp only [List.length_cons,List.length_nil];omega
theorem wiB_len:∀f,(wiB f).length<=4*f
 |0=>Nat.le_refl _
 |f+1=>by
  have h:=wiB_len f
  have h2:=wiA_len (wiB f) (ptT.getD f []) 4
  unfold wiB
  omega
theorem zvWrs:(prog.info? 25).map (·.zero)=some (some (.slice none 0 0)):=by kernel_rfl
theorem zvInts:(prog.info? 26).map (·.zero)=some (some (.slice none 0 0)):=by kernel_rfl
theorem zvRess:(prog.info? 24).map (·.zero)=some (some (.slice none 0 0)):=by kernel_rfl
theorem zvPths:(prog.info? 94).map (·.zero)=some (some (.slice none 0 0)):=by kernel_rfl
theorem zvPCod:(prog.info? 29).map (·.zero)=some (some (.pointer none)):=by kernel_rfl
theorem szPCod:(prog.info? 29).map (·.size)=some 1:=by kernel_rfl
theorem szWrs:(prog.info? 25).map (·.size)=some 1:=by kernel_rfl
theorem szIntsT:(prog.info? 26).map (·.size)=some 1:=by kernel_rfl
abbrev nilV : Value := .slice none 0 0
abbrev trE (q : Int) (bs : List Int) (vc : Value) (ws : List Wr) (ts : List Int) (h1 h2 : Value) (c : Nat) : BL :=
  [(21, .rowx h1 3 1 (ints ts)), (20, .rowx h2 37 2 (wrs ws)), (13, .box 94 [pthsC ptT]), (12, .box 24 [.ex nilV]), (11, .box 26 [.ex h1]), (10, .box 25 [.ex h2]), (9, .box 29 [.ex vc]), (0, .box 98 (codes bs c)), (4, .box 3 [intC q])]
set_option maxRecDepth 20000 in
theorem truth_begin(l:List Int)(hb:Bytes (l.take 400))(q more:Int)(S:BSet)(w:World)(ρ0:Nat ->Value){Q:Exit ->Act ->World ->Prop}
  (h:∀(ts:List Int) (c1:Nat) (vc h1 h2:Value),ts.length=(wiB 2).length ->(∀x∈ts,0<=x/\ x<=60) ->(ts,c1)=drT (l.take 400) (wiB 2).length ->vc.oneCell' =true ->
   St ((lentM prog 127 S w [] [] ρ0).pin 0 vc) [(2, .ct (intC more)),(4, .own 4),(9, .own 9),(10, .own 10),(11, .own 11),(12, .own 12),(13, .own 13)] (trE q (l.take 400) vc (wiB 2) ts h1 h2 c1)
    (seqR (seqR (seqR (seqR (seqR (seqR (seqR (bodyOf Tryz.f10)))))))) Q):
  St (lentM prog 127 S w [] [] ρ0) (argS 0 [.ct (bytesC l), .ct (intC q), .ct (intC more)]) [] (bodyOf Tryz.f10) Q:=by
 refine Qj (Qx (Ops.box1 4 J J J J J J J (Qk 3 J (Qz (Qq (Qj (Qx (Qv J J J (Ops.callN 0 goRoll (Roll_ok l) J J J J J J (Qb 9 J J zvPCod J J J (Ops.pin 0 J (fun vc hvc=> ?_))))))))))));refine Ops.nameB 29 0 J J (Ops.st1O J J J J hvc szPCod (Qz (Qq (Qj (Qx ?_)))));refine Qb 10 J J zvWrs J J J (Qz (Qq (Qj ?_)));refine Qx (Qb 11 J J zvInts J J J (Qz (Qq (Qj ?_))));refine Qx (Qb 12 J J zvRess J J J (Qz (Qq (Qj ?_))));refine Qx (Ops.lit (m:=4) (n:=1) (cs:=adrs [1,2,3,4]) J J sAdrs (.one J J J J (.one J J J J (.one J J J J (.one J J J J .nil)))) (by decide) J ?_)
 refine Ops.lit (m:=4) (n:=1) (cs:=adrs [1,5,3,6]) J J sAdrs (.one J J J J (.one J J J J (.one J J J J (.one J J J J .nil)))) (by decide) J ?_
 refine Ops.lit (m:=2) (n:=1) (cs:=pths ptT) J J sPths (.one J J J J (.one J J J J .nil)) (by decide) J ?_
 refine Qb 13 J J zvPths J J J (Ops.st1O J J J J J zPths (Qz (Qq (St.nilX 20 37 2 J J (St.nilX 21 3 1 J J (Qj ?_))))))
 refine YW (α:=List Int × Nat × Value × Value) (fun x=>x.1.length=(wiB 2).length/\ (∀y∈x.1,0<=y/\ y<=60)/\ (x.1,x.2.1)=drT (l.take 400) (wiB 2).length)
  (fun _=>[(2, .ct (intC more)),(4, .own 4),(9, .own 9),(10, .own 10),(11, .own 11),(12, .own 12),(13, .own 13)])
  (fun x=>trE q (l.take 400) vc (wiB 2) x.1 x.2.2.1 x.2.2.2 x.2.1) (fun x hx=>h x.1 x.2.1 vc x.2.2.1 x.2.2.2 hx.1 hx.2.1 hx.2.2 hvc) (fun KN hM=> ?_)
 clear h;generalize l.take 400=bs at hb hM ⊢;refine Qj (Qx (ZK J J J J J lPths J (Q9 (m:=2) J J sPths.und J J (Qv J J J (Qz (Qq (Q2 ?_)))))))
 refine Qn (α:=Nat × List Int × Nat × Value × Value) (fun x=>x.1<=2/\ x.2.1.length=(wiB x.1).length/\ (∀y∈x.2.1,0<=y/\ y<=60)/\ (x.2.1,x.2.2.1)=drT bs (wiB x.1).length)
  (fun x=>[(2, .ct (intC more)),(4, .own 4),(9, .own 9),(10, .own 10),(11, .own 11),(12, .own 12),(13, .own 13),(34, .ct (intC 2)),(35, .ct (intC x.1))])
  (fun x=>trE q bs vc (wiB x.1) x.2.1 x.2.2.2.1 x.2.2.2.2 x.2.2.1) (fun x=>2 - x.1) (0,[],0,nilV,nilV) ⟨Nat.zero_le _,rfl,(fun y hy=>by cases hy),rfl⟩ (by exact QX J ⟨rfl,rfl,rfl,rfl,rfl,rfl,rfl,rfl,rfl,trivial⟩) ?_
 rintro ⟨f,ts,c,h1,h2⟩ ⟨hf,hl,hts,hdr⟩
 have hw:=wiB_len f
 try dsimp only at hf hl hts hdr ⊢
 refine Qj (Qx ?_);refine Qw ilss J J J J (Qz (Qq (Qj ?_)));refine Q1 J (fun g=> ?_) (fun g=> ?_);rotate_left
 · have hf' :f=2:=by omega
   subst hf';refine Qi (Yy (Yy (Fin.blockE ?_)));exact XQ hM (ts,c,h1,h2) ⟨hl,hts,hdr⟩ (QX J ⟨rfl,rfl,rfl,rfl,rfl,rfl,rfl,trivial⟩)
 have hp4:(ptT.getD f []).length=4:=by
  have:f=0 \/f=1:=by omega
  rcases this with rfl|rfl <;>rfl
 have hwf:wiB (f+1)=wiA (wiB f) (ptT.getD f []) 4:=rfl;have hpf:=pths_at (ps:=ptT) (j:=(f:Int)) (by omega) (by show (f:Int)<2;omega);rw [show (f:Int).toNat=f from rfl] at hpf;generalize ptT.getD f []=p at hp4 hwf hpf;generalize wiB f=wf at hw hwf hl hdr ⊢;refine QU (Qq (Qj (Q2 (Qj (Qx ?_)))));refine Qk 2 J (Qz (Qq (Qj ?_)));refine Qx (Qy J J J (Qz (Qq (Qj ?_))));refine Qx (ZK J J J J J lPths J (Qv J J J (Ql J J J sPths (by omega) hpf J ?_)));refine Xj J J J lAdrs J (Q9 J J sAdrs.und (List.length_map ..) J (Qv J J J (Qz (Qq (Q2 ?_)))));clear hpf
 refine Qn (α:=Nat × List Int × Nat × Value × Value) (fun x=>x.1<=p.length/\ x.2.1.length=(wiA wf p x.1).length/\ (∀y∈x.2.1,0<=y/\ y<=60)/\ (x.2.1,x.2.2.1)=drT bs (wiA wf p x.1).length)
  (fun x=>[(2, .ct (intC more)),(4, .own 4),(9, .own 9),(10, .own 10),(11, .own 11),(12, .own 12),(13, .own 13),(34, .ct (intC 2)),(35, .ct (intC f)),(15, .ct (adrF (prA p x.1))),(41, .ct (adrsC p)),(42, .ct (intC p.length)),(43, .ct (intC x.1))])
  (fun x=>trE q bs vc (wiA wf p x.1) x.2.1 x.2.2.2.1 x.2.2.2.2 x.2.2.1) (fun x=>p.length - x.1) (0,ts,c,h1,h2) ⟨Nat.zero_le _,hl,hts,hdr⟩ (by exact QX J ⟨rfl,rfl,rfl,rfl,rfl,rfl,rfl,rfl,rfl,rfl,rfl,rfl,rfl,trivial⟩) ?_
 clear hl hts hdr;clear ts c h1 h2
 rintro ⟨i,ts,c,h1,h2⟩ ⟨hi,hl,hts,hdr⟩
 have hwl:=wiA_len wf p i
 have hstp:wiA wf p (i+1)=if (prA p i,p.getD i 0)∈wiA wf p i then wiA wf p i else wiA wf p i++ [(prA p i,p.getD i 0)]:=rfl
 have eP:prA p (i+1)=p.getD i 0:=rfl
 try dsimp only at hi hl hts hdr ⊢
 generalize hWe:wiA wf p i=W at hwl hstp hl hdr ⊢;generalize prA p i=la at hstp ⊢;refine Qj (Qx ?_);refine Qw ilss J J J J (Qz (Qq (Qj ?_)));refine Q1 J (fun g2=> ?_) (fun g2=> ?_);rotate_left
 · have hi' :i=4:=by omega
   subst hi';refine Qi (Qq (Qx ?_))
   refine Qw (iadd (by omega) (by omega)) J J J J ?_
   refine Qv J J J (Qz (Q5 ?_));refine Q6 (f+1,ts,c,h1,h2) (by show 2 - (f+1)<2 - f;omega) ⟨by show f+1<=2;omega,by show ts.length=(wiB (f+1)).length;rw [hwf,hWe];exact hl,hts,by show (ts,c)=drT bs (wiB (f+1)).length;rw [hwf,hWe];exact hdr⟩ (by dsimp only;rw [hwf,hWe];exact QX J ⟨rfl,rfl,rfl,rfl,rfl,rfl,rfl,rfl,by simp only [Int.natCast_add];rfl,trivial⟩)
 refine QU (Qq (Qj (Q2 (Qj (Qx ?_)))))
 refine Ql J J J sAdrs (by omega) (adrs_at (by omega) (by omega)) J ?_
 rw [show (i:Int).toNat=i from rfl];generalize p.getD i 0=a at hstp eP ⊢;refine Xj J J J lAddr J (Qy J J J (Qz (Qq (Qj ?_))));refine Qx (Qy J J J (Qz (Qq (Qj (Qj ?_)))));refine Qx (ZK J J J J J lWrs1 J (Ops.linkX 47 20 J J (Ops.lenX _ J J J (by decide) (wrs_len _) sWrs.und J ?_)));refine Qv J J J (Qz (Qq (Q2 ?_)))
 refine Qn (α:=Nat) (fun k=>k<=W.length)
  (fun k=>[(2, .ct (intC more)),(4, .own 4),(9, .own 9),(10, .own 10),(11, .own 11),(12, .own 12),(13, .own 13),(34, .ct (intC 2)),(35, .ct (intC f)),(15, .ct (adrF la)),(17, .ct (adrF a)),(18, .ct (boolC (decide ((la,a)∈W.take k)))),(41, .ct (adrsC p)),(42, .ct (intC p.length)),(43, .ct (intC i)),(47, .own 20),(48, .ct (intC W.length)),(49, .ct (intC k))])
  (fun _=>trE q bs vc W ts h1 h2 c) (fun k=>W.length - k) 0 (Nat.zero_le _) (by exact QX J ⟨rfl,rfl,rfl,rfl,rfl,rfl,rfl,rfl,rfl,rfl,rfl,rfl,rfl,rfl,rfl,rfl,rfl,rfl,trivial⟩) ?_
 intro k hk
 try dsimp only at hk ⊢
 refine Qj (Qx ?_);refine Qw ilss J J J J (Qz (Qq (Qj ?_)));refine Q1 J (fun g3=> ?_) (fun g3=> ?_);rotate_left
 · have hk' :k=W.length:=by omega
   subst hk';rw [List.take_length];refine Qi (Qq (Qj (Qj (Qx ?_))));refine Qv J J J (Qr J J J (Qz (Qq ?_)))
   refine YW (α:=List Int × Nat × Value × Value) (fun x=>x.1.length=(wiA wf p (i+1)).length/\ (∀y∈x.1,0<=y/\ y<=60)/\ (x.1,x.2.1)=drT bs (wiA wf p (i+1)).length)
    (fun _=>[(2, .ct (intC more)),(4, .own 4),(9, .own 9),(10, .own 10),(11, .own 11),(12, .own 12),(13, .own 13),(34, .ct (intC 2)),(35, .ct (intC f)),(17, .ct (adrF a)),(41, .ct (adrsC p)),(42, .ct (intC p.length)),(43, .ct (intC i))])
    (fun x=>trE q bs vc (wiA wf p (i+1)) x.1 x.2.2.1 x.2.2.2 x.2.1) (fun x hx=> ?_) (fun KN hM=> ?_)
   · obtain ⟨t1,c1,u1,u2⟩:=x;dsimp only at hx ⊢;refine Qx (Qk 2 J (Qz (Qq ?_)));refine Qx (Qw (iadd (by omega) (by omega)) J J J J ?_);refine Qv J J J (Qz (Q5 ?_));refine Q6 (i+1,t1,c1,u1,u2) (by show p.length - (i+1)<p.length - i;omega) ⟨by show i+1<=p.length;omega,hx.1,hx.2⟩ (by dsimp only;rw [eP];exact QX J ⟨rfl,rfl,rfl,rfl,rfl,rfl,rfl,rfl,rfl,rfl,rfl,rfl,by simp only [Int.natCast_add];rfl,trivial⟩)
   by_cases hin:(la,a)∈W
   · rw [if_pos hin] at hstp;rw [hstp] at hM;rw [decide_eq_true hin];refine Qt J (QU ?_);exact XQ hM (ts,c,h1,h2) ⟨hl,hts,hdr⟩ (QX J ⟨rfl,rfl,rfl,rfl,rfl,rfl,rfl,rfl,rfl,rfl,rfl,rfl,rfl,trivial⟩)
   rw [if_neg hin] at hstp;rw [hstp] at hM;rw [decide_eq_false hin];refine Xk J (Y0 mixed [5,8,10,11,12] (.p 1 (.p 2 (.p 3 (.f 0 (.m 4 (.a 5 (.f 7 (.m 6 (.a 8 (.m 9 (.a 10 (.a 11 (.a 12 .done .non) .non) .non) .non) .non) (.a 8 (.f 6 (.m 9 (.a 10 (.a 11 (.a 12 .done .non) .non) .non) .non)) .non))) (.m 6 (.a 5 (.f 7 (.a 8 (.m 9 (.a 10 (.a 11 (.a 12 .done .non) .non) .non) .non) .non)) (.m 7 (.a 5 (.a 8 (.m 9 (.a 10 (.a 11 (.a 12 .done .non) .non) .non) .non) .non) .non) .non)) (.m 7 (.a 5 (.m 6 (.a 8 (.m 9 (.a 10 (.a 11 (.a 12 .done .non) .non) .non) .non) .non) (.a 8 (.f 6 (.m 9 (.a 10 (.a 11 (.a 12 .done .non) .non) .non) .non)) .non)) (.m 6 (.a 5 (.a 8 (.m 9 (.a 10 (.a 11 (.a 12 .done .non) .non) .non) .non) .non) .non) .non)) .non))) (.m 6 (.m 4 (.a 5 (.f 7 (.a 8 (.m 9 (.a 10 (.a 11 (.a 12 .done .non) .non) .non) .non) .non)) (.m 7 (.a 5 (.a 8 (.m 9 (.a 10 (.a 11 (.a 12 .done .non) .non) .non) .non) .non) .non) .non)) (.m 7 (.m 4 (.a 5 (.a 8 (.m 9 (.a 10 (.a 11 (.a 12 .done .non) .non) .non) .non) .non) .non) .non) .non)) (.m 7 (.m 4 (.a 5 (.m 6 (.a 8 (.m 9 (.a 10 (.a 11 (.a 12 .done .non) .non) .non) .non) .non) (.a 8 (.f 6 (.m 9 (.a 10 (.a 11 (.a 12 .done .non) .non) .non) .non)) .non)) (.m 6 (.a 5 (.a 8 (.m 9 (.a 10 (.a 11 (.a 12 .done .non) .non) .non) .non) .non) .non) .non)) (.m 6 (.m 4 (.a 5 (.a 8 (.m 9 (.a 10 (.a 11 (.a 12 .done .non) .non) .non) .non) .non) .non) .non) .non)) .non))))))) (by kernel_rfl) (fun K hK=> ?_))
   repeat' (first
    |refine Qc
    |refine Xz ?_
    |refine Zz ?_
    |refine X5 ?_ ?_
    |refine Qp ?_ ?_
    |refine Qz ?_
    |refine Qv J J J ?_
    |refine Qm J bWire J (.one J J J J (.one J J J J .nil)) J ?_
    |refine ZK J J J J J (by with_reducible first|exact lWrs1|exact lPCod|exact lInts) J ?_
    |refine Za (n:=2) J J sWrs J J (by decide) J ?_
    |refine Xd 64 20 J J (Qo W.length (wrs (W++ [(la,a)])) J J J J sWrs (wrs_len W) J (by omega) (by omega) (wrs_snoc W (la,a)) J (Ops.name 69 20 J J (fun v2 hv2=> ?_)))
    |(refine Yq 71 0 J J J (Zf goNext (NextD_ok bs c 60 (by decide) (by decide) hb) J J J J J (fun z hz=> ?_))
      obtain ⟨u,c1⟩:=z
      dsimp only at hz ⊢)
    |refine X8 J J sInts J J J ?_
    |refine Xd 70 21 J J (Qo ts.length (ints (ts++ [u])) J J J J sInts (by rw [ints_length,Nat.mul_one]) J (by omega) (by omega) (Z8 ts [u]) J (Ops.name 74 21 J J (fun v1 hv1=> ?_)))
    |refine Ops.st1O J J J J hv2 szWrs ?_
    |refine Ops.st1O J J J J hv1 szIntsT ?_
    |(refine Xu (hK _ _ ?_)
      exact XQ hM (ts++ [u],c1,v1,v2) ⟨by show (ts++ [u]).length=_;rw [List.length_append,List.length_append,hl];rfl,fun y hy=>by
       rcases List.mem_append.1 hy with hy|hy
       · exact hts y hy
       · rw [List.mem_singleton.1 hy];omega,by rw [List.length_append];exact drT_snoc hdr hz.2⟩ (QX J ⟨rfl,rfl,rfl,rfl,rfl,rfl,rfl,rfl,rfl,rfl,rfl,rfl,rfl,trivial⟩)))
 have hms:decide ((la,a)∈W.take (k+1))=(decide ((la,a)∈W.take k)||decide (W.getD k wr0=(la,a))):=by
  have hk2:k<W.length:=by omega
  have e:W.take (k+1)=W.take k++ [W.getD k wr0]:=by
   rw [List.take_add_one,List.getElem?_eq_getElem hk2,List.getD_eq_getElem?_getD,List.getElem?_eq_getElem hk2];rfl
  rw [e,<- Bool.decide_or];exact decide_eq_decide.2 (by rw [List.mem_append,List.mem_singleton,eq_comm (a:=W.getD k wr0)])
 refine QU (Qq (Qj (Q2 (Qj (Qx ?_)))))
 refine Ops.idxX _ J J J (wrs_len _) J sWrs (by omega) (by omega) J ?_
 rw [show (k:Int).toNat=k from rfl]
 refine ldE wrCs wr0 wr_len J J J J J (by omega) YK J ?_
 generalize W.getD k wr0=x at hms ⊢;refine Qb 1 J J zvWire J J J (Q7 2 J J J J J szWire J J ?_);generalize decide ((la,a)∈W.take k)=b at hms ⊢;refine Qz (Qq ?_);refine Qx (Qk 2 J (Xc 54 J (fun g4=> ?_) (fun g4=> ?_)))
 · rw [g4,Bool.true_or] at hms;refine Qk 7 J (Qz (Qq ?_));refine Qx (Qw (iadd (by omega) (by omega)) J J J J ?_);refine Qv J J J (Qz (Q5 ?_));refine Xv 1 (Q6 (k+1) (by omega) (by omega) (by rw [hms];exact QX J ⟨rfl,rfl,rfl,rfl,rfl,rfl,rfl,rfl,rfl,rfl,rfl,rfl,rfl,rfl,rfl,rfl,rfl,by simp only [Int.natCast_add];rfl,trivial⟩))
 · rw [g4,Bool.false_or] at hms;refine Qa (n:=2) J J J J J YK J (Qk 2 J (Qm J bWire J (.one J J J J (.one J J J J .nil)) J (eqWr x (la,a) J J J J J (Qk 2 J (Qz (Qq ?_))))));refine Qx (Qw (iadd (by omega) (by omega)) J J J J ?_);refine Qv J J J (Qz (Q5 ?_));refine Xv 1 (Q6 (k+1) (by omega) (by omega) (by rw [hms];exact QX J ⟨rfl,rfl,rfl,rfl,rfl,rfl,rfl,rfl,rfl,rfl,rfl,rfl,rfl,rfl,rfl,rfl,rfl,by simp only [Int.natCast_add];rfl,trivial⟩))
end Go.Proofs.YtojkdfilabmafaaGreat
namespace Go.Proofs.YtojkdfilabmafaaGreat
open Go.Own Go.Limbs Go.Proofs.Tryz
def TrP (ts : List Int) (q : Int) (M : Nat → Nat) (out : List Rs) : Prop :=
  (∀ i, i < out.length → ∃ (f t : Nat) (u : Int), f < 2 ∧ 1 ≤ t ∧ t ≤ M f ∧ (0 ≤ u ∧ u ≤ q) ∧ out.getD i rs0 = rpH f i t (smK (wiB 2) ts (ptT.getD f []) t + u) ((ptT.getD f []).getD (t - 1) 0)) ∧
  (∀ f, f < 2 → ∀ t : Nat, 1 ≤ t → t ≤ M f → ∃ r ∈ out, r.fl = f ∧ r.tt = t)
def upM (M : Nat → Nat) (f t : Nat) : Nat → Nat := fun g => if g = f then t else M g
theorem upM_self(M:Nat ->Nat)(f t:Nat):upM M f t f=t:=if_pos rfl
theorem upM_ne{M:Nat ->Nat}{f t g:Nat}(h:g≠f):upM M f t g=M g:=if_neg h
theorem TrP.nil(ts:List Int)(q:Int):TrP ts q (fun _=>0) []:=⟨fun _ h=>absurd h (Nat.not_lt_zero _),fun _ _ t h1 h2=>by have:t<=0:=h2;omega⟩
theorem getD_snocL{out:List Rs}{r:Rs}{i:Nat}(h:i<out.length):(out++ [r]).getD i rs0=out.getD i rs0:=by
 rw [List.getD_eq_getElem?_getD,List.getElem?_append_left h,<- List.getD_eq_getElem?_getD]
theorem getD_snocR{out:List Rs}{r:Rs}:(out++ [r]).getD out.length rs0=r:=by
 rw [List.getD_eq_getElem?_getD,List.getElem?_append_right (Nat.le_refl _),Nat.sub_self];rfl
theorem TrP.add{ts:List Int}{q:Int}{M:Nat ->Nat}{out:List Rs}(h:TrP ts q M out){f t:Nat}{u:Int}(hf:f<2)(h1:1<=t)(h2:t<=M f)(hu:0<=u/\ u<=q):
  TrP ts q M (out++ [rpH f out.length t (smK (wiB 2) ts (ptT.getD f []) t+u) ((ptT.getD f []).getD (t - 1) 0)]):=by
 refine ⟨fun i hi=> ?_,fun g hg s hs1 hs2=> ?_⟩
 · rw [List.length_append] at hi;by_cases hc:i<out.length
   · rw [getD_snocL hc];exact h.1 i hc
   · have:i=out.length:=by simp only [List.length_cons,List.length_nil] at hi;omega
     subst this;rw [getD_snocR];exact ⟨f,t,u,hf,h1,h2,hu,rfl⟩
 · obtain ⟨r,hr,e⟩:=h.2 g hg s hs1 hs2;exact ⟨r,List.mem_append.2 (.inl hr),e⟩
theorem TrP.grow{ts:List Int}{q:Int}{M:Nat ->Nat}{out:List Rs}(h:TrP ts q M out){f:Nat}{u:Int}(hf:f<2)(hu:0<=u/\ u<=q):
  TrP ts q (upM M f (M f+1)) (out++ [rpH f out.length (M f+1:Nat) (smK (wiB 2) ts (ptT.getD f []) (M f+1)+u) ((ptT.getD f []).getD (M f) 0)]):=by
 refine ⟨fun i hi=> ?_,fun g hg s hs1 hs2=> ?_⟩
 · rw [List.length_append] at hi;by_cases hc:i<out.length
   · rw [getD_snocL hc];obtain ⟨g,t,v,a1,a2,a3,a4,a5⟩:=h.1 i hc;refine ⟨g,t,v,a1,a2,?_,a4,a5⟩;unfold upM;split
     · rename_i e;subst e;omega
     · exact a3
   · have:i=out.length:=by simp only [List.length_cons,List.length_nil] at hi;omega
     subst this;rw [getD_snocR];exact ⟨f,M f+1,u,hf,by omega,by rw [upM_self];omega,hu,rfl⟩
 · by_cases hc:g=f/\ s=M f+1
   · obtain ⟨rfl,rfl⟩:=hc;exact ⟨_,List.mem_append.2 (.inr (List.mem_cons_self ..)),rfl,rfl⟩
   · have:s<=M g:=by
      unfold upM at hs2;split at hs2
      · rename_i e
        subst e
        have:s≠M g+1:=fun e=>hc ⟨rfl,e⟩
        omega
      · exact hs2
     obtain ⟨r,hr,e⟩:=h.2 g hg s hs1 this;exact ⟨r,List.mem_append.2 (.inl hr),e⟩
theorem TrP.le{ts:List Int}{q:Int}{M:Nat ->Nat}{out:List Rs}(h:TrP ts q M out){i:Nat}(hi:i<out.length){f:Nat}(hf:(out.getD i rs0).fl=f):(out.getD i rs0).tt<=M f/\ 1<=(out.getD i rs0).tt:=by
 obtain ⟨g,t,u,a1,a2,a3,_,a5⟩:=h.1 i hi;rw [a5] at hf ⊢;have:(g:Int)=f:=hf
 have:g=f:=by omega
 subst this;exact ⟨by show (t:Int)<=M g;omega,by show (1:Int)<=t;omega⟩
abbrev TSt := Nat × Nat × (Nat → Nat) × List Rs × Nat
def rpT (ts : List Int) (f t n : Nat) (u : Int) : Rs := rpH f n t (smK (wiB 2) ts (ptT.getD f []) t + u) ((ptT.getD f []).getD (t - 1) 0)
def stT (bs ts : List Int) (q : Int) (x : TSt) : TSt :=
  if x.1 < 2 then
    if (x.2.1 : Int) ≤ 2 + (nxt bs x.2.2.2.2 3).1 then
      (x.1, x.2.1 + 1, upM x.2.2.1 x.1 x.2.1, x.2.2.2.1 ++ [rpT ts x.1 x.2.1 x.2.2.2.1.length (nxt bs (nxt bs x.2.2.2.2 3).2 (q + 1)).1], (nxt bs (nxt bs x.2.2.2.2 3).2 (q + 1)).2)
    else (x.1 + 1, 1, x.2.2.1, x.2.2.2.1, (nxt bs x.2.2.2.2 3).2)
  else x
def itT (bs ts : List Int) (q : Int) (c : Nat) : Nat → TSt
  | 0 => (0, 1, (fun _ => 0), [], c)
  | k + 1 => stT bs ts q (itT bs ts q c k)
theorem itT_add{bs ts:List Int}{q u v:Int}{c c1 c2 k f t a:Nat}{M:Nat ->Nat}{out:List Rs}(h:(f,t,M,out,a)=itT bs ts q c k)(hf:f<2)(h1:(u,c1)=nxt bs a 3)(hu:(t:Int)<=2+u)(h2:(v,c2)=nxt bs c1 (q+1)):
  (f,t+1,upM M f t,out++ [rpT ts f t out.length v],c2)=itT bs ts q c (k+1):=by
 show _=stT bs ts q (itT bs ts q c k);rw [<- h];unfold stT;dsimp only;rw [if_pos hf,<- h1];dsimp only;rw [if_pos hu,<- h2]
theorem itT_skip{bs ts:List Int}{q u:Int}{c c1 k f t a:Nat}{M:Nat ->Nat}{out:List Rs}(h:(f,t,M,out,a)=itT bs ts q c k)(hf:f<2)(h1:(u,c1)=nxt bs a 3)(hu:¬(t:Int)<=2+u):
  (f+1,1,M,out,c1)=itT bs ts q c (k+1):=by
 show _=stT bs ts q (itT bs ts q c k);rw [<- h];unfold stT;dsimp only;rw [if_pos hf,<- h1];dsimp only;rw [if_neg hu]
def moT (bs ts : List Int) (q : Int) (M : Nat → Nat) (x : List Rs × Nat) : List Rs × Nat :=
  let f := nxt bs x.2 2
  let t := nxt bs f.2 (M f.1.toNat)
  let u := nxt bs t.2 (q + 1)
  (x.1 ++ [rpT ts f.1.toNat (t.1.toNat + 1) x.1.length u.1], u.2)
def moI (bs ts : List Int) (q : Int) (M : Nat → Nat) (x : List Rs × Nat) : Nat → List Rs × Nat
  | 0 => x
  | k + 1 => moT bs ts q M (moI bs ts q M x k)
theorem moI_add{bs ts:List Int}{q u:Int}{M:Nat ->Nat}{x:List Rs × Nat}{k f t a c1 c2 c3:Nat}{out:List Rs}(h:(out,a)=moI bs ts q M x k)(h1:((f:Int),c1)=nxt bs a 2)(h2:((t:Int),c2)=nxt bs c1 (M f))(h3:(u,c3)=nxt bs c2 (q+1)):
  (out++ [rpT ts f (t+1) out.length u],c3)=moI bs ts q M x (k+1):=by
 show _=moT bs ts q M (moI bs ts q M x k);rw [<- h];unfold moT;dsimp only;rw [<- h1];dsimp only;rw [Int.toNat_natCast,<- h2];dsimp only;rw [Int.toNat_natCast,<- h3]
def TrD (bs : List Int) (q : Int) (m : Nat) (x : List Int × (Nat → Nat) × List Rs) : Prop :=
  ∃ (c1 k c2 : Nat) (o : List Rs), (x.1, c1) = drT bs (wiB 2).length ∧ (2, 1, x.2.1, o, c2) = itT bs x.1 q c1 k ∧ x.2.2 = (moI bs x.1 q x.2.1 (o, c2) m).1
end Go.Proofs.YtojkdfilabmafaaGreat
namespace Go.Own
open Go.RowKit
theorem St.bext{X:Ctx}{L:AL}{B B' :BL}{c:Code}{Q:Exit ->Act ->World ->Prop}(hb:∀j,bget B' j=bget B j)(h:St X L B' c Q):St X L B c Q:=fun a ρ w hI=>h a ρ w (hI.bext hb)
end Go.Own
namespace Go.Proofs.YtojkdfilabmafaaGreat
open Go.Own Go.Limbs Go.Proofs.Tryz
noncomputable abbrev trX (S : BSet) (w : World) (ρ0 : Nat → Value) (vc v13 v10 v11 v12 v9 v4 : Value) : Ctx := (((((((lentM prog 127 S w [] [] ρ0).pin 0 vc).pin 13 v13).pin 10 v10).pin 11 v11).pin 12 v12).pin 9 v9).pin 4 v4
def kpTr (j : Nat) : Bool := Nat.beq j 13 || Nat.beq j 10 || Nat.beq j 11 || Nat.beq j 12 || Nat.beq j 9 || Nat.beq j 0 || Nat.beq j 4
theorem kpTr_mem{v13 v10 v11 v12 v9 vc v4:Value}{j:Nat}(h:kpTr j=true):j∈ [(13,v13),(10,v10),(11,v11),(12,v12),(9,v9),(0,vc),(4,v4)].map (·.1):=by
 unfold kpTr at h;simp only [Bool.or_eq_true] at h;rcases h with (((((h|h)|h)|h)|h)|h)|h <;>(rw [Nat.eq_of_beq_eq_true h];simp)
abbrev fvT : FuncId := 41
attribute [local irreducible] St Ops Go.Own.Fin Ok OkB OkN OkT OkL OkF OkM OkMv
section
variable {S : BSet} {w0 : World} {ρ0 : Nat → Value} {vc v13 v10 v11 v12 v9 v4 : Value} {L : AL} {ops : Array Oper} {K : Act → World → Prop} {r : Pl} {x : Operand} {d : Nat} {t' : TypeId} {pos : String} {af : Array Edge} {g : Option (Nat × Bool)}
theorem callTr{bs:List Int}{ts:List Int}{q:Int}{out:List Rs}{c0:Nat}{ho:Value}{args:List Operand}{tys:Array TypeId}(hb:Bytes bs)(hbor:∀gb,(lentM prog 127 S w0 [] [] ρ0).bor gb ->S gb)(f t:Nat)(hf:f<2)(ht:1<=t/\ t<=4)(htl:ts.length=(wiB 2).length)
  (hts:∀y∈ts,0<=y/\ y<=60) (hq:0<=q/\ q<=100) (hol:out.length<=100)
  (hx:ev L x=some (.ct (.fr (closT fvT ([v13,v10,v11,v12,v9,v4].map CT.ex))))) (hg:gd ops L g=some true) (hargs:evS L args=some [.ct (intC f), .ct (intC t)]) (hn:Nat.blt d 127=true)
  (h:∀(u:Int) (c1:Nat) (v:Value),0<=u/\ u<=q ->v.oneCell' =true ->(u,c1)=nxt bs c0 (q+1) ->
   Ops (trX S w0 ρ0 vc v13 v10 v11 v12 v9 v4) ops r ((d, .ct (retC []))::keepL kpTr L) (trB ptT (wiB 2) ts vc q bs v (out++ [rpH f out.length t (smK (wiB 2) ts (ptT.getD f []) t+u) ((ptT.getD f []).getD (t - 1) 0)]) c1) K):
  Ops (trX S w0 ρ0 vc v13 v10 v11 v12 v9 v4) ops (.cons ⟨some d, .call {callee:= .value x,args:=args.toArray,argTypes:=tys},t',pos,af,g⟩ .any r) L (trB ptT (wiB 2) ts vc q bs ho out c0) K:=by
 have hw:=wiB_len 2
 have hp4:(ptT.getD f []).length=4:=by
  have:f=0 \/f=1:=by omega
  rcases this with rfl|rfl <;>rfl
 have h1:=truth1_ok bs hb ptT (wiB 2) ts f t q out c0 vc ho v13 v10 v11 v12 v9 v4 ⟨by omega,by show (f:Int)<2;omega⟩ (by decide) (by show (ptT.getD f []).length<=16;omega) (by show 1<=(t:Int)/\ (t:Int)<=((ptT.getD f []).length:Nat);omega) htl.symm (by omega) hts hq hol
 have e1:((t:Int) - 1).toNat=t - 1:=by omega
 rw [e1] at h1
 refine Ops.callCM (As:=[.ct (intC f), .ct (intC t)]) (cs:=[v13,v10,v11,v12,v9,v4]) [13,10,11,12,9,4] [] kpTr gotruth1 h1 hx J ?_ hg hargs hn hbor (fun j=>by rw [List.append_nil]) (fun j hj=>by cases hj) (fun j hj=> .inl (kpTr_mem hj)) ?_ (fun q j hj=>by rcases hj with hj|⟨o,hj⟩ <;>cases hj) (fun q hJ=> ?_)
 · intro p hp;simp only [List.mem_cons,List.not_mem_nil,or_false] at hp;rcases hp with rfl|rfl|rfl|rfl|rfl|rfl|rfl <;>rfl
 · intro p hp;simp only [List.mem_cons,List.not_mem_nil,or_false] at hp;right;rcases hp with rfl|rfl|rfl|rfl|rfl|rfl|rfl|hp
   any_goals (simp;done)
   cases hp
 · rw [List.append_nil];exact h q.1 q.2.1 q.2.2 hJ.1.1 hJ.1.2 hJ.2
end
theorem trB_ext{ts:List Int}{vc:Value}{q:Int}{bs:List Int}{c:Nat}:∀j,bget (trB ptT (wiB 2) ts vc q bs nilV [] c) j=
  bget [(22, .rowx nilV 47 17 []),(13, .box 94 [pthsC ptT]),(12, .box 24 [.ex nilV]),(11, .box 26 [intsC ts]),(10, .box 25 [wrsC (wiB 2)]),(9, .box 29 [.ex vc]),(0, .box 98 (codes bs c)),(4, .box 3 [intC q])] j:=by
 intro j;by_cases h1:j=13
 · subst h1;rfl
 by_cases h2:j=10
 · subst h2;rfl
 by_cases h3:j=11
 · subst h3;rfl
 by_cases h4:j=12
 · subst h4;rfl
 by_cases h5:j=22
 · subst h5;rfl
 by_cases h6:j=9
 · subst h6;rfl
 by_cases h7:j=0
 · subst h7;rfl
 by_cases h8:j=4
 · subst h8;rfl
 rw [Q4 _ _ (Ne.symm h1),Q4 _ _ (Ne.symm h2),Q4 _ _ (Ne.symm h3),Q4 _ _ (Ne.symm h4),Q4 _ _ (Ne.symm h5),Q4 _ _ (Ne.symm h6),Q4 _ _ (Ne.symm h7),Q4 _ _ (Ne.symm h8)];rw [Q4 _ _ (Ne.symm h5),Q4 _ _ (Ne.symm h1),Q4 _ _ (Ne.symm h4),Q4 _ _ (Ne.symm h3),Q4 _ _ (Ne.symm h2),Q4 _ _ (Ne.symm h6),Q4 _ _ (Ne.symm h7),Q4 _ _ (Ne.symm h8)]
end Go.Proofs.YtojkdfilabmafaaGreat
namespace Go.Proofs.YtojkdfilabmafaaGreat
open Go.Own Go.Limbs Go.Proofs.Tryz
attribute [local irreducible] St Ops Go.Own.Fin Ok OkB OkN OkT OkL OkF OkM OkMv
def TrJ (bs : List Int) (q : Int) (m : Nat) (x : List Int × (Nat → Nat) × List Rs) : Prop :=
  x.1.length = (wiB 2).length ∧ (∀ y ∈ x.1, 0 ≤ y ∧ y ≤ 60) ∧ (∀ f, f < 2 → 2 ≤ x.2.1 f ∧ x.2.1 f ≤ 4) ∧ TrP x.1 q x.2.1 x.2.2 ∧ x.2.2.length ≤ 13 ∧ TrD bs q m x
theorem gotruth:InGo prog 10:=InGo.of func10 rfl (by decide)
set_option maxRecDepth 20000 in
theorem truth_ok(l:List Int)(hb:Bytes (l.take 400))(q more:Int)(hq:0<=q/\ q<=100)(hm:0<=more/\ more<=5):
  OkM prog 10 [.ct (bytesC l), .ct (intC q), .ct (intC more)] [] [] (TrJ (l.take 400) q more.toNat) (fun x=> .ct (.fr (tupT [rssC x.2.2,wrsC (wiB 2),intsC x.1]))) (fun _=>[]):=by
 refine OkM.enter func10 J _ ntmps10 J (fun i hi=>by cases hi) ?_
 intro S w ρ0 hbor;obtain ⟨m,rfl⟩:=Int.eq_ofNat_of_zero_le hm.1
 have hm5:m<=5:=by omega
 clear hm;rw [Int.toNat_natCast];generalize hmm:(m:Int)=more;refine truth_begin l hb q more S w ρ0 (fun ts c vc h1 h2 hl hts hdr hvc=> ?_);generalize l.take 400=bs at hb hdr ⊢
 refine St.frzX 20 10 0 _ J J J (wrs_frozen 0 _) (fun gb hgb=> .inl (hbor gb hgb)) ?_
 refine St.frzX 21 11 0 _ J J J (Xf 0 _) (fun gb hgb=> .inl (hbor gb hgb)) ?_
 refine St.nilX 22 47 17 J J (St.bext (B' :=trB ptT (wiB 2) ts vc q bs nilV [] c) trB_ext (St.pin 13 J (fun v13 _=> ?_)));refine St.pin 10 J (fun v10 _=> ?_);refine St.pin 11 J (fun v11 _=> ?_);refine St.pin 12 J (fun v12 _=> ?_);refine St.pin 9 J (fun v9 _=> ?_);refine St.pin 4 J (fun v4 _=> ?_);refine Qj (Qx (Ops.nameB 13 13 J J (Ops.nameB 10 10 J J (Ops.nameB 11 11 J J (Ops.nameB 12 12 J J (Ops.nameB 9 9 J J (Ops.nameB 4 4 J J (Ops.makeFunc (cs:=[v13,v10,v11,v12,v9,v4].map CT.ex) J J J (Yq 13 13 J J J (Yq 10 10 J J J (Yq 11 11 J J J (Yq 12 12 J J J (Yq 9 9 J J J (Yq 4 4 J J J (Qy J J J (Qz (Qq (Qj ?_))))))))))))))))))
 refine YW (α:=(Nat ->Nat) × List Rs × Nat × Value) (fun x=>(∀f,f<2 ->2<=x.1 f/\ x.1 f<=4)/\ TrP ts q x.1 x.2.1/\ x.2.1.length<=8/\ ∃k,(2,1,x.1,x.2.1,x.2.2.1)=itT bs ts q c k)
  (fun _=>[(2, .ct (intC more)),(9, .own 9),(10, .own 10),(11, .own 11),(12, .own 12),(21, .ct (.fr (closT fvT ([v13,v10,v11,v12,v9,v4].map CT.ex))))])
  (fun x=>trB ptT (wiB 2) ts vc q bs x.2.2.2 x.2.1 x.2.2.1) (fun x hx=> ?_) (fun KN hM=> ?_)
 rotate_left
 · refine Qj (Qx (ZK J J J J J lPths J (Q9 (m:=2) J J sPths.und J J (Qv J J J (Qz (Qq (Q2 ?_)))))))
   refine Qn (α:=Nat × (Nat ->Nat) × List Rs × Nat × Value) (fun x=>x.1<=2/\ (∀f,f<x.1 ->2<=x.2.1 f/\ x.2.1 f<=4)/\ (∀f,x.1<=f ->x.2.1 f=0)/\ TrP ts q x.2.1 x.2.2.1/\ x.2.2.1.length<=4*x.1/\ ∃k,(x.1,1,x.2.1,x.2.2.1,x.2.2.2.1)=itT bs ts q c k)
    (fun x=>[(2, .ct (intC more)),(9, .own 9),(10, .own 10),(11, .own 11),(12, .own 12),(21, .ct (.fr (closT fvT ([v13,v10,v11,v12,v9,v4].map CT.ex)))),(80, .ct (intC 2)),(81, .ct (intC x.1))])
    (fun x=>trB ptT (wiB 2) ts vc q bs x.2.2.2.2 x.2.2.1 x.2.2.2.1) (fun x=>2 - x.1) (0,(fun _=>0),[],c,nilV) ⟨Nat.zero_le _,fun f hf=>absurd hf (Nat.not_lt_zero _),fun _ _=>rfl,TrP.nil _ _,Nat.zero_le _,0,rfl⟩ (by exact QX J ⟨rfl,rfl,rfl,rfl,rfl,rfl,rfl,rfl,trivial⟩) ?_
   clear hdr;generalize c=c0 at hM ⊢;clear c
   rintro ⟨f,M,out,c,ho⟩ ⟨hf,hM1,hM2,hT,hol,k0,hk0⟩
   try dsimp only at hf hM1 hM2 hT hol hk0 ⊢
   refine Qj (Qx ?_);refine Qw ilss J J J J (Qz (Qq (Qj ?_)));refine Q1 J (fun g=> ?_) (fun g=> ?_);rotate_left
   · have hf' :f=2:=by omega
     subst hf';refine Qi (Yy (Yy (Fin.blockE ?_)));exact XQ hM (M,out,c,ho) ⟨hM1,hT,hol,k0,hk0⟩ (QX J ⟨rfl,rfl,rfl,rfl,rfl,rfl,trivial⟩)
   refine QU (Qq (Qj (Q2 (Qj (Qx ?_)))));refine Qk 2 J (Qz (Qq (Qj ?_)));refine Qx (Qy J J J (Qz (Qq (Q2 ?_))))
   refine Qn (α:=Nat × (Nat ->Nat) × List Rs × Nat × Value) (fun x=>(1<=x.1/\ x.1<=5)/\ (∀g,g<f ->2<=x.2.1 g/\ x.2.1 g<=4)/\ (∀g,f<g ->x.2.1 g=0)/\ x.2.1 f+1=x.1/\ TrP ts q x.2.1 x.2.2.1/\ x.2.2.1.length+1<=4*f+x.1/\ ∃k,(f,x.1,x.2.1,x.2.2.1,x.2.2.2.1)=itT bs ts q c0 k)
    (fun x=>[(2, .ct (intC more)),(9, .own 9),(10, .own 10),(11, .own 11),(12, .own 12),(21, .ct (.fr (closT fvT ([v13,v10,v11,v12,v9,v4].map CT.ex)))),(80, .ct (intC 2)),(81, .ct (intC f)),(22, .ct (intC f)),(23, .ct (intC x.1))])
    (fun x=>trB ptT (wiB 2) ts vc q bs x.2.2.2.2 x.2.2.1 x.2.2.2.1) (fun x=>5 - x.1) (1,M,out,c,ho) ⟨⟨Nat.le_refl _,by show 1<=5;decide⟩,hM1,fun g hg=>hM2 g (by omega),by show M f+1=1;rw [hM2 f (Nat.le_refl _)],hT,by show out.length+1<=4*f+1;omega,k0,hk0⟩ (by exact QX J ⟨rfl,rfl,rfl,rfl,rfl,rfl,rfl,rfl,rfl,rfl,trivial⟩) ?_
   clear hM1 hM2 hT hol hk0 k0;clear M out c ho
   rintro ⟨t,M,out,c,ho⟩ ⟨⟨ht1,ht5⟩,hM1,hM2,hMt,hT,hol,k0,hk0⟩
   try dsimp only at ht1 ht5 hM1 hM2 hMt hT hol hk0 ⊢
   refine Qj (Qj (Qx ?_))
   refine Qv J J J ?_
   subst hMt;refine ZK J J J J J lPCod J (Yq 85 0 J J J (Zf goNext (NextD_ok bs c 3 (by decide) (by decide) hb) J J J J J (fun z hz=> ?_)));obtain ⟨u,c1⟩:=z;dsimp only at hz ⊢
   refine Qw (iadd (by omega) (by omega)) J J J J ?_
   refine Qw ileq J J J J (Qz (Qq ?_));refine Q1 J (fun g2=> ?_) (fun g2=> ?_);rotate_left
   · refine Qi (Qq (Qx ?_))
     refine Qw (iadd (by omega) (by omega)) J J J J ?_
     refine Qv J J J (Qz (Q5 ?_))
     refine Q6 (f+1,M,out,c1,ho) (by show 2 - (f+1)<2 - f;omega) ⟨by show f+1<=2;omega,fun g' hg' =>by
      by_cases e:g' =f
      · subst e;show 2<=M g' /\ M g' <=4;omega
      · exact hM1 g' (by have:g' <f+1:=hg';omega),fun g' hg' =>hM2 g' (by have:f+1<=g' :=hg';omega),hT,by show out.length<=4*(f+1);omega,k0+1,itT_skip hk0 (by omega) hz.2 g2⟩ (by exact QX J ⟨rfl,rfl,rfl,rfl,rfl,rfl,rfl,by simp only [Int.natCast_add];rfl,trivial⟩)
   refine QU (Qq (Qj (Q2 (Qx ?_))));refine Qk 3 J (callTr hb hbor f (M f+1) (by omega) (by omega) hl hts hq (by omega) J J J J (fun u2 c2 v2 hu2 hv2 hd2=> ?_));have hG:=hT.grow (f:=f) (by omega) hu2;refine Qz (Qq ?_);refine Qx (Qv J J J (Qw (iadd (by omega) (by omega)) J J J J ?_));refine Qy J J J (Qz (Q5 ?_))
   refine Q6 (M f+1+1,upM M f (M f+1),_,c2,v2) (by show 5 - (M f+1+1)<5 - (M f+1);omega) ⟨⟨by show 1<=M f+1+1;omega,by show M f+1+1<=5;omega⟩,fun g' hg' =>by
    show 2<=upM M f (M f+1) g' /\ upM M f (M f+1) g' <=4
    rw [upM_ne (by omega)];exact hM1 g' hg',fun g' hg' =>by
    show upM M f (M f+1) g' =0
    rw [upM_ne (by omega)];exact hM2 g' hg',by show upM M f (M f+1) f+1=M f+1+1;rw [upM_self],hG,by
    show (out++ [_]).length+1<=4*f+(M f+1+1)
    rw [List.length_append];simp only [List.length_cons,List.length_nil];omega,k0+1,itT_add hk0 (by omega) hz.2 g2 hd2⟩ (by exact QX J ⟨rfl,rfl,rfl,rfl,rfl,rfl,rfl,rfl,rfl,by simp only [Int.natCast_add];rfl,trivial⟩)
 obtain ⟨M,out,c1,ho⟩:=x;obtain ⟨hM,hT,hol,k0,hk0⟩:=hx;dsimp only at hM hT hol hk0 ⊢;clear h1 h2;generalize ho0:(out,c1)=x0
 have hx0:(out,c1)=moI bs ts q M x0 (m - m):=by rw [Nat.sub_self];exact ho0
 have hfin:∀o,o=(moI bs ts q M x0 m).1 ->TrD bs q m (ts,M,o):=fun o h=>⟨c,k0,c1,out,hdr,hk0,by rw [ho0];exact h⟩
 clear hdr hk0 ho0;subst hmm;refine Qj (Q2 ?_)
 refine Qn (α:=Nat × List Rs × Nat × Value) (fun x=>x.1<=5/\ TrP ts q M x.2.1/\ x.2.1.length+x.1<=13/\ x.1<=m/\ (x.2.1,x.2.2.1)=moI bs ts q M x0 (m - x.1))
  (fun x=>[(2, .ct (intC x.1)),(9, .own 9),(10, .own 10),(11, .own 11),(12, .own 12),(21, .ct (.fr (closT fvT ([v13,v10,v11,v12,v9,v4].map CT.ex))))])
  (fun x=>trB ptT (wiB 2) ts vc q bs x.2.2.2 x.2.1 x.2.2.1) (fun x=>x.1) (m,out,c1,ho) ⟨hm5,hT,by show out.length+m<=13;omega,Nat.le_refl _,hx0⟩ (by exact QX J ⟨rfl,rfl,rfl,rfl,rfl,rfl,trivial⟩) ?_
 clear hT hol hm5 hx0;generalize m=m0 at hfin ⊢;clear m out c1 ho c
 rintro ⟨m,out,c,ho⟩ ⟨hm5,hT,hol,hm0,hmo⟩
 try dsimp only at hm5 hT hol hm0 hmo ⊢
 refine Qj (Qj (Qx ?_));refine Qv J J J (Qw igtr J J J J (Qz (Qq ?_)));refine Q1 J (fun g=> ?_) (fun g=> ?_);rotate_left
 · refine Qi (Qq (Qj ?_))
   refine St.frzX 22 12 0 _ J J J (rss_frozen 0 _) (fun gb hgb=> .inl (hbor gb hgb)) ?_
   refine Y0 mixed [] (.f 0 (.f 1 (.f 2 (.p 3 (.p 4 (.p 5 .done)))))) (by kernel_rfl) (fun K hK=> ?_)
   repeat' (first
    |refine Xz ?_
    |refine Zz ?_
    |refine Qz ?_
    |refine ZK J J J J J (by with_reducible first|exact lWrs1|exact lInts|exact lRess) J ?_
    |refine Qy J J J ?_
    |refine Xu (hK _ _ ?_))
   refine Qq (Q0 ?_);refine Fin.unpin (Fin.unpin (Fin.unpin (Fin.unpin (Fin.unpin (Fin.unpin (Fin.unpin ?_))))))
   refine Fin.retMC [13,12,11,10,9,0,4] (ts,M,out) [_,_,_] rfl (Qu J (Qu J (Qu J QQ))) J J (fun _=>rfl) ⟨hl,hts,hM,hT,by show out.length<=13;omega,hfin out (by
    have e:m0 - m=m0:=by omega
    rw [e] at hmo
    exact congrArg Prod.fst hmo)⟩
 refine QU (Qq (Qj (Q2 (Qj (Qx ?_)))));refine ZK J J J J J lPCod J (Yq 100 0 J J J (Zf goNext (NextD_ok bs c 2 (by decide) (by decide) hb) J J J J J (fun z hz=> ?_)));obtain ⟨fi,c1⟩:=z;dsimp only at hz ⊢;obtain ⟨f,rfl⟩:=Int.eq_ofNat_of_zero_le hz.1.1
 have hf:f<2:=by omega
 refine Qy J J J (Qz (Qq (Qj ?_)));refine Qx (Qy J J J (Qz (Qq (Qj (Qj ?_)))));refine Qx (ZK J J J J J lRess J (Ops.linkX 102 22 J J (Ops.lenX _ J J J (by decide) (rss_len _) sRes.und J ?_)));refine Qv J J J (Qz (Qq (Q2 ?_)))
 refine Qn (α:=Nat × Int) (fun x=>x.1<=out.length/\ 0<=x.2/\ x.2<=M f/\ ∀i,i<x.1 ->(out.getD i rs0).fl=f ->(out.getD i rs0).tt<=x.2)
  (fun x=>[(2, .ct (intC m)),(9, .own 9),(10, .own 10),(11, .own 11),(12, .own 12),(21, .ct (.fr (closT fvT ([v13,v10,v11,v12,v9,v4].map CT.ex)))),(24, .ct (intC f)),(25, .ct (intC x.2)),(102, .own 22),(103, .ct (intC out.length)),(104, .ct (intC x.1))])
  (fun x=>trB ptT (wiB 2) ts vc q bs ho out c1) (fun x=>out.length - x.1) (0,0) ⟨Nat.zero_le _,Int.le_refl _,by show (0:Int)<=M f;omega,fun i hi=>absurd hi (Nat.not_lt_zero _)⟩ (by exact QX J ⟨rfl,rfl,rfl,rfl,rfl,rfl,rfl,rfl,rfl,rfl,rfl,trivial⟩) ?_
 rintro ⟨k,n⟩ ⟨hk,hn0,hnM,hmx⟩
 try dsimp only at hk hn0 hnM hmx ⊢
 have hM4:=hM f hf;refine Qj (Qx ?_);refine Qw ilss J J J J (Qz (Qq (Qj ?_)));refine Q1 J (fun g2=> ?_) (fun g2=> ?_);rotate_left
 · have hk' :k=out.length:=by omega
   have hn1:1<=n:=by
    obtain ⟨r,hr,e1,e2⟩:=hT.2 f hf 1 (Nat.le_refl _) (by omega);obtain ⟨i,hi,e⟩:=List.getElem_of_mem hr
    have ei:out.getD i rs0=r:=by rw [List.getD_eq_getElem?_getD,List.getElem?_eq_getElem hi];exact e
    have:=hmx i (by omega) (by rw [ei];exact e1);rw [ei,e2] at this;exact this
   have hnM' :n=M f:=by
    obtain ⟨r,hr,e1,e2⟩:=hT.2 f hf (M f) (by omega) (Nat.le_refl _);obtain ⟨i,hi,e⟩:=List.getElem_of_mem hr
    have ei:out.getD i rs0=r:=by rw [List.getD_eq_getElem?_getD,List.getElem?_eq_getElem hi];exact e
    have:=hmx i (by omega) (by rw [ei];exact e1);rw [ei,e2] at this;omega
   clear hmx;refine Qi (Qq (Qx ?_));refine Qk 2 J (ZK J J J J J lPCod J (Qv J J J (Yq 119 0 J J J (Zf goNext (NextD_ok bs c1 n hn1 (by omega) hb) J J J J J (fun z hz2=> ?_)))));obtain ⟨ti,c2⟩:=z;dsimp only at hz2 ⊢;obtain ⟨t,rfl⟩:=Int.eq_ofNat_of_zero_le hz2.1.1;have hdd:=hz2.2;rw [hnM'] at hdd
   refine Qw (iadd (by omega) (by omega)) J J J J ?_
   rw [show (1:Int)+t=((t+1:Nat):Int) by omega];refine callTr hb hbor f (t+1) hf (by omega) hl hts hq (by omega) J J J J (fun u2 c3 v2 hu2 hv2 hd2=> ?_);have hG:=hT.add (f:=f) (t:=t+1) hf (by omega) (by omega) hu2;refine Qz (Qq ?_);refine Qx (Qv J J J (Qw (isub (by omega) (by omega)) J J J J ?_));refine Qy J J J (Qz (Q5 ?_));rw [show (m:Int) - 1=((m - 1:Nat):Int) by omega]
   refine Q6 (m - 1,_,c3,v2) (by show m - 1<m;omega) ⟨by show m - 1<=5;omega,hG,by
    show (out++ [_]).length+(m - 1)<=13
    rw [List.length_append];simp only [List.length_cons,List.length_nil];omega,by show m - 1<=m0;omega,by
    have e:m0 - (m - 1)=m0 - m+1:=by omega
    rw [e]
    exact moI_add hmo hz.2 hdd hd2⟩ (by exact QX J ⟨rfl,rfl,rfl,rfl,rfl,rfl,trivial⟩)
 have hle:=fun h=>hT.le (i:=k) (f:=f) (by omega) h
 have hmx' :∀n',n<=n' ->((out.getD k rs0).fl=f ->(out.getD k rs0).tt<=n') ->∀i,i<k+1 ->(out.getD i rs0).fl=f ->(out.getD i rs0).tt<=n' :=fun n' h1 h2 i hi he=>by
  by_cases e:i=k
  · subst e;exact h2 he
  · exact Int.le_trans (hmx i (by omega) he) h1
 refine QU (Qq (Qj (Q2 (Qj (Qx ?_)))))
 refine Ops.idxX _ J J J (rss_len _) J sRes (by omega) (by omega) J ?_
 rw [show (k:Int).toNat=k from rfl]
 refine ldE rsCs rs0 rs_len J J J J J (by omega) lRes J ?_
 generalize out.getD k rs0=rr at hle hmx' ⊢;refine Qb 1 J J zvRes J J J (Q7 17 J J J J J szRes J J (Qz (Qq (Qj ?_))));refine Qx (QY J J J fS6 J (QZ J J J J J lInt J (Qv J J J (Qw ieql J J J J (Qz (Qq ?_))))));refine Q1 J (fun g3=> ?_) (fun g3=> ?_)
 · refine Qx (Qv J J J (QY J J J fS7 J (QZ J J J J J lInt J (Ops.max2 J J J J (Qy J J J (Qz (Qq ?_)))))));refine Qx (Qw (iadd (by omega) (by omega)) J J J J ?_);refine Qv J J J (Qz (Q5 ?_))
   refine Xv 1 ?_
   refine Q6 (k+1,max n rr.tt) (by show out.length - (k+1)<out.length - k;omega) ⟨by show k+1<=out.length;omega,by show 0<=max n rr.tt;omega,by
    show max n rr.tt<=M f;have:=(hle g3).1
    omega,hmx' _ (by show n<=max n rr.tt;omega) (fun _=>by show rr.tt<=max n rr.tt;omega)⟩ (by exact QX J ⟨rfl,rfl,rfl,rfl,rfl,rfl,rfl,rfl,rfl,rfl,by simp only [Int.natCast_add];rfl,trivial⟩)
 · refine QU (Qq (Qx ?_))
   refine Qw (iadd (by omega) (by omega)) J J J J ?_
   refine Qv J J J (Qz (Q5 ?_));refine Xv 1 (Q6 (k+1,n) (by show out.length - (k+1)<out.length - k;omega) ⟨by show k+1<=out.length;omega,hn0,hnM,hmx' _ (Int.le_refl _) (fun h=>absurd h g3)⟩ (by exact QX J ⟨rfl,rfl,rfl,rfl,rfl,rfl,rfl,rfl,rfl,rfl,by simp only [Int.natCast_add];rfl,trivial⟩))
end Go.Proofs.YtojkdfilabmafaaGreat
namespace Go.Proofs.YtojkdfilabmafaaGreat
open Go.Own Go.Limbs Go.Proofs.Tryz
structure Fan (a : Int → Int → Ad) (M : Int → Nat) (t0 : Tk) (l : List Rs) : Prop where
  up : Up cmpR l
  ok : ∀ r ∈ l, okR r = true ∧ r.db = false ∧ r.an = true ∧ r.ki = 1 ∧ trOf r = t0 ∧ 1 ≤ r.tt ∧ r.tt ≤ M r.fl ∧ r.fr = a r.fl r.tt
  all : ∀ r ∈ l, ∀ t : Int, 1 ≤ t → t ≤ M r.fl → ∃ x ∈ l, x.fl = r.fl ∧ x.tt = t
variable {a : Int → Int → Ad} {M : Int → Nat} {t0 : Tk} {l : List Rs}
abbrev stU (m : AdM × StM) (f t : Int) : Int := (look1 m.2 (f, t)).getD 0
def invU (a : Int → Int → Ad) (m : AdM × StM) : Prop := ∀ f t : Int, stU m f t ≤ 1 ∨ (stU m f t = 2 ∧ look1 m.1 (f, t) = some (a f t))
theorem look_fan:∀(q:List Rs) (m:AdM × StM),(∀r∈q,usR r=true/\ r.an=true/\ r.fr=a r.fl r.tt) ->invU a m ->
  invU a (q.foldl (lookS 0) m)/\ ∀f t,(stU m f t=2 \/∃r∈q,r.fl=f/\ r.tt=t) ->stU (q.foldl (lookS 0) m) f t=2
 | [],m,_,hm=>⟨hm,fun f t h=>h.elim id fun ⟨_,h,_⟩=>by cases h⟩
 |r::q,m,hq,hm=>by
  obtain ⟨h1,ha,h4⟩:=hq r (List.mem_cons_self ..)
  have key:invU a (lookS 0 m r)/\ ∀f t,(stU m f t=2 \/(r.fl=f/\ r.tt=t)) ->stU (lookS 0 m r) f t=2:=by
   unfold lookS;rw [if_neg (by rw [h1];simp),ha,if_neg (by decide)];have hr:=hm r.fl r.tt;by_cases hs:(look1 m.2 (r.fl,r.tt)).getD 0<=1
   · rw [if_pos hs];refine ⟨fun f t=> ?_,fun f t h=> ?_⟩
     · simp only [stU,look1_ins];by_cases e:(f,t)=(r.fl,r.tt)
       · rw [if_pos e,if_pos e]
         injection e with e1 e2
         subst e1;subst e2;right;exact ⟨rfl,by rw [h4]⟩
       · rw [if_neg e,if_neg e];exact hm f t
     · simp only [stU,look1_ins];by_cases e:(f,t)=(r.fl,r.tt)
       · rw [if_pos e];rfl
       · rw [if_neg e];rcases h with h|⟨h,h'⟩
         · exact h
         · exact absurd (by rw [h,h']) e
   · rw [if_neg hs];rcases hr with hr|⟨hr,hr'⟩
     · exact absurd hr hs
     · rw [if_neg (by rw [hr',h4];simp)];refine ⟨hm,fun f t h=> ?_⟩;rcases h with h|⟨h,h'⟩
       · exact h
       · subst h;subst h';exact hr
  obtain ⟨k1,k2⟩:=key;obtain ⟨i1,i2⟩:=look_fan q (lookS 0 m r) (fun x hx=>hq x (List.mem_cons_of_mem _ hx)) k1;refine ⟨i1,fun f t h=>i2 f t ?_⟩;rcases h with h|⟨x,hx,h⟩
  · exact .inl (k2 f t (.inl h))
  · rcases List.mem_cons.1 hx with rfl|hx
    · exact .inl (k2 f t (.inr h))
    · exact .inr ⟨x,hx,h⟩
theorem Fan.us(h:Fan a M t0 l){r:Rs}(hr:r∈l):usR r=true:=by
 obtain ⟨h1,h2,_⟩:=h.ok r hr;unfold usR;rw [h1,h2];rfl
theorem Fan.fi(h:Fan a M t0 l):∀r∈l,fiR r=false:=fun r hr=>by
 obtain ⟨_,_,h1,h2,_⟩:=h.ok r hr
 unfold fiR
 rw [h1,h2];rfl
theorem Fan.look(h:Fan a M t0 l):lookG l=l.foldl (lookS 0) ([],[]):=by
 have h1:endF l=0:=endF_zero l 0 h.fi;unfold lookG;rw [h1]
def adF (a : Int → Int → Ad) (f : Int) : Nat → Int → List Ad
  | 0, _ => []
  | c + 1, t => a f t :: adF a f c (t + 1)
theorem adF_len(f:Int):∀(c:Nat) (t:Int),(adF a f c t).length=c
 |0,_=>rfl
 |c+1,t=>by show (adF a f c (t+1)).length+1=_;rw [adF_len f c]
theorem adF_take(f:Int):∀(c n:Nat) (s:Int),c<=n ->(adF a f n s).take c=adF a f c s
 |0,_,_,_=>by simp [adF]
 |c+1,n+1,s,h=>by show a f s::(adF a f n (s+1)).take c=_;rw [adF_take f c n _ (by omega)];rfl
theorem adF_getD(f:Int):∀(c:Nat) (s:Int) (i:Nat),i<c ->(adF a f c s).getD i 0=a f (s+i)
 |c+1,s,0,_=>by show a f s=_;rw [Int.natCast_zero,Int.add_zero]
 |c+1,s,i+1,h=>by
  show (adF a f c (s+1)).getD i 0=_
  rw [adF_getD f c _ i (by omega),show s+1+(i:Int)=s+((i+1:Nat):Int) by omega]
theorem pathG_fan{m:AdM × StM}{f:Int}{n:Nat}(h1:∀t:Int,1<=t ->t<=n ->stU m f t=2/\ look1 m.1 (f,t)=some (a f t))(h2:hasS m.2 f (n+1)=false):
  ∀(c k:Nat) (t:Int),1<=t ->t+c=n+1 ->c<k ->pathG m f k t=adF a f c t
 |0,k+1,t,_,he,_=>by
  unfold pathG
  have:t=(n:Int)+1:=by omega
  rw [this,h2];rfl
 |c+1,k+1,t,ht,he,hk=>by
  obtain ⟨a1,a2⟩:=h1 t ht (by omega)
  have:hasS m.2 f t=true:=by unfold hasS;unfold stU at a1;rw [a1];rfl
  unfold pathG adF
  rw [if_pos this,a2,pathG_fan h1 h2 c k (t+1) (by omega) (by omega) (by omega)]
  rfl
 |_,0,_,_,_,h=>by omega
theorem Fan.path(h:Fan a M t0 l){r:Rs}(hr:r∈l)(hn:M r.fl<256):pathF l r.fl=adF a r.fl (M r.fl) 1:=by
 unfold pathF;obtain ⟨i1,i2⟩:=look_fan (a:=a) l ([],[]) (fun r hr=>⟨h.us hr,(h.ok r hr).2.2.1,(h.ok r hr).2.2.2.2.2.2.2⟩) (fun f t=> .inl (by show (0:Int)<=1;decide));rw [<- h.look] at i1 i2
 refine pathG_fan (n:=M r.fl) (fun t h1 h2=> ?_) ?_ (M r.fl) 256 1 (by decide) (by omega) hn
 · have e:=i2 r.fl t (.inr (h.all r hr t h1 h2));refine ⟨e,?_⟩;rcases i1 r.fl t with h3|h3
   · rw [e] at h3;exact absurd h3 (by decide)
   · exact h3.2
 · cases hb:hasS (lookG l).2 r.fl (M r.fl+1) with
   |false=>rfl
   |true=>
    unfold hasS at hb
    cases e:look1 (lookG l).2 (r.fl,(M r.fl:Int)+1) with
    |none=>rw [e] at hb;simp at hb
    |some v=>
     obtain ⟨_,x,hx,_,hs⟩:=lookG_keys l _ _ e
     injection hs with hf hs
     have:=(h.ok x hx).2.2.2.2.2.2.1;rw [<- hf] at this;omega
theorem Fan.sd(h:Fan a M t0 l):sd cmpR (l.filter okR)=l:=by
 have:l.filter okR=l:=List.filter_eq_self.2 fun r hr=>(h.ok r hr).1
 rw [this];exact sd_eq ordR h.up
theorem clash_fan:∀(q:List Rs) (m:SeenM),(∀r∈q,r.an=true/\ r.fr=a r.fl r.tt) ->(∀s v,look1 m s=some v ->v=a s.2.1 s.2.2) ->clashG m q=q.length
 | [],_,_,_=>rfl
 |r::q,m,hq,hm=>by
  have ih:=fun m' =>clash_fan q m' fun x hx=>hq x (List.mem_cons_of_mem _ hx)
  unfold clashG
  rw [List.length_cons]
  obtain ⟨ha,hr⟩:=hq r (List.mem_cons_self ..)
  by_cases hp:plB r=false
  · rw [if_pos hp,ih m hm]
  · rw [if_neg hp,if_neg,ih]
    · intro s v hs
      rw [look1_ins] at hs
      split at hs
      · rename_i e;subst e;injection hs with hs;rw [<- hs];exact hr
      · exact hm s v hs
    · rintro ⟨h1,h2⟩
      obtain ⟨v,hv⟩:=Option.isSome_iff_exists.1 h1
      rw [hv] at h2
      exact h2 (by rw [hr];exact hm _ v hv)
theorem Fan.chk(h:Fan a M t0 l)(hl:l.length<=512):chkF l=0:=by
 have hc:consB l=true:=by
  unfold consB witG;rw [h.sd,clash_fan (a:=a) l [] (fun r hr=>⟨(h.ok r hr).2.2.1,(h.ok r hr).2.2.2.2.2.2.2⟩) (fun _ _ h=>by cases h)];simp
 unfold chkF;rw [if_neg,h.sd,if_neg (by omega),if_pos hc];intro h';obtain ⟨r,hr,h1⟩:=List.any_eq_true.1 h';rw [(h.ok r hr).1] at h1;cases h1
theorem Fan.pa(h:Fan a M t0 l){r:Rs}(hr:r∈l)(hn:M r.fl<256):paF l r=adF a r.fl (M r.fl) 1:=by
 have e:(l.filter fun x=>decide (trOf x=trOf r))=l:=List.filter_eq_self.2 fun x hx=>by rw [(h.ok x hx).2.2.2.2.1,(h.ok r hr).2.2.2.2.1];simp
 unfold paF ofF;rw [h.sd,e,h.path hr hn]
theorem Fan.ms(h:Fan a M t0 l)(hn:∀f,M f<256)(ha:∀r∈l,(adF a r.fl (M r.fl) 1).all (fun x=>decide (x≠0))=true):msF l=l.map fun r=>(r,wsG 0 (adF a r.fl r.tt.toNat 1)):=by
 have hw:∀r∈l,mesB l r=true/\ meF l r=(r,wsG 0 (adF a r.fl r.tt.toNat 1)):=fun r hr=>by
  obtain ⟨_,_,han,_,_,h1,h2,h3⟩:=h.ok r hr;have hu:=h.us hr;have hp:=h.pa hr (hn _);have hl:=adF_len (a:=a) r.fl (M r.fl) 1;have hal:=ha r hr;have htk:=adF_take (a:=a) r.fl r.tt.toNat (M r.fl) 1 (by omega)
  have hO:wsO ((adF a r.fl (M r.fl) 1).take r.tt.toNat)=(wsG 0 (adF a r.fl r.tt.toNat 1),true):=by
   rw [htk];unfold wsO;rw [if_pos];rw [<- htk]
   exact List.all_eq_true.2 fun x hx=>List.all_eq_true.1 hal x (List.mem_of_mem_take hx)
  have hg:(adF a r.fl (M r.fl) 1).getD (r.tt.toNat - 1) 0=r.fr:=by
   rw [adF_getD _ _ _ _ (by omega),h3];congr 1;omega
  unfold mesB meF;rw [hp,hO,hg,han,hu,hl,decide_eq_true h2,decide_eq_true J];exact ⟨rfl,rfl⟩
 unfold msF;rw [h.sd,List.filter_eq_self.2 fun r hr=>(hw r hr).1]
 exact List.map_congr_left fun r hr=>(hw r hr).2
end Go.Proofs.YtojkdfilabmafaaGreat
namespace Go.Proofs.YtojkdfilabmafaaGreat
open Go.Own Go.Limbs Go.Det Go.Proofs.Tryz
def smT (T : Wr → Int) : List Wr → Int
  | [] => 0
  | w :: ws => T w + smT T ws
theorem cfW_at{vs:List Wr}(ws:List Wr)(f:Int){j:Nat}(hj:j<vs.length):(cfW vs ws f).getD j 0=f*(ws.count (vs.getD j wr0):Int):=by
 unfold cfW;rw [List.getD_eq_getElem?_getD,List.getElem?_map,List.getD_eq_getElem?_getD,List.getElem?_eq_getElem hj];rfl
theorem up_inj{vs:List Wr}(hu:Up cmpW vs){i j:Nat}(hi:i<vs.length)(hj:j<vs.length)(h:vs.getD i wr0=vs.getD j wr0):i=j:=by
 rw [List.getD_eq_getElem?_getD,List.getElem?_eq_getElem hi,List.getD_eq_getElem?_getD,List.getElem?_eq_getElem hj] at h;have h:vs[i]=vs[j]:=h
 have key:∀a b:Nat,∀(ha:a<vs.length) (hb:b<vs.length),a<b ->vs[a]=vs[b] ->False:=fun a b ha hb hab e=>by
  have h5:=List.pairwise_iff_getElem.1 hu a b ha hb hab;rw [e,ordW.self] at h5;exact absurd h5 (by decide)
 rcases Nat.lt_trichotomy i j with hc|hc|hc
 · exact (key i j hi hj hc h).elim
 · exact hc
 · exact (key j i hj hi hc h.symm).elim
section
variable {vs : List Wr} (hu : Up cmpW vs) (T : Wr → Int)
include hu
theorem rsum_cf(f:Int):∀ws:List Wr,(∀w∈ws,w∈vs) ->rsum vs.length (cfW vs ws f) (fun j=>T (vs.getD j wr0))=f*smT T ws
 | [],_=>by
  unfold rsum
  rw [Z2 (fun k hk=>by rw [cfW_at [] f hk];simp)]
  simp [smT]
 |w::ws,h=>by
  have ih:=rsum_cf f ws fun x hx=>h x (List.mem_cons_of_mem _ hx)
  obtain ⟨i,hi,e⟩:=List.getElem_of_mem (h w (List.mem_cons_self ..))
  have ei:vs.getD i wr0=w:=by rw [List.getD_eq_getElem?_getD,List.getElem?_eq_getElem hi];exact e
  unfold rsum at ih ⊢
  rw [Xh (g:=fun j=>(cfW vs ws f).getD j 0*T (vs.getD j wr0)+(if j=i then f*T w else 0)) (fun k hk=>by
   rw [cfW_at (w::ws) f hk,cfW_at ws f hk,List.count_cons]
   dsimp only
   by_cases e2:k=i
   · subst e2
     rw [ei,if_pos rfl,if_pos (by simp),Int.natCast_add,Int.mul_add,Int.add_mul,Int.natCast_one,Int.mul_one]
   · rw [if_neg e2,if_neg,Nat.add_zero,Int.add_zero]
     intro h2
     have h2:w=vs.getD k wr0:=by simpa using h2
     exact e2 (up_inj hu hk hi (by rw [ei,<- h2]))),sm_add,ih,YY (i:=i) hi (fun k _ hk=>if_neg hk),if_pos rfl]
  show f*smT T ws+f*T w=f*(T w+smT T ws)
  rw [Int.mul_add,Int.add_comm]
theorem feas_T{ms:List Me}{mo qu:Int}(hT:∀v∈vs,0<=T v/\ T v<=mo)(hm:∀m∈ms,(∀w∈m.2,w∈vs)/\ smT T m.2<=m.1.bk - m.1.tm/\ m.1.bk - m.1.tm<=smT T m.2+qu):
  Feas vs.length (rowsD vs mo qu ms) 1 (fun j=>T (vs.getD j wr0)):=by
 refine feas_of (fun v hv=>(hT _ (by rw [List.getD_eq_getElem?_getD,List.getElem?_eq_getElem hv];exact List.getElem_mem _)).1) fun r hr=> ?_
 unfold rowsD at hr;rcases List.mem_append.1 hr with h|h
 · obtain ⟨v,hv,rfl⟩:=List.mem_map.1 h;dsimp only;rw [rsum_cf hu T 1 [v] (fun w hw=>by rw [List.mem_singleton.1 hw];exact hv),Int.one_mul];show T v+0<=mo;have:=hT v hv;omega
 · obtain ⟨m,hmm,h⟩:=List.mem_flatMap.1 h;obtain ⟨h1,h2,h3⟩:=hm m hmm;rcases List.mem_cons.1 h with rfl|h
   · dsimp only;rw [rsum_cf hu T 1 m.2 h1,Int.one_mul];exact h2
   · rw [List.mem_singleton.1 h];dsimp only;rw [rsum_cf hu T (-1) m.2 h1];omega
end
end Go.Proofs.YtojkdfilabmafaaGreat
namespace Go.Proofs.YtojkdfilabmafaaGreat
open Go.Own Go.Limbs Go.Proofs.Tryz
attribute [local irreducible] St Ops Go.Own.Fin Ok OkB OkN OkT OkL OkF OkM
abbrev Dl := Wr × (Int × Int)
def dl0 : Dl := ((0, 0), (0, 0))
abbrev dlCs (d : Dl) : List CT := [adrF d.1.1, adrF d.1.2, intC d.2.1, intC d.2.2]
abbrev dlC (d : Dl) : CT := .fr (aggT (dlCs d))
abbrev dlsC (l : List Dl) : CT := .fr (sliceT 4 (l.map dlCs))
def dls (l : List Dl) : List CT := (l.map dlCs).flatten
end Go.Proofs.YtojkdfilabmafaaGreat
namespace Go.Proofs.YtojkdfilabmafaaGreat
open Go.Own Go.Limbs Go.Proofs.Tryz
def aT (f t : Int) : Ad := (ptT.getD f.toNat []).getD (t.toNat - 1) 0
def MT (M : Nat → Nat) (f : Int) : Nat := if 0 ≤ f ∧ f < 2 then M f.toNat else 0
theorem MT_nat(M:Nat ->Nat){f:Nat}(h:f<2):MT M (f:Int)=M f:=by
 unfold MT;rw [if_pos (by omega)];rfl
theorem ptT_ne:∀f,f<2 ->∀i,i<4 ->(ptT.getD f []).getD i 0≠0:=by decide
theorem ptT_len{f:Nat}(h:f<2):(ptT.getD f []).length=4:=by
 have:f=0 \/f=1:=by omega
 rcases this with rfl|rfl <;>rfl
theorem adF_pt{f:Nat}(hf:f<2):∀(c:Nat) (s:Nat),s+c<=4 ->adF aT f c (s+1:Nat)=((ptT.getD f []).drop s).take c
 |0,_,_=>by simp [adF]
 |c+1,s,h=>by
  have hl:=ptT_len hf
  have ih:=adF_pt hf c (s+1) (by omega)
  show aT f ((s+1:Nat):Int)::adF aT f c (((s+1:Nat):Int)+1)=_
  rw [show (((s+1:Nat):Int)+1)=((s+1+1:Nat):Int) by omega,ih]
  have e:aT f ((s+1:Nat):Int)=(ptT.getD f []).getD s 0:=rfl
  rw [e]
  generalize ptT.getD f []=p at hl
  rw [List.drop_eq_getElem_cons (by omega:s<p.length),List.take_succ_cons,List.getD_eq_getElem?_getD,List.getElem?_eq_getElem (by omega)];rfl
theorem adF_pt1{f c:Nat}(hf:f<2)(h:c<=4):adF aT f c 1=(ptT.getD f []).take c:=adF_pt hf c 0 (by omega)
theorem smT_app(T:Wr ->Int):∀(l m:List Wr),smT T (l++m)=smT T l+smT T m
 | [],m=>by show smT T m=0+_;rw [Int.zero_add]
 |w::l,m=>by show T w+smT T (l++m)=T w+smT T l+smT T m;rw [smT_app T l m,Int.add_assoc]
theorem smT_wsG(ws:List Wr)(ts:List Int)(p:List Ad):∀t,t<=p.length ->smT (fun w=>tmK ws ts w ws.length) (wsG 0 (p.take t))=smK ws ts p t
 |0,_=>rfl
 |t+1,h=>by
  have ih:=smT_wsG ws ts p t (by omega)
  have e:p.take (t+1)=p.take t++ [p.getD t 0]:=by
   rw [List.take_add_one,List.getElem?_eq_getElem (by omega),List.getD_eq_getElem?_getD,List.getElem?_eq_getElem (by omega)];rfl
  have e2:(if p.take t=[] then (0:Ad) else (p.take t).getD ((p.take t).length - 1) 0)=prA p t:=by
   cases t with
   |zero=>rfl
   |succ s=>
    have hl:(p.take (s+1)).length=s+1:=by rw [List.length_take];omega
    rw [if_neg (fun h=>by rw [h] at hl;cases hl),hl,List.getD_eq_getElem?_getD,List.getElem?_take_of_lt (by omega),<- List.getD_eq_getElem?_getD];rfl
  rw [e,wsG_snoc,smT_app,ih,e2];show smK ws ts p t+(tmK ws ts (prA p t,p.getD t 0) ws.length+0)=smK ws ts p t+_;rw [Int.add_zero]
section
variable {ts : List Int} {q : Int} {M : Nat → Nat} {out : List Rs}
theorem tr_at(h:TrP ts q M out){r:Rs}(hr:r∈out):∃(i f t:Nat) (u:Int),i<out.length/\ f<2/\ 1<=t/\ t<=M f/\ (0<=u/\ u<=q)/\ r=rpH f i t (smK (wiB 2) ts (ptT.getD f []) t+u) ((ptT.getD f []).getD (t - 1) 0):=by
 obtain ⟨i,hi,e⟩:=List.getElem_of_mem hr;obtain ⟨f,t,u,a1,a2,a3,a4,a5⟩:=h.1 i hi;rw [List.getD_eq_getElem?_getD,List.getElem?_eq_getElem hi] at a5;exact ⟨i,f,t,u,hi,a1,a2,a3,a4,by rw [<- e];exact a5⟩
theorem tr_fan(hl:ts.length=(wiB 2).length)(hts:∀y∈ts,0<=y/\ y<=60)(hq:0<=q/\ q<=100)(hM:∀f,f<2 ->2<=M f/\ M f<=4)(h:TrP ts q M out)(ho:out.length<=13):Fan aT (MT M) x0T out where
 up:=by
  show List.Pairwise _ _;rw [List.pairwise_iff_getElem];intro i j hi hj hij;obtain ⟨f,t,u,_,_,_,_,a5⟩:=h.1 i hi;obtain ⟨g,s,v,_,_,_,_,b5⟩:=h.1 j hj;rw [List.getD_eq_getElem?_getD,List.getElem?_eq_getElem hi] at a5;rw [List.getD_eq_getElem?_getD,List.getElem?_eq_getElem hj] at b5;have a5:out[i]=_:=a5;have b5:out[j]=_:=b5;rw [a5,b5];exact cmpL_lt (show 1000*(i:Int)<1000*j by omega)
 ok r hr:=by
  obtain ⟨i,f,t,u,hi,hf,ht1,ht2,hu,rfl⟩:=tr_at h hr;have hMf:=hM f hf;have hs:=smK_bd (ws:=wiB 2) hts (by have:=wiB_len 2;omega) (ptT.getD f []) t;have hne:=ptT_ne f hf (t - 1) (by omega);have hfr:aT (f:Int) (t:Int)=(ptT.getD f []).getD (t - 1) 0:=rfl;generalize smK (wiB 2) ts (ptT.getD f []) t=s at hs;refine ⟨?_,rfl,rfl,rfl,rfl,by show 1<=(t:Int);omega,by show (t:Int)<=(MT M (f:Int):Nat);rw [MT_nat M hf];omega,hfr.symm⟩;generalize (ptT.getD f []).getD (t - 1) 0=a at hne
  have hv:a.val≠0:=fun e=>hne (_root_.Fin.ext e)
  have hP1:¬P1 (rpH f i t (s+u) a):=by unfold P1 rpH;simp only;omega
  have hP2:¬P2 (rpH f i t (s+u) a):=by unfold P2 rpH;simp only;omega
  have hP3:¬P3 (rpH f i t (s+u) a):=by unfold P3 rpH;simp
  have hP4:¬P4 (rpH f i t (s+u) a):=by unfold P4 rpH;simp only;omega
  have hck:ckE (rpH f i t (s+u) a)=0:=by unfold ckE;rw [if_neg hP1,if_neg hP2,if_neg hP3,if_neg hP4]
  have hf2:(rpH f i t (s+u) a).fr.val≠0:=hv;unfold okR;rw [hck,decide_eq_true hf2];simp [rpH]
 all r hr t ht1 ht2:=by
  obtain ⟨i,f,s,u,hi,hf,hs1,hs2,hu,rfl⟩:=tr_at h hr;have ht2:t<=(MT M (f:Int):Nat):=ht2;rw [MT_nat M hf] at ht2;obtain ⟨t,rfl⟩:=Int.eq_ofNat_of_zero_le (show 0<=t by omega);exact h.2 f hf t (by omega) (by omega)
end
end Go.Proofs.YtojkdfilabmafaaGreat
namespace Go.Proofs.YtojkdfilabmafaaGreat
open Go.Own Go.Limbs Go.Det Go.Proofs.Tryz
theorem wiT_subB:∀f,f<2 ->∀t,t<5 ->((wsG 0 ((ptT.getD f []).take t)).all fun w=>decide (w∈wiB 2))=true:=by decide
theorem wiT_sub(f:Nat)(hf:f<2)(t:Nat)(ht:t<5)(w:Wr)(hw:w∈wsG 0 ((ptT.getD f []).take t)):w∈wiB 2:=
 of_decide_eq_true (List.all_eq_true.1 (wiT_subB f hf t ht) w hw)
theorem wiT_len:(wiB 2).length=7:=by decide
def wiS : List Wr := [(0, 1), (1, 2), (1, 5), (2, 3), (3, 4), (3, 6), (5, 3)]
theorem wiS_up:Up cmpW wiS:=by unfold Up;decide
theorem wiS_mem:∀w∈wiB 2,w∈wiS:=by decide
theorem wiT_preB:∀f,f<2 ->∀t,t<5 ->(decide (t=0)||(wsG 0 ((ptT.getD f []).take t)).any fun w=>decide (w=(0,1)))=true:=by decide
theorem wiT_pre(f:Nat)(hf:f<2)(t:Nat)(ht:t<5)(h1:1<=t):(0,1)∈wsG 0 ((ptT.getD f []).take t):=by
 have h:=wiT_preB f hf t ht;rw [decide_eq_false (by omega),Bool.false_or] at h;obtain ⟨w,hw,e⟩:=List.any_eq_true.1 h;rw [<- of_decide_eq_true e];exact hw
theorem up_sub_len{vs:List Wr}(hu:Up cmpW vs)(h:∀w∈vs,w∈wiS):vs.length<=7:=by
 have e:vs=wiS.filter fun w=>decide (w∈vs):=by
  refine Up.ext ordW hu (List.Pairwise.filter _ wiS_up) fun w=> ?_
  rw [List.mem_filter,decide_eq_true_eq];exact ⟨fun hw=>⟨h w hw,hw⟩,fun hw=>hw.2⟩
 rw [e];exact List.length_filter_le _ _
section
variable {ts : List Int} {q : Int} {M : Nat → Nat} {out : List Rs}
def tmF (ts : List Int) (w : Wr) : Int := tmK (wiB 2) ts w (wiB 2).length
theorem tmF_at(ts:List Int){w:Wr}(h:w∈wiB 2):∃k,k<(wiB 2).length/\ (wiB 2).getD k wr0=w/\ tmF ts w=ts.getD k 0:=by
 have e:wiB 2=[(0,1),(1,2),(2,3),(3,4),(1,5),(5,3),(3,6)]:=by decide
 rw [e] at h;simp only [List.mem_cons,List.not_mem_nil,or_false] at h;rcases h with rfl|rfl|rfl|rfl|rfl|rfl|rfl
 · exact ⟨0,by decide,by decide,by show (0:Int)+ts.getD 0 0=_;rw [Int.zero_add]⟩
 · exact ⟨1,by decide,by decide,by show (0:Int)+ts.getD 1 0=_;rw [Int.zero_add]⟩
 · exact ⟨2,by decide,by decide,by show (0:Int)+ts.getD 2 0=_;rw [Int.zero_add]⟩
 · exact ⟨3,by decide,by decide,by show (0:Int)+ts.getD 3 0=_;rw [Int.zero_add]⟩
 · exact ⟨4,by decide,by decide,by show (0:Int)+ts.getD 4 0=_;rw [Int.zero_add]⟩
 · exact ⟨5,by decide,by decide,by show (0:Int)+ts.getD 5 0=_;rw [Int.zero_add]⟩
 · exact ⟨6,by decide,by decide,by show (0:Int)+ts.getD 6 0=_;rw [Int.zero_add]⟩
theorem tr_ms(hl:ts.length=(wiB 2).length)(hts:∀y∈ts,0<=y/\ y<=60)(hq:0<=q/\ q<=100)(hM:∀f,f<2 ->2<=M f/\ M f<=4)(h:TrP ts q M out)(ho:out.length<=13):
  (msF out).length=out.length/\ chkF out=0/\ ∀m∈msF out,∃(f t:Nat),f<2/\ 1<=t/\ t<=4/\ m.2=wsG 0 ((ptT.getD f []).take t)/\ smT (tmF ts) m.2<=m.1.bk - m.1.tm/\ m.1.bk - m.1.tm<=smT (tmF ts) m.2+q:=by
 have hF:=tr_fan hl hts hq hM h ho
 have hMT:∀f,MT M f<256:=fun f=>by
  unfold MT;split
  · have:=hM f.toNat (by omega);omega
  · decide
 have hms:=hF.ms hMT (fun r hr=>by
  obtain ⟨i,f,t,u,hi,hf,ht1,ht2,hu,rfl⟩:=tr_at h hr;have hMf:=hM f hf;show (adF aT (f:Int) (MT M (f:Int)) 1).all _=true;rw [MT_nat M hf,adF_pt1 hf hMf.2]
  have:∀f,f<2 ->(ptT.getD f []).all (fun x=>decide (x≠0))=true:=by decide
  have:=this f hf;rw [List.all_eq_true] at this ⊢
  exact fun x hx=>this x (List.mem_of_mem_take hx))
 refine ⟨by rw [hms,List.length_map],hF.chk (by omega),fun m hm=> ?_⟩;rw [hms] at hm;obtain ⟨r,hr,rfl⟩:=List.mem_map.1 hm;obtain ⟨i,f,t,u,hi,hf,ht1,ht2,hu,rfl⟩:=tr_at h hr;have hMf:=hM f hf
 have e2:wsG 0 (adF aT (f:Int) t 1)=wsG 0 ((ptT.getD f []).take t):=by rw [adF_pt1 hf (by omega)]
 have e3:=smT_wsG (wiB 2) ts (ptT.getD f []) t (by rw [ptT_len hf];omega);refine ⟨f,t,hf,ht1,by omega,e2,?_,?_⟩
 · show smT (tmF ts) (wsG 0 (adF aT (f:Int) t 1))<=1000*(i:Int)+(smK (wiB 2) ts (ptT.getD f []) t+u) - 1000*i;rw [e2];have:smT (tmF ts) (wsG 0 ((ptT.getD f []).take t))=smK (wiB 2) ts (ptT.getD f []) t:=e3;omega
 · show 1000*(i:Int)+(smK (wiB 2) ts (ptT.getD f []) t+u) - 1000*i<=smT (tmF ts) (wsG 0 (adF aT (f:Int) t 1))+q;rw [e2];have:smT (tmF ts) (wsG 0 ((ptT.getD f []).take t))=smK (wiB 2) ts (ptT.getD f []) t:=e3;omega
theorem tr_vr(hl:ts.length=(wiB 2).length)(hts:∀y∈ts,0<=y/\ y<=60)(hq:0<=q/\ q<=100)(hM:∀f,f<2 ->2<=M f/\ M f<=4)(h:TrP ts q M out)(ho:out.length<=13):
  vrO out=(vrF out,0)/\ Up cmpW (vrF out)/\ (∀w∈vrF out,w∈wiB 2)/\ (vrF out).length<=7/\ 0<(vrF out).length/\ ∀m∈msF out,∀w∈m.2,w∈vrF out:=by
 obtain ⟨h1,h2,h3⟩:=tr_ms hl hts hq hM h ho;have hs:=sd_spec ordW (wsA (msF out))
 have hin:∀w∈vrF out,w∈wiB 2:=fun w hw=>by
  have hw:=(hs.2 w).1 hw;obtain ⟨m,hm,hw⟩:=List.mem_flatMap.1 hw;obtain ⟨f,t,hf,_,ht,e,_⟩:=h3 m hm;rw [e] at hw;exact wiT_sub f hf t (Nat.lt_succ_of_le ht) w hw
 have hlen:=up_sub_len hs.1 (fun w hw=>wiS_mem w (hin w hw));have hlen:(vrF out).length<=7:=hlen
 have hsub:∀m∈msF out,∀w∈m.2,w∈vrF out:=fun m hm w hw=>(hs.2 w).2 (List.mem_flatMap.2 ⟨m,hm,hw⟩)
 refine ⟨?_,hs.1,hin,hlen,?_,hsub⟩
 · unfold vrO;rw [if_neg (fun h=>h h2),if_neg (by omega)]
 · have hM0:=hM 0 (by decide);obtain ⟨r,hr,_⟩:=h.2 0 (by decide) 1 (by decide) (by omega)
   have hp:0<(msF out).length:=by rw [h1];exact List.length_pos_of_mem hr
   have hm:(msF out)[0]∈msF out:=List.getElem_mem hp;obtain ⟨f,t,hf,ht1,ht,e,_⟩:=h3 _ hm;exact List.length_pos_of_mem (hsub _ hm (0,1) (by rw [e];exact wiT_pre f hf t (Nat.lt_succ_of_le ht) ht1))
end
def ImpR (rs rs' : List Rw) : Prop := ∀ r' ∈ rs', ∃ r ∈ rs, r.cs = r'.cs ∧ r.b ≤ r'.b
def Sml (f : Fr) : Prop := ∃ A B : Int, Btw A B f ∧ -1152921504606846976 ≤ A ∧ B ≤ 1152921504606846976
structure IvS (n : Nat) (rs : List Rw) (k : Nat) (O1 O2 : Oc) (p : Int × Int) : Prop where
  s1 : Sol n rs (unL n k (-1)) O1
  s2 : Sol n rs (unL n k 1) O2
  k1 : O1.kind = 1
  k2 : O2.kind = 1
  b1 : Sml O1.value
  b2 : Sml O2.value
  e : p = (-flV O1.value, flV O2.value)
section
variable {vs : List Wr} (hu : Up cmpW vs) (T : Wr → Int)
include hu
theorem bounds_S{ms:List Me}{mo qu:Int}(hv:vs.length<=16)(hl:vs.length+2*ms.length<=64)(ht:tiB mo qu=true)(hT:∀v∈vs,0<=T v/\ T v<=mo)
  (hm:∀m∈ms,(m.2.length<=256/\ 0<=m.1.bk - m.1.tm/\ m.1.bk - m.1.tm<=2251799813685248)/\ (∀w∈m.2,w∈vs)/\ smT T m.2<=m.1.bk - m.1.tm/\ m.1.bk - m.1.tm<=smT T m.2+qu) {k:Nat} (hk:k<vs.length):
  ∃(p:Int × Int) (O1 O2:Oc),Ok prog 44 [rowsC (rowsD vs mo qu ms),intC vs.length,intC k] (.fr (tupT [ocC O1,ocC O2,ivC p,intC 0]))/\ IvS vs.length (rowsD vs mo qu ms) k O1 O2 p:=by
 have hrv:=rowsD_valid (vs:=vs) (ms:=ms) (mo:=mo) (qu:=qu) hv hl (fun m hmm=>(hm m hmm).1) ht;have hF:=feas_T hu T hT (fun m hmm=>(hm m hmm).2);have hrl:=rowsD_len vs mo qu ms;have ht2:0<=mo/\ mo<=1073741824/\ 0<=qu/\ qu<=1073741824:=of_decide_eq_true ht
 have hmem:vs.getD k wr0∈vs:=by rw [List.getD_eq_getElem?_getD,List.getElem?_eq_getElem hk];exact List.getElem_mem _
 have hTk:=hT _ hmem;obtain ⟨O1,s1,k1⟩:=Solve_any hrv (unL_ok hk (f:= -1) (.inr rfl));obtain ⟨O2,s2,k2⟩:=Solve_any hrv (unL_ok hk (f:=1) (.inl rfl));obtain ⟨Y1,d1,v1⟩:=dual_zero (n:=vs.length) (rs:=rowsD vs mo qu ms) (c:=unL vs.length k (-1)) (fun j _=>by rw [unL_getD (-1) hk];split <;>decide)
 obtain ⟨Y2,d2,v2⟩:=dual_one (n:=vs.length) (rs:=rowsD vs mo qu ms) (c:=unL vs.length k 1) (r1:=⟨cfW vs [vs.getD k wr0] 1,mo⟩) (by unfold rowsD;exact List.mem_append.2 (.inl (List.mem_map.2 ⟨_,hmem,rfl⟩))) (fun j hj=>by
  rw [unL_getD 1 hk];dsimp only;rw [cfW_at _ _ hj,List.count_singleton];by_cases e:j=k
  · subst e;simp
  · rw [if_neg e];split <;>decide)
 obtain ⟨a1,b1⟩:=sol_btw s1 (by omega) hF d1;obtain ⟨a2,b2⟩:=sol_btw s2 (by omega) hF d2;rw [v1,rsum_un _ hk] at b1;rw [v2,rsum_un _ hk] at b2;dsimp only at b1 b2;generalize T (vs.getD k wr0)=x at*;have l1:=sol_len s1 (by omega);have l2:=sol_len s2 (by omega);have f1:=flV_btw b1 (by omega) (by omega);have f2:=flV_btw b2 (by omega) (by omega);have hB:=bounds_fine vs.length k hk hv (rowsD vs mo qu ms) O1 O2 k1 k2 ⟨a1,l1.1,l1.2.1,l1.2.2 a1⟩ ⟨a2,l2.1,l2.2.1,l2.2.2 a2⟩ (by omega);exact ⟨_,O1,O2,hB,s1,s2,a1,a2,⟨_,_,b1,by omega,by omega⟩,⟨_,_,b2,by omega,by omega⟩,rfl⟩
end
section
variable {ts : List Int} {q : Int} {M : Nat → Nat} {out : List Rs}
theorem tr_rw(hl:ts.length=(wiB 2).length)(hts:∀y∈ts,0<=y/\ y<=60)(hq:0<=q/\ q<=100)(hM:∀f,f<2 ->2<=M f/\ M f<=4)(h:TrP ts q M out)(ho:out.length<=13){mo qu:Int}(ht:tiB mo qu=true):
  rwO out mo qu=(rowsD (vrF out) mo qu (msF out),(msF out).map (fun m=>idOf m.1),0):=by
 obtain ⟨h1,h2,h3⟩:=tr_ms hl hts hq hM h ho;obtain ⟨v1,v2,v3,v4,v5,v6⟩:=tr_vr hl hts hq hM h ho;unfold rwO;rw [v1];dsimp only;rw [if_neg (by rw [ht];decide),if_neg (fun h=>h J),if_neg (by omega)]
theorem tr_bounds(hl:ts.length=(wiB 2).length)(hts:∀y∈ts,0<=y/\ y<=60)(hq:0<=q/\ q<=100)(hM:∀f,f<2 ->2<=M f/\ M f<=4)(h:TrP ts q M out)(ho:out.length<=13){mo qu:Int}(hmo:60<=mo)(hqu:q<=qu)(ht:tiB mo qu=true){k:Nat}(hk:k<(vrF out).length):
  ∃(p:Int × Int) (O1 O2:Oc),Ok prog 44 [rowsC (rowsD (vrF out) mo qu (msF out)),intC (vrF out).length,intC k] (.fr (tupT [ocC O1,ocC O2,ivC p,intC 0]))/\ IvS (vrF out).length (rowsD (vrF out) mo qu (msF out)) k O1 O2 p:=by
 obtain ⟨h1,h2,h3⟩:=tr_ms hl hts hq hM h ho;obtain ⟨v1,v2,v3,v4,v5,v6⟩:=tr_vr hl hts hq hM h ho
 have hT:∀v∈vrF out,0<=tmF ts v/\ tmF ts v<=mo:=fun v hv=>by
  obtain ⟨k,hk,_,e⟩:=tmF_at ts (v3 v hv);rw [e];have:=hts (ts.getD k 0) (by rw [List.getD_eq_getElem?_getD,List.getElem?_eq_getElem (by omega)];exact List.getElem_mem _);omega
 exact bounds_S v2 (tmF ts) (ms:=msF out) (mo:=mo) (qu:=qu) (by omega) (by omega) ht hT (fun m hm=>by
  obtain ⟨f,t,hf,ht1,ht,e,e2,e3⟩:=h3 m hm
  exact ⟨⟨me_wires out m hm,(me_time out m hm).2⟩,v6 m hm,e2,by omega⟩) hk
end
end Go.Proofs.YtojkdfilabmafaaGreat
namespace Go.Proofs.YtojkdfilabmafaaGreat
open Go.Own Go.Limbs Go.Proofs.Tryz
attribute [local irreducible] St Ops Go.Own.Fin Ok OkB OkN OkT OkL OkF OkM
theorem oc_w:argW [.ex (.int .i64 0), .ex (.bool false), .ex (.slice none 0 0), .ex (.slice none 0 0), .ex (.slice none 0 0), .ex (.slice none 0 0), .ex (.slice none 0 0)] (ocCs oc0):=⟨Ze,Ze,w_nat0,w_nat0,Yv,Yv,Yv,trivial⟩
theorem ends_miss(l:List Rs)(hl:l.length<=10000)(mo qu:Int)(w:Wr)(h0:(rwO l mo qu).2.2=0)(hw:w ∉ (vrO l).1)(hu:Up cmpW (vrO l).1)(hvl:(vrO l).1.length<=16):
  Ok prog 43 [rssC l,tiC mo qu,wrC w] (.fr (tupT [ocC oc0,ocC oc0,ivC (0,0),intC 8])):=by
 have hR:=DRows_ok l hl mo qu;have hV:=Jq l hl;have hS:=BSearch_ok (vrO l).1 w hu (by omega);rw [decide_eq_false hw] at hS;rw [h0] at hR;have ho:=oc_w;generalize (rwO l mo qu).1=rs at hR;generalize (rwO l mo qu).2.1=is at hR;generalize (vrO l).2=ve at hV;generalize posD (vrO l).1 w=k at hS;generalize (vrO l).1=vs at hV hS;generalize oc0=O0 at ho ⊢
 refine Ok.enter func43 J _ ntmps43 J ?_
 intro S w0
 refine Qj ?_
 refine Qx ?_
 refine Xx 3 J J J J J J J ?_
 refine Xx 4 J J J J J J J ?_
 refine Qb 0 J J (by with_reducible exact zvOut) J J J ?_
 refine Qb 1 J J (by with_reducible exact zvOut) J J J ?_
 refine Qb 2 J J (by with_reducible exact zvIv) J J J ?_
 (refine Qy J J J ?_;refine Qz (Qq (Qj ?_));refine Qx ?_;refine Qv J J J ?_)
 refine Qa (n:=2) J J J J J (by with_reducible exact lTi) J ?_
 refine QJ goDRows hR J J J J ?_
 (refine Qv J J J ?_;refine QV J J J J ?_;refine QV J J J J ?_;refine QV J J J J ?_;refine Qy J J J ?_;refine Qy J J J ?_;refine Qy J J J ?_;refine Qz (Qq (Qj (Qj ?_)));refine Qx ?_;refine Qv J J J ?_;refine Qw ineq J J J J ?_;refine Qz (Qq (Qt J (QU (Qq (Qj ?_)))));refine Qx ?_;refine Qv J J J ?_)
 refine QJ goVariables hV J J J J ?_
 (refine Qv J J J ?_;refine QV J J J J ?_;refine QV J J J J ?_;refine Qy J J J ?_;refine Qy J J J ?_;refine Qz (Qq (Qj ?_));refine Qx ?_;refine Qv J J J ?_;refine Qa (n:=2) J J J J J (by with_reducible exact YK) J ?_)
 refine QJ goBSearch hS J J J J ?_
 (refine Qv J J J ?_;refine QV J J J J ?_;refine QV J J J J ?_;refine Qy J J J ?_;refine Qy J J J ?_;refine Qz (Qq (Qj (Qj ?_)));refine Qx ?_;refine Qv J J J ?_;refine Qr J J J ?_;refine Qz (Qq (Xk J (Qj ?_))))
 refine Y0 (by with_reducible exact mixed) [3,4,5] (.f 0 (.m 1 (.m 2 (.a 3 (.a 4 (.a 5 (.p 6 .done) .non) .non) .non) (.a 3 (.m 2 (.a 4 (.a 5 (.p 6 .done) .non) .non) (.a 4 (.f 2 (.a 5 (.p 6 .done) .non)) .non)) .non)) (.m 2 (.m 1 (.a 3 (.a 4 (.a 5 (.p 6 .done) .non) .non) .non) (.a 3 (.f 1 (.a 4 (.a 5 (.p 6 .done) .non) .non)) .non)) (.a 3 (.f 1 (.m 2 (.a 4 (.a 5 (.p 6 .done) .non) .non) (.a 4 (.f 2 (.a 5 (.p 6 .done) .non)) .non))) .non)))) (by kernel_rfl) (fun K hK=> ?_)
 repeat' (first
  |refine Qc
  |refine Xz ?_
  |refine Zz ?_
  |refine X5 ?_ ?_
  |refine Qp ?_ ?_
  |refine Qz ?_
  |refine Qy J J J ?_
  |refine Qa (n:=7) J J J J J (by with_reducible exact lOut) J ?_
  |refine Qa (n:=2) J J J J J (by with_reducible exact lIv) J ?_
  |refine Q7 7 J J J J J (by with_reducible exact szOut) J J ?_
  |refine Q7 2 J J J J J (by with_reducible exact szIv) J J ?_
  |(refine Xu (hK _ _ ?_)
    refine Qq (Q0 (QW ?_))
    refine QK [_,_,_,_] rfl (X1 (w_agg ho) (Qd (n:=7) J J (by with_reducible exact lOut) J (X1 (w_agg ho) (Qd (n:=7) J J (by with_reducible exact lOut) J (Qd (n:=2) J J (by with_reducible exact lIv) J (Qu J QQ)))))) J J))
section
variable {ts : List Int} {q : Int} {M : Nat → Nat} {out : List Rs}
end
def Stp (d : List Int) : Prop := ∀ t, t < d.length → 20 ≤ tmT d (t + 1) - tmT d t ∧ tmT d (t + 1) - tmT d t ≤ 49
theorem fIv0:fldInfo prog 39 0=some (0,some 1):=by kernel_rfl
theorem fIv1:fldInfo prog 39 1=some (1,some 1):=by kernel_rfl
end Go.Proofs.YtojkdfilabmafaaGreat
namespace Go.Proofs.YtojkdfilabmafaaGreat
open Go.Own Go.Limbs Go.Proofs.Tryz
attribute [local irreducible] St Ops Go.Own.Fin Ok OkF
def fitF (f : Fr) : Bool := decide ((limbs f.num).length ≤ 64) && decide ((limbs f.den).length ≤ 64)
def chkV (f : Fr) : Fr := if fitF f then f else ⟨false, 0, 0⟩
def chkE (f : Fr) : Int := if fitF f then 0 else 5
theorem fit_list{f:Fr}(hx:(limbs f.num).length<=256)(hy:(limbs f.den).length<=256)(hd:0<f.den)(hn:f.neg=true ->f.num≠0):fvalidL f.neg (limbs f.num) (limbs f.den)=fitF f:=by
 unfold fvalidL fitF;rw [validL_limbs (by omega),validL_limbs (by omega)];have h1:=limbs_len_pos (n:=f.den);have h2:=limbs_len_pos (n:=f.num);rw [decide_eq_true (h1.2 (by omega))]
 cases hh:f.neg with
 |false=>simp
 |true=>
  have hz:decide ((limbs f.num).length=0)=false:=decide_eq_false (fun h5=>by have:=h2.2 (hn hh);omega);rw [hz];simp
theorem frz_cells:∀(f:Fr),f=⟨false,0,0⟩ ->argW [.ex (.bool false), .ex (.slice none 0 0), .ex (.slice none 0 0)] (frCs f):=fun f h=>by
 subst h
 exact ⟨Ze,w_nat0,w_nat0,trivial⟩
theorem checked_any(f:Fr)(hx:(limbs f.num).length<=256)(hy:(limbs f.den).length<=256)(hd:0<f.den)(hn:f.neg=true ->f.num≠0):Ok prog 287 [fracC f] (.fr (tupT [fracC (chkV f),intC (chkE f)])):=by
 have h1:=FValid_list f.neg (limbs f.num) (limbs f.den) (by omega) (by omega);rw [fit_list hx hy hd hn] at h1
 have hv:chkV f=if fitF f then f else ⟨false,0,0⟩:=rfl
 have he:chkE f=if fitF f then 0 else 5:=rfl
 generalize chkV f=v at hv ⊢;generalize chkE f=e at he ⊢;generalize fitF f=b at*
 refine Ok.enter func287 J _ ntmps287 J ?_
 intro S w;refine Qj (Qx ?_);refine Xx 0 J J J J J J J (Qb 1 J J zvFrac J J J (Qy J J J (Qz (Qq (Qj (Qj ?_))))));refine Qx (Qa (n:=3) J J J J J Xn J (QJ goFValid h1 J J J J (Qr J J J (Qz (Qq ?_)))));refine Xa J (fun h=> ?_) (fun h=> ?_)
 · have hb:b=false:=by simpa using h
   subst hb;have hv:v=⟨false,0,0⟩:=hv;have he:e=5:=he;subst he;refine Qj (Qx ?_);refine Qm J bFrac J .nil J (Q7 3 J J J J J szFrac J J (Qy J J J (Qz (Qq (Q0 (QW ?_))))));refine QK [_,_] rfl (X1 (w_agg (frz_cells v hv)) (Qd J J Xn J (Qu J QQ))) J J
 · have hb:b=true:=by simpa using h
   subst hb;have hv:v=f:=hv;have he:e=0:=he;subst he;subst hv;refine QU (Qq (Qj (Qx ?_)));refine Qa (n:=3) J J J J J Xn J (Q7 3 J J J J J szFrac J J (Qy J J J (Qz (Qq (Q0 ?_)))));refine QK [_,_] rfl (Qd (n:=3) J J Xn J (Qu J QQ)) J J
theorem FAdd_any(f h:Fr)(h1:(limbs f.num).length<=64)(h2:(limbs h.den).length<=64)(h3:(limbs h.num).length<=64)(h4:(limbs f.den).length<=64)(d1:0<f.den)(d2:0<h.den):
  Ok prog 266 [fracC f,fracC h] (.fr (tupT [fracC (chkV (ofQ (qv f+qv h))),intC (chkE (ofQ (qv f+qv h)))])):=by
 have hp:=Nat.mul_pos d1 d2;have l1:=mul_len h1 h2;have l2:=mul_len h3 h4;have l3:=sumN_len (n1:=f.neg) (n2:=h.neg) l1 l2;have l8:=Zt (a:=f.den) (b:=h.den);have l4:=redF_den (sumS f.neg (f.num*h.den) h.neg (h.num*f.den)) (sumN f.neg (f.num*h.den) h.neg (h.num*f.den)) _ hp;have l5:=redF_neg (sumS f.neg (f.num*h.den) h.neg (h.num*f.den)) (sumN f.neg (f.num*h.den) h.neg (h.num*f.den)) (f.den*h.den);have l6:(limbs (redF (sumS f.neg (f.num*h.den) h.neg (h.num*f.den)) (sumN f.neg (f.num*h.den) h.neg (h.num*f.den)) (f.den*h.den)).num).length<=64+64+1:=div_len l3;have l7:=XV l4.2;have hr:=reduced_ok (sumS f.neg (f.num*h.den) h.neg (h.num*f.den)) (sumN f.neg (f.num*h.den) h.neg (h.num*f.den)) _ hp (by omega) (by omega);rw [<- redF_add f h d1 d2];have hc:=checked_any _ (by omega) (by omega) l4.1 l5
 refine Ok.enter func266 J _ ntmps266 J ?_
 intro S w;generalize redF (sumS f.neg (f.num*h.den) h.neg (h.num*f.den)) (sumN f.neg (f.num*h.den) h.neg (h.num*f.den)) (f.den*h.den)=rr at*;generalize chkV rr=v at hc ⊢;generalize chkE rr=e at hc ⊢;refine Qj (Qx ?_);refine Xx 0 J J J J J J J (Xx 1 J J J J J J J (Qb 2 J J zvFrac J J J (Qy J J J (Qz (Qq (Qj ?_))))));refine Xy mixed 20 (.p 0 (.p 2 (.p 4 (.p 7 (.p 9 (.p 11 (.f 1 (.f 3 (.f 5 (.f 8 (.f 10 (.f 12 (.m 6 (.m 13 (.m 14 (.p 15 (.p 16 (.p 17 (.p 18 (.p 19 .done)))))))))))))))))))) (by kernel_rfl) (fun K hK=> ?_);refine QY J J J fF0 J (QY J J J fF1 J (QY J J J fF2 J (QY J J J fF0 J (QY J J J fF1 J (QY J J J fF2 J (QZ J J J J J lBool J (QZ J J J J J lNat J (QZ J J J J J lNat J (QZ J J J J J lBool J (QZ J J J J J lNat J (QZ J J J J J lNat J (QJ goproduct (product_ok f.num h.den (by omega)) J J J J ?_))))))))))));skip
 refine QJ goproduct (product_ok h.num f.den (by omega)) J J J J ?_
 skip
 refine QJ gosum (sum_ok _ _ _ _ (by omega) (by omega)) J J J J ?_
 refine Qv J J J (QV J J J J (QV J J J J (Qk 2 J (Qz (hK _ _ (Qq (Qj ?_)))))));clear hK K;refine Qx (Qk 2 J (QY J J J fF2 J (QZ J J J J J lNat J (QY J J J fF2 J (QZ J J J J J lNat J (QJ goproduct (product_ok f.den h.den (by omega)) J J J J ?_))))));skip;refine QJ goreduced hr J J J J (QJ gochecked hc J J J J (QV J J J J (QV J J J J (Q7 3 J J J J J szFrac J J (Qy J J J (Qz (Qq (Q0 ?_))))))));refine QK [_,_] rfl (Qd (n:=3) J J Xn J (Qu J QQ)) J J
theorem FMul_any(f h:Fr)(h1:(limbs f.num).length<=64)(h2:(limbs h.den).length<=64)(h3:(limbs h.num).length<=64)(h4:(limbs f.den).length<=64)(d1:0<f.den)(d2:0<h.den):
  Ok prog 265 [fracC f,fracC h] (.fr (tupT [fracC (chkV (ofQ (qv f*qv h))),intC (chkE (ofQ (qv f*qv h)))])):=by
 have hp:=Nat.mul_pos d1 d2;have l3:=Zt (a:=f.num) (b:=h.num);have l8:=Zt (a:=f.den) (b:=h.den);have l4:=redF_den (f.neg !=h.neg) (f.num*h.num) _ hp;have l5:=redF_neg (f.neg !=h.neg) (f.num*h.num) (f.den*h.den);have l6:(limbs (redF (f.neg !=h.neg) (f.num*h.num) (f.den*h.den)).num).length<=128:=div_len (Nat.le_trans l3 (by omega));have l7:=XV l4.2;have hr:=reduced_ok (f.neg !=h.neg) (f.num*h.num) _ hp (by omega) (by omega);rw [<- redF_mul f h d1 d2];have hc:=checked_any _ (by omega) (by omega) l4.1 l5
 refine Ok.enter func265 J _ ntmps265 J ?_
 intro S w;generalize redF (f.neg !=h.neg) (f.num*h.num) (f.den*h.den)=rr at*;generalize chkV rr=v at hc ⊢;generalize chkE rr=e at hc ⊢;refine Qj (Qx ?_);refine Xx 0 J J J J J J J (Xx 1 J J J J J J J (Qb 2 J J zvFrac J J J (Qy J J J (Qz (Qq (Qj ?_))))));refine Xy mixed 19 (.p 0 (.p 2 (.p 5 (.p 7 (.p 10 (.p 12 (.f 1 (.f 3 (.p 4 (.f 6 (.f 8 (.f 11 (.f 13 (.m 9 (.m 14 (.m 15 (.m 16 (.p 17 (.p 18 (.a 19 (.p 20 .done))))))))))))))))))))) (by kernel_rfl) (fun K hK=> ?_);refine QY J J J fF0 J (QY J J J fF0 J (QY J J J fF1 J (QY J J J fF1 J (QY J J J fF2 J (QY J J J fF2 J (QZ J J J J J lBool J (QZ J J J J J lBool J (Ops.bne J J J uBool J ?_))))))));rw [dne];refine QZ J J J J J lNat J (QZ J J J J J lNat J (QZ J J J J J lNat J (QZ J J J J J lNat J (QJ goproduct (product_ok f.num h.num (by omega)) J J J J ?_))));skip
 refine QJ goproduct (product_ok f.den h.den (by omega)) J J J J ?_
 refine QJ goreduced hr J J J J (QJ gochecked hc J J J J (QV J J J J (QV J J J J (Q7 3 J J J J J szFrac J J (Qy J J J (Qz (hK _ _ (Qq (Q0 ?_)))))))));clear hK K;refine QK [_,_] rfl (Qd (n:=3) J J Xn J (Qu J QQ)) J J
end Go.Proofs.YtojkdfilabmafaaGreat
namespace Go.Proofs.YtojkdfilabmafaaGreat
open Go.Own Go.Limbs Go.Proofs.Tryz
attribute [local irreducible] St Ops Go.Own.Fin Ok OkM
def psum (c : List Int) (xs : List Fr) : Nat → Rat
  | 0 => 0
  | k + 1 => psum c xs k + (c.getD k 0 : Rat) * qv (xs.getD k fr0)
def vsum (c : List Int) (xs : List Fr) : Rat := psum c xs (min c.length xs.length)
theorem divInt_one(n:Int):Rat.divInt n 1=(n:Rat):=Rat.num_divInt_den (n:Rat)
theorem ofQ_int_den(n:Int):(ofQ (n:Rat)).den=1:=rfl
theorem From_int(n:Int)(h1: -9223372036854775808<=n)(h2:n<=9223372036854775807):Ok prog 223 [intC n,intC 1] (.fr (tupT [ratC (n:Rat),intC 0])):=by
 have:=FFrom_ok n 1 h1 h2 (by decide) (by decide) (by decide);rw [divInt_one] at this;exact this
end Go.Proofs.YtojkdfilabmafaaGreat
namespace Go.Proofs.YtojkdfilabmafaaGreat
open Go.Own Go.Limbs Go.Proofs.Tryz
theorem ofQ_den(q:Rat):0<(ofQ q).den:=q.den_pos
def cmpQ (p q : Rat) : Int := (p.num * q.den - q.num * p.den).sign
attribute [local irreducible] Go.Own.Fin Ok OkM Ops St
theorem sg_sign(n:Bool)(a:Nat):(sg n a).sign=if a=0 then 0 else if n then -1 else 1:=by
 unfold sg;by_cases h:a=0
 · rw [if_pos h,h];cases n <;>rfl
 · rw [if_neg h]
   cases n with
   |true=>rw [if_pos J,if_pos J];exact Int.sign_eq_neg_one_of_neg (by omega)
   |false=>rw [if_neg (by decide),if_neg (by decide)];exact Int.sign_eq_one_of_pos (by omega)
theorem sg_not(n:Bool)(a:Nat):sg (!n) a= -sg n a:=by cases n <;>simp [sg]
theorem FCompare_q(p q:Rat)(h1:(limbs (ofQ p).num).length<=90)(h2:(limbs (ofQ p).den).length<=90)(h3:(limbs (ofQ q).num).length<=90)(h4:(limbs (ofQ q).den).length<=90):Ok prog 224 [ratC p,ratC q] (.fr (tupT [intC (cmpQ p q),intC 0])):=by
 have h:=FCompare_gen (ofQ p) (ofQ q) h1 h2 h3 h4
 have e:cmpQ p q=if sumN (ofQ p).neg ((ofQ p).num*(ofQ q).den) (!(ofQ q).neg) ((ofQ q).num*(ofQ p).den)=0 then 0 else if sumS (ofQ p).neg ((ofQ p).num*(ofQ q).den) (!(ofQ q).neg) ((ofQ q).num*(ofQ p).den) then -1 else 1:=by
  have e1:=sum_sg (ofQ p).neg ((ofQ p).num*(ofQ q).den) (!(ofQ q).neg) ((ofQ q).num*(ofQ p).den);rw [<- sg_sign,e1,sg_not,sg_mul,sg_mul,ofQ_sg,ofQ_sg];unfold cmpQ
  congr 1
 rw [e];exact h
structure VF (f : Fr) : Prop where
  num : (limbs f.num).length ≤ 64
  den : (limbs f.den).length ≤ 64
  pos : 0 < f.den
  neg : f.neg = true → f.num ≠ 0
theorem VF.list{f:Fr}(h:VF f):fvalidL f.neg (limbs f.num) (limbs f.den)=true:=by
 unfold fvalidL;have h3:=limbs_len_pos (n:=f.den);have h4:=limbs_len_pos (n:=f.num);have h1:=h.num;have h2:=h.den;have hp:=h.pos;rw [validL_limbs (by omega),validL_limbs (by omega),decide_eq_true h1,decide_eq_true h2,decide_eq_true (h3.2 (by omega))]
 cases hn:f.neg with
 |false=>rfl
 |true=>rw [decide_eq_false (fun h5=>by have:=h4.2 (h.neg hn);omega)];rfl
theorem FValid_V(f:Fr)(h:VF f):Ok prog 159 [fracC f] (boolC true):=by
 have:=FValid_list f.neg (limbs f.num) (limbs f.den) (by have:=h.num;omega) (by have:=h.den;omega);rw [h.list] at this;exact this
theorem VF.q(q:Rat)(h1:(limbs (ofQ q).num).length<=64)(h2:(limbs (ofQ q).den).length<=64):VF (ofQ q):=⟨h1,h2,ofQ_den q,fun h=>by
 have:q.num<0:=of_decide_eq_true h
 show q.num.natAbs≠0
 omega⟩
theorem int_lens{b:Int}(hb:b.natAbs<=4503599627370496):(limbs (ofQ (b:Rat)).num).length<=2/\ (limbs (ofQ (b:Rat)).den).length<=1:=
 ⟨Qs (Nat.lt_of_le_of_lt hb (by decide)),by rw [ofQ_int_den];exact Qs (by decide)⟩
end Go.Proofs.YtojkdfilabmafaaGreat
