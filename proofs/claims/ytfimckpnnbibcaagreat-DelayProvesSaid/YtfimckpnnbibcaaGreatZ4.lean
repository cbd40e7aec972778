/- The proof that DelayProves holds for every input, without conditions: part 4 of 7. -/
import Derived.Test.YtfimckpnnbibcaaGreatZ3
set_option maxHeartbeats 32000000
set_option maxRecDepth 100000
namespace Go.Proofs.YtfimckpnnbibcaaGreat
open Go.Limbs Go.Own Go.Proofs.Tryz
attribute [local irreducible] Go.Own.Fin Ok OkM Ops St
def pvZ (p D : Int) (s : Nat) (rr line : List Int) (j : Nat) : Int := if j = s then -(line.getD s 0) else (line.getD j 0 * p + -(rr.getD j 0 * line.getD s 0)).tdiv D
def pvPre (p D : Int) (s : Nat) (rr line : List Int) (q : Nat) : List Int := (List.range line.length).map fun j => if j < q ∧ j ≠ s then pvZ p D s rr line j else line.getD j 0
def pvRow (p D : Int) (s : Nat) (rr line : List Int) : List Int := (List.range line.length).map (pvZ p D s rr line)
def pvRows (T : Tv) (r s q : Nat) : List (List Int) := (List.range T.rows.length).map fun i => if i < q ∧ i ≠ r then pvRow (T.at r s) T.den s (T.rows.getD r []) (T.rows.getD i []) else T.rows.getD i []
def negL (l : List Int) : List Int := l.map (fun z => -z)
def pvt (T : Tv) (r s : Nat) : Tv :=
  let rows := (pvRows T r s T.rows.length).set r ((T.rows.getD r []).set s T.den)
  { T with rows := if T.at r s < 0 then rows.map negL else rows, bas := T.bas.set r (T.col.getD s 0), col := T.col.set s (T.bas.getD r 0), den := if T.at r s < 0 then -(T.at r s) else T.at r s }
theorem pvPre_len(p D:Int)(s:Nat)(rr line:List Int)(q:Nat):(pvPre p D s rr line q).length=line.length:=by simp [pvPre]
theorem pvRow_len(p D:Int)(s:Nat)(rr line:List Int):(pvRow p D s rr line).length=line.length:=by simp [pvRow]
theorem Jz(T:Tv)(r s q:Nat):(pvRows T r s q).length=T.rows.length:=by simp [pvRows]
theorem Zd{α:Type}(n:Nat)(f:Nat ->α)(d:α){j:Nat}(h:j<n):((List.range n).map f).getD j d=f j:=by simp [List.getD_eq_getElem?_getD,h]
theorem Y8{α:Type}(l:List α)(d:α):(List.range l.length).map (fun j=>l.getD j d)=l:=by
 apply List.ext_getElem (by simp)
 intro j h1 h2;simp [List.getD_eq_getElem?_getD,h2]
theorem Yh{α:Type}(n:Nat)(f g:Nat ->α)(q:Nat)(x:α)(hq:q<n)(h:∀j,j<n ->g j=if j=q then x else f j):((List.range n).map f).set q x=(List.range n).map g:=by
 apply List.ext_getElem (by simp)
 intro j h1 h2;simp only [List.length_map,List.length_range] at h2;rw [List.getElem_set];simp only [List.getElem_map,List.getElem_range];rw [h j h2];by_cases e:q=j
 · subst e;simp
 · rw [if_neg e,if_neg (Ne.symm e)]
theorem pvPre_zero(p D:Int)(s:Nat)(rr line:List Int):pvPre p D s rr line 0=line:=by
 unfold pvPre
 have:(fun j=>if j<0/\ j≠s then pvZ p D s rr line j else line.getD j 0)=fun j=>line.getD j 0:=by funext j;rw [if_neg (by omega)]
 rw [this,Y8]
theorem pvPre_at(p D:Int)(s:Nat)(rr line:List Int)(q j:Nat)(h:j<line.length)(hq:q<=j \/j=s):(pvPre p D s rr line q).getD j 0=line.getD j 0:=by
 unfold pvPre;rw [Zd _ _ _ h,if_neg (by omega)]
theorem pvPre_skip(p D:Int)(s:Nat)(rr line:List Int)(q:Nat)(hq:q=s \/pvZ p D s rr line q=line.getD q 0):pvPre p D s rr line (q+1)=pvPre p D s rr line q:=by
 unfold pvPre
 congr 1
 funext j
 by_cases h:j<q/\ j≠s
 · rw [if_pos h,if_pos ⟨by omega,h.2⟩]
 · rw [if_neg h];by_cases h2:j<q+1/\ j≠s
   · rw [if_pos h2]
     have:j=q:=by omega
     subst this;rcases hq with hq|hq
     · omega
     · exact hq
   · rw [if_neg h2]
theorem pvPre_set(p D:Int)(s:Nat)(rr line:List Int)(q:Nat)(h:q<line.length)(hq:q≠s):(pvPre p D s rr line q).set q (pvZ p D s rr line q)=pvPre p D s rr line (q+1):=by
 unfold pvPre;refine Yh _ _ _ q _ h (fun j hj=> ?_);by_cases e:j=q
 · subst e;rw [if_pos rfl,if_pos ⟨by omega,hq⟩]
 · rw [if_neg e];by_cases h2:j<q/\ j≠s
   · rw [if_pos h2,if_pos ⟨by omega,h2.2⟩]
   · rw [if_neg h2,if_neg (by omega)]
theorem pvPre_done(p D:Int)(s:Nat)(rr line:List Int)(h:s<line.length):(pvPre p D s rr line line.length).set s (-(line.getD s 0))=pvRow p D s rr line:=by
 unfold pvPre pvRow;refine Yh _ _ _ s _ h (fun j hj=> ?_);by_cases e:j=s
 · subst e;rw [if_pos rfl];unfold pvZ;rw [if_pos rfl]
 · rw [if_neg e,if_pos ⟨hj,e⟩]
theorem pvZ_zero{p D:Int}{s:Nat}{rr line:List Int}{j:Nat}(hj:j≠s)(h:line.getD j 0=0)(h2:line.getD s 0=0 \/rr.getD j 0=0):pvZ p D s rr line j=line.getD j 0:=by
 unfold pvZ;rw [if_neg hj,h];rcases h2 with h2|h2 <;>rw [h2] <;>simp
theorem pvRow_same{D:Int}{s:Nat}{rr line:List Int}(hD:D≠0)(h:line.getD s 0=0):pvRow D D s rr line=line:=by
 unfold pvRow
 have:(pvZ D D s rr line)=fun j=>line.getD j 0:=by
  funext j
  unfold pvZ;split
  · rename_i e;subst e;rw [h];rfl
  · rw [h,Int.mul_zero,Int.neg_zero,Int.add_zero,Int.mul_tdiv_cancel _ hD]
 rw [this,Y8]
theorem pvRows_zero(T:Tv)(r s:Nat):pvRows T r s 0=T.rows:=by
 unfold pvRows
 have:(fun i=>if i<0/\ i≠r then pvRow (T.at r s) T.den s (T.rows.getD r []) (T.rows.getD i []) else T.rows.getD i [])=fun i=>T.rows.getD i []:=by funext i;rw [if_neg (by omega)]
 rw [this,Y8]
theorem pvRows_at(T:Tv)(r s q i:Nat)(h:i<T.rows.length)(hq:q<=i \/i=r):(pvRows T r s q).getD i []=T.rows.getD i []:=by
 unfold pvRows;rw [Zd _ _ _ h,if_neg (by omega)]
theorem pvRows_skip(T:Tv)(r s q:Nat)(hq:q=r \/pvRow (T.at r s) T.den s (T.rows.getD r []) (T.rows.getD q [])=T.rows.getD q []):pvRows T r s (q+1)=pvRows T r s q:=by
 unfold pvRows
 congr 1
 funext j
 by_cases h:j<q/\ j≠r
 · rw [if_pos h,if_pos ⟨by omega,h.2⟩]
 · rw [if_neg h];by_cases h2:j<q+1/\ j≠r
   · rw [if_pos h2]
     have:j=q:=by omega
     subst this;rcases hq with hq|hq
     · omega
     · exact hq
   · rw [if_neg h2]
theorem pvRows_set(T:Tv)(r s q:Nat)(h:q<T.rows.length)(hq:q≠r):(pvRows T r s q).set q (pvRow (T.at r s) T.den s (T.rows.getD r []) (T.rows.getD q []))=pvRows T r s (q+1):=by
 unfold pvRows;refine Yh _ _ _ q _ h (fun j hj=> ?_);by_cases e:j=q
 · subst e;rw [if_pos rfl,if_pos ⟨by omega,hq⟩]
 · rw [if_neg e];by_cases h2:j<q/\ j≠r
   · rw [if_pos h2,if_pos ⟨by omega,h2.2⟩]
   · rw [if_neg h2,if_neg (by omega)]
def negP (l : List Int) (q : Nat) : List Int := (List.range l.length).map fun j => if j < q then -(l.getD j 0) else l.getD j 0
def negR (l : List (List Int)) (q : Nat) : List (List Int) := (List.range l.length).map fun j => if j < q then negL (l.getD j []) else l.getD j []
theorem negP_len(l:List Int)(q:Nat):(negP l q).length=l.length:=by simp [negP]
theorem negR_len(l:List (List Int))(q:Nat):(negR l q).length=l.length:=by simp [negR]
theorem negP_zero(l:List Int):negP l 0=l:=by
 unfold negP
 have:(fun j=>if j<0 then -(l.getD j 0) else l.getD j 0)=fun j=>l.getD j 0:=by funext j;rw [if_neg (by omega)]
 rw [this,Y8]
theorem negR_zero(l:List (List Int)):negR l 0=l:=by
 unfold negR
 have:(fun j=>if j<0 then negL (l.getD j []) else l.getD j [])=fun j=>l.getD j []:=by funext j;rw [if_neg (by omega)]
 rw [this,Y8]
theorem negP_at(l:List Int)(q:Nat)(h:q<l.length):(negP l q).getD q 0=l.getD q 0:=by unfold negP;rw [Zd _ _ _ h,if_neg (by omega)]
theorem negR_at(l:List (List Int))(q:Nat)(h:q<l.length):(negR l q).getD q []=l.getD q []:=by unfold negR;rw [Zd _ _ _ h,if_neg (by omega)]
theorem negP_set(l:List Int)(q:Nat)(h:q<l.length):(negP l q).set q (-(l.getD q 0))=negP l (q+1):=by
 unfold negP;refine Yh _ _ _ q _ h (fun j hj=> ?_);by_cases e:j=q
 · subst e;rw [if_pos rfl,if_pos (by omega)]
 · rw [if_neg e];by_cases h2:j<q
   · rw [if_pos h2,if_pos (by omega)]
   · rw [if_neg h2,if_neg (by omega)]
theorem negR_set(l:List (List Int))(q:Nat)(h:q<l.length):(negR l q).set q (negL (l.getD q []))=negR l (q+1):=by
 unfold negR;refine Yh _ _ _ q _ h (fun j hj=> ?_);by_cases e:j=q
 · subst e;rw [if_pos rfl,if_pos (by omega)]
 · rw [if_neg e];by_cases h2:j<q
   · rw [if_pos h2,if_pos (by omega)]
   · rw [if_neg h2,if_neg (by omega)]
theorem negP_done(l:List Int):negP l l.length=negL l:=by
 unfold negP negL
 apply List.ext_getElem (by simp)
 intro j h1 h2;simp only [List.length_map,List.length_range] at h1;simp [List.getD_eq_getElem?_getD,h1]
theorem negR_done(l:List (List Int)):negR l l.length=l.map negL:=by
 unfold negR
 apply List.ext_getElem (by simp)
 intro j h1 h2;simp only [List.length_map,List.length_range] at h1;simp [List.getD_eq_getElem?_getD,h1]
end Go.Proofs.YtfimckpnnbibcaaGreat
namespace Go.Own
theorem ZW{X:Ctx}{L L' :AL}{B:BL}{K:Act ->World ->Prop}(h:Fin X L' B K)(hs:subL L L'):Fin X L B K:=Yo L' hs h
end Go.Own
namespace Go.Proofs.YtfimckpnnbibcaaGreat
open Go.Own Go.Limbs Go.Proofs.Tryz
attribute [local irreducible] St Ops Go.Own.Fin Ok OkM
abbrev tb (T : Tv) (rows : List (List Int)) (bas col : List Int) (den : Int) : BL :=
  (0, .box 182 [.ex T.hR, .ex T.hB, .ex T.hC, boolC (decide (den < 0)), natC den.natAbs]) :: (1, .rowx T.hR 179 1 (T.hl.map CT.ex)) :: (2, .rowx T.hB 3 1 (ints bas)) :: (3, .rowx T.hC 3 1 (ints col)) :: linesB 10 T.hl rows
abbrev unitW : CT := .tup []
theorem Z2{α:Type}{l:List α}{i j:Nat}{x d:α}(h:i<l.length):(l.set i x).getD j d=if i=j then x else l.getD j d:=by
 simp only [List.getD_eq_getElem?_getD,List.getElem?_set];by_cases hp:i=j
 · subst hp;simp [h]
 · simp [hp]
theorem bdel_lines:∀(k:Nat) (hl:List Value) (zs:List (List Int)) (j:Nat),j<k ->bdel (linesB k hl zs) j=linesB k hl zs
 |_,[],_,_,_=>by simp [linesB,bdel]
 |_,_::_,[],_,_=>by simp [linesB,bdel]
 |k,h::hl,z::zs,j,hj=>by
  have:Nat.beq k j=false:=beq_ne (by omega)
  simp only [linesB,bdel,this]
  rw [bdel_lines (k+1) hl zs j (by omega)]
theorem del5{T:Tv}{rows:List (List Int)}{bas col:List Int}{den:Int}{e e4:Ent}:bdel ((5,e)::(4,e4)::tb T rows bas col den) 5=(4,e4)::tb T rows bas col den:=by
 show (4,e4)::(0,_)::(1,_)::(2,_)::(3,_)::bdel (linesB 10 T.hl rows) 5=_;rw [bdel_lines _ _ _ _ (by decide)]
theorem del4{T:Tv}{rows:List (List Int)}{bas col:List Int}{den:Int}{e4:Ent}:bdel ((4,e4)::tb T rows bas col den) 4=tb T rows bas col den:=by
 show (0,_)::(1,_)::(2,_)::(3,_)::bdel (linesB 10 T.hl rows) 4=_;rw [bdel_lines _ _ _ _ (by decide)]
theorem set_line5{T:Tv}{rows:List (List Int)}{bas col:List Int}{den:Int}{e5 e4:Ent}{i:Nat}(y:List Int)(h1:i<T.hl.length)(h2:i<rows.length):bset ((5,e5)::(4,e4)::tb T rows bas col den) (i+10) (.rowx (T.hl.getD i default) 178 2 (whs y))=(5,e5)::(4,e4)::tb T (rows.set i y) bas col den:=by
 rw [YQ J,YQ J,YQ J,YQ J,YQ J,YQ J,lines_set y h1 h2]
theorem set_line4{T:Tv}{rows:List (List Int)}{bas col:List Int}{den:Int}{e4:Ent}{i:Nat}(y:List Int)(h1:i<T.hl.length)(h2:i<rows.length):bset ((4,e4)::tb T rows bas col den) (i+10) (.rowx (T.hl.getD i default) 178 2 (whs y))=(4,e4)::tb T (rows.set i y) bas col den:=by
 rw [YQ J,YQ J,YQ J,YQ J,YQ J,lines_set y h1 h2]
theorem pvt_pos{T:Tv}{r s:Nat}{p:Int}(hp:T.at r s=p)(h:¬p<0):tabB (pvt T r s)=tb T ((pvRows T r s T.rows.length).set r ((T.rows.getD r []).set s T.den)) (T.bas.set r (T.col.getD s 0)) (T.col.set s (T.bas.getD r 0)) p:=by
 simp only [pvt,tabB,hp,if_neg h]
theorem pvt_neg{T:Tv}{r s:Nat}{p:Int}(hp:T.at r s=p)(h:p<0):tabB (pvt T r s)=tb T (((pvRows T r s T.rows.length).set r ((T.rows.getD r []).set s T.den)).map negL) (T.bas.set r (T.col.getD s 0)) (T.col.set s (T.bas.getD r 0)) (-p):=by
 simp only [pvt,tabB,hp,if_pos h]
theorem pivot_ok(T:Tv)(hF:Fit T)(hS:Shrt T)(hD:0<T.den)(hDs:(limbs T.den.natAbs).length<=60)(r s:Nat)(hr:r<T.bas.length)(hs:s<T.col.length):OkM prog 147 [.own 0, .ct (intC r), .ct (intC s)] (tabB T) [0] (fun _:Unit=>True) (fun _=> .ct unitW) (fun _=>tabB (pvt T r s)):=by
 have hfew:=hF.few;have hthin:=hF.thin;have hhl:=hF.hl;have hbas:=hF.bas
 have hr2:r<T.rows.length:=by omega
 have hrowr:=hF.row r hr2
 have kr:(r:Int).toNat*1=r:=by omega
 have ks:(s:Int).toNat*2=s*2:=by omega
 have ks1:(s:Int).toNat*1=s:=by omega
 have sp:=hS r s
 refine OkM.enter func147 J _ ntmps147 J (tab_fx T) ?_
 intro S w ρ0 hbor;show St _ _ (tb T T.rows T.bas T.col T.den) _ _;generalize hp:T.at r s=p at*;refine Qj 7 J (Q5 1 T.rows.length J J J (by simp [hhl]) J sMat (by omega) (by omega) J ?_);rw [kr]
 refine QK J J J J (Yw (by omega)) lWhs J ?_;refine Qq 1 J (Q5 (r+10) (T.col.length+1) J J (Qs (by omega) hr2) (by rw [XV,hrowr]) J sWhs (by omega) (by omega) J ?_);rw [ks];refine ldWh J J J (Qs (by omega) hr2) J (by omega) lWh J ?_
 rw [show (T.rows.getD r []).getD s 0=p from hp]
 refine Xh 4 J J zvWh J (by exact Zo 10 _ _ 4 (by decide)) J ?_;refine Qq 4 J (XY 10 0x8009084746452420030201 J ?_);refine Qq 4 J (Z5 (n:=2) J J J J (Nat.le_of_ble_eq_true J) lWh J (Qv (gT J) (minus_ok T.den) J (Qv (gT J) (plus_ok p (-T.den) (by omega) (Nat.le_trans (neg_short hDs) (by decide))) J ?_)));refine Qv (gT J) (sign_ok _) J (Qq 11 J (ZU 1 T.rows.length J J J (by decide) (by simp [hhl]) sMat.und J ?_));refine Qq 4 J ?_
 refine QY (α:=Nat) (fun i=>i<=T.rows.length)
  (fun i=>[(0, .own 0),(1, .ct (intC r)),(2, .ct (intC s)),(6, .own 4),(7, .ct (boolC (decide ((p+ -T.den).sign=0)))),(37, .ct (.ex T.hR)),(38, .ct (intC T.rows.length)),(39, .ct (intC i))])
  (fun i=>(4, .box 178 (whCs p))::tb T (pvRows T r s i) T.bas T.col T.den) (fun i=>T.rows.length - i) 0 (Nat.zero_le _) (by exact QW (by rw [pvRows_zero] <;>rfl) ⟨rfl,rfl,rfl,rfl,rfl,rfl,rfl,rfl,trivial⟩) ?_
 intro i hi;dsimp only at hi ⊢;have hrl:=Jz T r s i;refine Qj 6 J ?_;refine Qy J (fun h=> ?_) (fun h=> ?_)
 · have hi2:i<T.rows.length:=by omega
   have hrow:=hF.row i hi2
   have ki:(i:Int).toNat*1=i:=by omega
   have eline:=pvRows_at T r s i i hi2 (.inl (Nat.le_refl _));have erow:=pvRows_at T r s i r hr2 (by omega);have sf:=hS i s;generalize hf:T.at i s=f at*;have eskip:=pvRows_skip T r s i;refine Qj 7 J (Q5 1 T.rows.length J J J (by simp [hhl]) J sMat (by omega) (by omega) J ?_);rw [ki]
   refine QK J J J J (Yw (by omega)) lWhs J ?_;refine Qq 8 J (Q5 (i+10) (T.col.length+1) J J (Qs (by omega) (by omega)) (by rw [XV,eline,hrow]) J sWhs (by omega) (by omega) J ?_);rw [ks];refine ldWh J J J (Qs (by omega) (by omega)) J (by rw [eline];omega) lWh J ?_
   rw [eline,show (T.rows.getD i []).getD s 0=f from hf]
   refine Xh 5 J J zvWh J (by exact Zo 10 _ _ 5 (by decide)) J ?_;refine Qq 5 J ?_;refine Xj (fun K hK=> ?_);refine Q2 3 J (Qg J J J ((fun (cont:∀b:Bool,(b=true ->i=r \/(p=T.den/\ f=0)) ->(b=false ->i≠r) ->Go.Own.Fin _ [(58, .ct (boolC b)),(0, .own 0),(1, .ct (intC r)),(2, .ct (intC s)),(6, .own 4),(7, .ct (boolC (decide ((p+ -T.den).sign=0)))),(8, .ct (intC i)),(9, .ct (.ex (T.hl.getD i default))),(10, .own 5),(37, .ct (.ex T.hR)),(38, .ct (intC T.rows.length)),(39, .ct (intC i))] ((5, .box 178 (whCs f))::(4, .box 178 (whCs p))::tb T (pvRows T r s i) T.bas T.col T.den) K)=> ?_) (fun b hb1 hb2=>hK _ _ ?_)))
   · clear hK;refine QQ 51 J (fun h1=> ?_) (fun h1=> ?_)
     · refine Q2 7 J ?_;exact Qz (ZW (cont true (fun _=> .inl (by omega)) (fun h=>by cases h)) ⟨rfl,rfl,rfl,rfl,rfl,rfl,rfl,rfl,rfl,rfl,rfl,rfl,trivial⟩)
     · have hir:i≠r:=fun e=>h1 (by omega)
       refine Q2 2 J (QQ 53 J (fun h2=> ?_) (fun h2=> ?_))
       · refine Q2 1 J (Qv (gT J) (sign_ok f) J (Q2 4 J (ZW (cont (decide (f.sign=0)) (fun h=> .inr ⟨?_,sgn_eq.1 (of_decide_eq_true h)⟩) (fun _=>hir)) ⟨rfl,rfl,rfl,rfl,rfl,rfl,rfl,rfl,rfl,rfl,rfl,rfl,trivial⟩)));have:=sgn_eq.1 h2;omega
       · refine Q2 5 J ?_;exact Qz (ZW (cont false (fun h=>by cases h) (fun _=>hir)) ⟨rfl,rfl,rfl,rfl,rfl,rfl,rfl,rfl,rfl,rfl,rfl,rfl,trivial⟩)
   clear hK K;refine Xs 1 J (Xx J (fun hb=> ?_) (fun hb=> ?_))
   · have hskip:pvRows T r s (i+1)=pvRows T r s i:=eskip (by
      rcases hb1 hb with h|⟨h,h'⟩
      · exact .inl h
      · exact .inr (by rw [hp,h];exact pvRow_same (by omega) (by rw [h'] at hf;exact hf)))
     refine Xz 7 J (by omega) ?_;refine Qk (i+1) (by omega) (by omega) (by exact Q1 5 (QW (by rw [hskip];exact del5) ⟨rfl,rfl,rfl,rfl,rfl,rfl,rfl,by simp only [Int.natCast_add];rfl,trivial⟩))
   · have hir:=hb2 hb;clear hb1 hb2 hb eskip;have edone:=pvRows_set T r s i hi2 hir;rw [hp] at edone
     have erowR:∀y,((pvRows T r s i).set i y).getD r []=T.rows.getD r []:=fun y=>by rw [Z2 (by omega),if_neg hir];exact erow
     have elineI:∀y,((pvRows T r s i).set i y).getD i []=y:=fun y=>by rw [Z2 (by omega),if_pos J]
     have hslen:∀y,((pvRows T r s i).set i y).length=T.rows.length:=fun y=>by rw [List.length_set,hrl]
     refine Qj 6 J (ZU (i+10) (T.col.length+1) J J (Qs (by omega) (by omega)) (by decide) (by rw [XV,eline,hrow]) sWhs.und J ?_);refine Qq 4 J ?_;have hs0:pvPre p T.den s (T.rows.getD r []) (T.rows.getD i []) 0=T.rows.getD i []:=pvPre_zero ..
     have hst0:(pvRows T r s i).set i (T.rows.getD i [])=pvRows T r s i:=by
      rw [<- eline]
      apply List.ext_getElem (by simp)
      intro j h1 h2;rw [List.getElem_set];split
      · rename_i e;subst e;simp [List.getD_eq_getElem?_getD,h2]
      · rfl
     refine QY (α:=Nat) (fun q=>q<=T.col.length+1)
      (fun q=>[(0, .own 0),(1, .ct (intC r)),(2, .ct (intC s)),(6, .own 4),(7, .ct (boolC (decide ((p+ -T.den).sign=0)))),(8, .ct (intC i)),(9, .ct (.ex (T.hl.getD i default))),(10, .own 5),(37, .ct (.ex T.hR)),(38, .ct (intC T.rows.length)),(39, .ct (intC i)),(60, .ct (intC ((T.col.length+1:Nat):Int))),(61, .ct (intC q))])
      (fun q=>(5, .box 178 (whCs f))::(4, .box 178 (whCs p))::tb T ((pvRows T r s i).set i (pvPre p T.den s (T.rows.getD r []) (T.rows.getD i []) q)) T.bas T.col T.den)
      (fun q=>T.col.length+1 - q) 0 (Nat.zero_le _) (by exact QW (by rw [hs0,hst0]) ⟨rfl,rfl,rfl,rfl,rfl,rfl,rfl,rfl,rfl,rfl,rfl,rfl,rfl,trivial⟩) ?_
     intro q hq;dsimp only at hq ⊢;have hpl:=pvPre_len p T.den s (T.rows.getD r []) (T.rows.getD i []) q;have hpat:=pvPre_at p T.den s (T.rows.getD r []) (T.rows.getD i []) q;have hpskip:=pvPre_skip p T.den s (T.rows.getD r []) (T.rows.getD i []) q;have hpset:=pvPre_set p T.den s (T.rows.getD r []) (T.rows.getD i []) q
     have hpz:q≠s ->pvZ p T.den s (T.rows.getD r []) (T.rows.getD i []) q=((T.rows.getD i []).getD q 0*p+ -((T.rows.getD r []).getD q 0*f)).tdiv T.den:=fun h=>by
      unfold pvZ;rw [if_neg h,show (T.rows.getD i []).getD s 0=f from hf]
     have hpz0:q≠s ->(T.rows.getD i []).getD q 0=0 ->(f=0 \/(T.rows.getD r []).getD q 0=0) ->pvZ p T.den s (T.rows.getD r []) (T.rows.getD i []) q=(T.rows.getD i []).getD q 0:=fun h h1 h2=>pvZ_zero h h1 (by rw [show (T.rows.getD i []).getD s 0=f from hf];exact h2)
     have hpdone:=pvPre_done p T.den s (T.rows.getD r []) (T.rows.getD i []);generalize hPP:pvPre p T.den s (T.rows.getD r []) (T.rows.getD i []) q=cur at*;refine Qj 6 J ?_;refine Qy J (fun h2=> ?_) (fun h2=> ?_)
     · have hq2:q<T.col.length+1:=by omega
       have kq:(q:Int).toNat*2=q*2:=by omega
       have hget:bget (linesB 10 T.hl ((pvRows T r s i).set i cur)) (i+10)=some (.rowx (T.hl.getD i default) 178 2 (whs cur)):=by
        have:=Qs (k:=10) (hl:=T.hl) (zs:=(pvRows T r s i).set i cur) (i:=i) (by omega) (by rw [hslen];omega)
        rwa [elineI] at this
       have hgetr:bget (linesB 10 T.hl ((pvRows T r s i).set i cur)) (r+10)=some (.rowx (T.hl.getD r default) 178 2 (whs (T.rows.getD r []))):=by
        have:=Qs (k:=10) (hl:=T.hl) (zs:=(pvRows T r s i).set i cur) (i:=r) (by omega) (by rw [hslen];omega)
        rwa [erowR] at this
       have ecur:=hpat q (by omega) (.inl (Nat.le_refl _));have sz:=hS i q;have sr:=hS r q;have hsz:(T.rows.getD i []).getD q 0=T.at i q:=rfl;have hsr:(T.rows.getD r []).getD q 0=T.at r q:=rfl;rw [hsz] at ecur hpz hpz0;rw [hsr] at hpz hpz0;generalize T.at i q=z at*;generalize T.at r q=y at*;refine Qj 11 J ?_;refine Xj (fun K hK=> ?_);refine Q2 3 J (Qg J J J ((fun (cont:∀b:Bool,(b=true ->q≠s) ->(b=false ->q=s \/pvZ p T.den s (T.rows.getD r []) (T.rows.getD i []) q=z) ->Go.Own.Fin _ [(93, .ct (boolC b)),(0, .own 0),(1, .ct (intC r)),(2, .ct (intC s)),(6, .own 4),(7, .ct (boolC (decide ((p+ -T.den).sign=0)))),(8, .ct (intC i)),(9, .ct (.ex (T.hl.getD i default))),(10, .own 5),(11, .ct (intC q)),(37, .ct (.ex T.hR)),(38, .ct (intC T.rows.length)),(39, .ct (intC i)),(60, .ct (intC ((T.col.length+1:Nat):Int))),(61, .ct (intC q))] ((5, .box 178 (whCs f))::(4, .box 178 (whCs p))::tb T ((pvRows T r s i).set i cur) T.bas T.col T.den) K)=> ?_) (fun b hb1 hb2=>hK _ _ ?_)))
       · clear hK;refine QQ 67 J (fun h1=> ?_) (fun h1=> ?_)
         · have hqs:q≠s:=fun e=>h1 (by omega)
           refine Q2 2 J (Q5 (i+10) (T.col.length+1) J J hget (by rw [XV,hpl,hrow]) J sWhs (by omega) (by omega) J ?_);rw [kq]
           refine ldWh J J J hget J (by omega) lWh J ?_
           rw [ecur];refine Qv (gT J) (sign_ok z) J (Q2 2 J (QQ 74 J (fun h3=> ?_) (fun h3=> ?_)))
           · refine Q2 19 J ?_;exact Qz (ZW (cont true (fun _=>hqs) (fun h=>by cases h)) ⟨rfl,rfl,rfl,rfl,rfl,rfl,rfl,rfl,rfl,rfl,rfl,rfl,rfl,rfl,rfl,trivial⟩)
           · have hz0:z=0:=sgn_eq.1 (by omega);refine Q2 1 J (Qv (gT J) (sign_ok f) J (Q2 2 J (QQ 78 J (fun h4=> ?_) (fun h4=> ?_))))
             · refine Q2 5 J (Q5 1 T.rows.length J J J (by simp [hhl]) J sMat (by omega) (by omega) J ?_);rw [kr]
               refine QK J J J J (Yw (by omega)) lWhs J ?_;refine Q2 1 J (Q5 (r+10) (T.col.length+1) J J hgetr (by rw [XV,hrowr]) J sWhs (by omega) (by omega) J ?_);rw [kq];refine ldWh J J J hgetr J (by omega) lWh J ?_
               rw [hsr];refine Qv (gT J) (sign_ok y) J (Q2 4 J ?_);exact Qz (ZW (cont (decide (y.sign≠0)) (fun _=>hqs) (fun h=> .inr (hpz0 hqs hz0 (.inr (sgn_eq.1 (by have:=of_decide_eq_false h;omega)))))) ⟨rfl,rfl,rfl,rfl,rfl,rfl,rfl,rfl,rfl,rfl,rfl,rfl,rfl,rfl,rfl,trivial⟩)
             · refine Q2 15 J ?_;exact Qz (ZW (cont false (fun h=>by cases h) (fun _=> .inr (hpz0 hqs hz0 (.inl (sgn_eq.1 (by omega)))))) ⟨rfl,rfl,rfl,rfl,rfl,rfl,rfl,rfl,rfl,rfl,rfl,rfl,rfl,rfl,rfl,trivial⟩)
         · refine Q2 26 J ?_;exact Qz (ZW (cont false (fun h=>by cases h) (fun _=> .inl (by omega))) ⟨rfl,rfl,rfl,rfl,rfl,rfl,rfl,rfl,rfl,rfl,rfl,rfl,rfl,rfl,rfl,trivial⟩)
       clear hK K;refine Xs 1 J (Xx J (fun hb=> ?_) (fun hb=> ?_))
       · have hqs:=hb1 hb;clear hb1 hb2 hb;refine Qj 1 J (XY 23 0x807716555453473231102e0d2b26250f0c0a09080403020100 J ?_);refine Qq 4 J (Q5 (i+10) (T.col.length+1) J J hget (by rw [XV,hpl,hrow]) J sWhs (by omega) (by omega) J ?_);rw [kq];refine Qq 4 J (Qg J J J (ldWh J J J hget J (by omega) lWh J ?_));rw [ecur];refine Qq 2 J (Q5 1 T.rows.length J J J (by simp [hhl]) J sMat (by omega) (by omega) J ?_);rw [kr]
         refine QK J J J J (Yw (by omega)) lWhs J ?_;refine Q5 (r+10) (T.col.length+1) J J hgetr (by rw [XV,hrowr]) J sWhs (by omega) (by omega) J ?_
         rw [kq]
         refine ldWh J J J hgetr J (by omega) lWh J ?_
         rw [hsr];refine Qq 1 J (Qv (gT J) (times_ok z p (by omega)) J ?_);refine Qv (gT J) (times_ok y f (by omega)) J ?_;refine Qv (gT J) (minus_ok _) J ?_
         have m1:=mul_short sz sp;have m2:=neg_short (mul_short sr sf)
         refine Qv (gT J) (plus_ok _ _ (by omega) (by omega)) J ?_
         have m3:(limbs (z*p+ -(y*f)).natAbs).length<=121:=by
          refine Nat.le_trans (Qm (Int.natAbs_add_le _ _)) (Q6 ?_);have a1:=Xu m1;have a2:=Xu m2;have:(1073741824:Nat) ^ 121=1073741824 ^ 120*1073741824:=rfl;omega
         generalize z*p+ -(y*f)=v1 at*
         refine Q5 (i+10) (T.col.length+1) J J hget (by rw [XV,hpl,hrow]) J sWhs (by omega) (by omega) J ?_
         rw [kq]
         refine stWhX J J hget J (by omega) szWh ?_
         rw [set_line5 (cur.set q v1) (by omega) (by rw [hslen];omega),List.set_set]
         have hget2:bget (linesB 10 T.hl ((pvRows T r s i).set i (cur.set q v1))) (i+10)=some (.rowx (T.hl.getD i default) 178 2 (whs (cur.set q v1))):=by
          have:=Qs (k:=10) (hl:=T.hl) (zs:=(pvRows T r s i).set i (cur.set q v1)) (i:=i) (by omega) (by rw [hslen];omega)
          rwa [elineI] at this
         have ecur2:(cur.set q v1).getD q 0=v1:=by rw [getD_set (by omega),if_pos J]
         refine Qq 2 J (XY 12 0x806c0b4a29250807060403020100 J ?_);refine Qq 4 J (Q5 (i+10) (T.col.length+1) J J hget2 (by rw [XV,List.length_set,hpl,hrow]) J sWhs (by omega) (by omega) J ?_);rw [kq];refine Qq 2 J (Z1 J J J fT3 J (ldWh J J J hget2 J (by rw [List.length_set];omega) lWh J ?_));rw [ecur2];refine Z5 (n:=2) J J J J (Nat.le_of_ble_eq_true J) lWh J (Qv (gT J) (over_ok v1 T.den hD (by omega) (by omega)) J ?_);refine Q5 (i+10) (T.col.length+1) J J hget2 (by rw [XV,List.length_set,hpl,hrow]) J sWhs (by omega) (by omega) J ?_
         rw [kq]
         refine stWhX J J hget2 J (by rw [List.length_set];omega) szWh ?_
         rw [set_line5 _ (by omega) (by rw [hslen];omega),List.set_set,List.set_set];have hpset2:=hpset (by omega) hqs;rw [hpz hqs] at hpset2;rw [hpset2];refine QZ 7 J (by omega) ?_;refine Qk (q+1) (by omega) (by omega) (by exact Qx J)
       · have hsk:=hpskip ((hb2 hb).imp id (fun h=>by rw [h,hsz]));refine Xz 7 J (by omega) ?_;refine Qk (q+1) (by omega) (by omega) (by exact QW (by rw [hsk]) ⟨rfl,rfl,rfl,rfl,rfl,rfl,rfl,rfl,rfl,rfl,rfl,rfl,by simp only [Int.natCast_add];rfl,trivial⟩)
     · have hq' :q=(T.rows.getD i []).length:=by omega
       subst hPP;rw [hq'] at hpl ⊢;have hdone:=hpdone (by omega);rw [show (T.rows.getD i []).getD s 0=f from hf] at hdone
       have hget:bget (linesB 10 T.hl ((pvRows T r s i).set i (pvPre p T.den s (T.rows.getD r []) (T.rows.getD i []) (T.rows.getD i []).length))) (i+10)=some (.rowx (T.hl.getD i default) 178 2 (whs (pvPre p T.den s (T.rows.getD r []) (T.rows.getD i []) (T.rows.getD i []).length))):=by
        have:=Qs (k:=10) (hl:=T.hl) (zs:=(pvRows T r s i).set i (pvPre p T.den s (T.rows.getD r []) (T.rows.getD i []) (T.rows.getD i []).length)) (i:=i) (by omega) (by rw [hslen];omega)
        rwa [elineI] at this
       clear hpat hpskip hpset hpz hpz0 hpdone;generalize pvPre p T.den s (T.rows.getD r []) (T.rows.getD i []) (T.rows.getD i []).length=cur at*;refine Qj 6 J (Qv (gT J) (minus_ok f) J (Q5 (i+10) (T.col.length+1) J J hget (by rw [XV,hpl,hrow]) J sWhs (by omega) (by omega) J ?_));rw [ks]
       refine stWhX J J hget J (by omega) szWh ?_
       rw [set_line5 _ (by omega) (by rw [hslen];omega),List.set_set,hdone,edone];refine QZ 7 J (by omega) ?_;refine Qk (i+1) (by omega) (by omega) (by exact Q1 5 (QW del5 ⟨rfl,rfl,rfl,rfl,rfl,rfl,rfl,by simp only [Int.natCast_add];rfl,trivial⟩))
 · have hi' :i=T.rows.length:=by omega
   subst hi';have erow:=pvRows_at T r s T.rows.length r hr2 (.inr J)
   have hget:bget (linesB 10 T.hl (pvRows T r s T.rows.length)) (r+10)=some (.rowx (T.hl.getD r default) 178 2 (whs (T.rows.getD r []))):=by
    have:=Qs (k:=10) (hl:=T.hl) (zs:=pvRows T r s T.rows.length) (i:=r) (by omega) (by omega)
    rwa [erow] at this
   refine Qj 3 J (XY 13 0x806d0c2b2605230a09080704020100 J ?_);refine Qq 9 J (Q5 1 T.rows.length J J J (by simp [hhl]) J sMat (by omega) (by omega) J ?_);rw [kr];refine QK J J J J (Yw (by omega)) lWhs J ?_;refine Z5 (n:=2) J J J J (Nat.le_of_ble_eq_true J) lWh J (Q5 (r+10) (T.col.length+1) J J hget (by rw [XV,hrowr]) J sWhs (by omega) (by omega) J ?_);rw [ks];refine stWhX (c:=T.den) J J hget J (by omega) szWh ?_
   rw [set_line4 _ (by omega) (by omega)];have pos:=pvt_pos (T:=T) (r:=r) (s:=s) hp;have neg:=pvt_neg (T:=T) (r:=r) (s:=s) hp
   have hRl:((pvRows T r s T.rows.length).set r ((T.rows.getD r []).set s T.den)).length=T.rows.length:=by rw [List.length_set,hrl]
   have hRrow:∀i,i<T.rows.length ->(((pvRows T r s T.rows.length).set r ((T.rows.getD r []).set s T.den)).getD i []).length=T.col.length+1:=fun i hi=>by
    rw [Z2 (by omega)];split
    · rw [List.length_set,hrowr]
    · unfold pvRows;rw [Zd _ _ _ hi];split
      · rw [pvRow_len];exact hF.row i hi
      · exact hF.row i hi
   generalize (pvRows T r s T.rows.length).set r ((T.rows.getD r []).set s T.den)=RR at*;refine Qq 3 J (XY 25 0x807b1a7918371634300f2d2823151312110e0c0b0a0907060504020100 J ?_);refine Qq 19 J (Q5 3 T.col.length J J J (by simp) J sInts (by omega) (by omega) J ?_);rw [ks1];refine QK J J J J (XK (by omega)) lInt J ?_;refine Qq 1 J (Q5 2 T.bas.length J J J (by simp) J sInts (by omega) (by omega) J ?_);rw [kr];refine QK J J J J (XK (by omega)) lInt J ?_;refine Q5 2 T.bas.length J J J (by simp) J sInts (by omega) (by omega) J ?_
   rw [kr]
   refine Qa J J J J J zInt (by simp [Ent.cs];omega) ?_
   simp only [Ent.setc,Zz]
   refine Q5 3 T.col.length J J J (by simp) J sInts (by omega) (by omega) J ?_
   rw [ks1]
   refine Qa J J J J J zInt (by simp [Ent.cs];omega) ?_
   simp only [Ent.setc,Zz];have hcl:(T.col.set s (T.bas.getD r 0)).length=T.col.length:=List.length_set ..;generalize T.bas.set r (T.col.getD s 0)=bas' at*;generalize T.col.set s (T.bas.getD r 0)=col' at*;refine Qq 8 J (Ops.stNA (ds:=whCs p) J J J J J (by exact szWh) (Nat.le_of_ble_eq_true J) ?_);refine Qq 10 J ?_;refine Xx J (fun hb=> ?_) (fun hb=> ?_)
   · have hp0:¬p<0:=by simpa using hb
     refine Qj 1 J (Qc 4 (Yn () [] rfl Q3 J (fun j=> ?_) trivial));rw [pos hp0];exact congrArg (bget · j) (del4 (T:=T) (rows:=RR) (bas:=bas') (col:=col') (den:=p)).symm
   · have hp0:p<0:=by simpa using hb
     refine Qj 6 J (Qv (gT J) (minus_ok p) J (Qq 2 J (Ops.stNA (ds:=whCs (-p)) J J J J J (by exact szWh) (Nat.le_of_ble_eq_true J) ?_)));refine Qq 8 J (ZU 1 T.rows.length J J J (by decide) (by simp [hhl]) sMat.und J ?_);refine Qq 4 J ?_
     refine QY (α:=Nat) (fun i=>i<=T.rows.length)
      (fun i=>[(190, .ct (.ex T.hR)),(191, .ct (intC T.rows.length)),(192, .ct (intC i))])
      (fun i=>(4, .box 178 (whCs p))::tb T (negR RR i) bas' col' (-p)) (fun i=>T.rows.length - i) 0 (Nat.zero_le _) (by exact QW (by rw [negR_zero] <;>rfl) ⟨rfl,rfl,rfl,trivial⟩) ?_
     intro i hi
     (try dsimp only at hi ⊢)
     have hnl:=negR_len RR i;refine Qj 6 J ?_;refine Qy J (fun h=> ?_) (fun h=> ?_)
     · have hi2:i<T.rows.length:=by omega
       have hrow:=hRrow i hi2
       have ki:(i:Int).toNat*1=i:=by omega
       have eline:=negR_at RR i (by omega);have eset:=negR_set RR i (by omega)
       have elineI:∀y,((negR RR i).set i y).getD i []=y:=fun y=>by rw [Z2 (by omega),if_pos J]
       have hslen:∀y,((negR RR i).set i y).length=T.rows.length:=fun y=>by rw [List.length_set,hnl,hRl]
       have hst0:(negR RR i).set i (RR.getD i [])=negR RR i:=by
        rw [<- eline]
        apply List.ext_getElem (by simp)
        intro j h1 h2;rw [List.getElem_set];split
        · rename_i e;subst e;simp [List.getD_eq_getElem?_getD,h2]
        · rfl
       generalize RR.getD i []=line at*;refine Qj 6 J (Q5 1 T.rows.length J J J (by simp [hhl]) J sMat (by omega) (by omega) J ?_)
       rw [ki]
       refine QK J J J J (Yw (by omega)) lWhs J ?_;refine Qq 6 J (ZU (i+10) (T.col.length+1) J J (Qs (by omega) (by omega)) (by decide) (by rw [XV,eline,hrow]) sWhs.und J ?_);refine Qq 4 J ?_
       refine QY (α:=Nat) (fun q=>q<=T.col.length+1)
        (fun q=>[(190, .ct (.ex T.hR)),(191, .ct (intC T.rows.length)),(192, .ct (intC i)),(13, .ct (.ex (T.hl.getD i default))),(197, .ct (intC ((T.col.length+1:Nat):Int))),(198, .ct (intC q))])
        (fun q=>(4, .box 178 (whCs p))::tb T ((negR RR i).set i (negP line q)) bas' col' (-p)) (fun q=>T.col.length+1 - q) 0 (Nat.zero_le _) (by exact QW (by rw [negP_zero,hst0]) ⟨rfl,rfl,rfl,rfl,rfl,rfl,trivial⟩) ?_
       intro q hq
       (try dsimp only at hq ⊢)
       have hpl:=negP_len line q;refine Qj 6 J ?_;refine Qy J (fun h2=> ?_) (fun h2=> ?_)
       · have kq:(q:Int).toNat*2=q*2:=by omega
         have ecur:=negP_at line q (by omega);have pset:=negP_set line q (by omega)
         have hget:bget (linesB 10 T.hl ((negR RR i).set i (negP line q))) (i+10)=some (.rowx (T.hl.getD i default) 178 2 (whs (negP line q))):=by
          have:=Qs (k:=10) (hl:=T.hl) (zs:=(negR RR i).set i (negP line q)) (i:=i) (by omega) (by rw [hslen];omega)
          rwa [elineI] at this
         generalize negP line q=cur at*;refine Qj 15 J (Q5 (i+10) (T.col.length+1) J J hget (by rw [XV,hpl,hrow]) J sWhs (by omega) (by omega) J ?_);rw [kq]
         refine ldWh J J J hget J (by omega) lWh J ?_
         rw [ecur];refine Qv (gT J) (minus_ok _) J (Q5 (i+10) (T.col.length+1) J J hget (by rw [XV,hpl,hrow]) J sWhs (by omega) (by omega) J ?_);rw [kq]
         refine stWhX J J hget J (by omega) szWh ?_
         rw [set_line4 _ (by omega) (by rw [hslen];omega),List.set_set,pset];refine QZ 7 J (by omega) ?_;refine Qk (q+1) (by omega) (by omega) (by exact Qx J)
       · have hq' :q=line.length:=by omega
         rw [hq',negP_done,eset];refine Xz 7 J (by omega) ?_;refine Qk (i+1) (by omega) (by omega) (by exact Qx J)
     · have hi' :i=RR.length:=by omega
       rw [hi',negR_done];refine Qj 1 J (Qc 4 (Fin.endM () [] rfl Q3 J (fun j=> ?_) trivial));rw [neg hp0];exact congrArg (bget · j) (del4 (T:=T) (rows:=RR.map negL) (bas:=bas') (col:=col') (den:= -p)).symm
end Go.Proofs.YtfimckpnnbibcaaGreat
namespace Go.Proofs.YtfimckpnnbibcaaGreat
open Go.Own Go.Limbs Go.Proofs.Tryz
def beside (E : BL) : Bool := E.all fun p => Nat.ble 4 p.1 && Nat.blt p.1 10
theorem beside_get{E:BL}(h:beside E=true){j:Nat}(hj:(bget E j).isSome=true):4<=j/\ j<10:=by
 induction E with
 |nil=>cases hj
 |cons p E ih=>
  obtain ⟨i,e⟩:=p;simp only [beside,List.all_cons,Bool.and_eq_true] at h;by_cases hij:i=j
  · subst hij;exact ⟨Nat.le_of_ble_eq_true h.1.1,Nat.le_of_ble_eq_true h.1.2⟩
  · rw [QX _ _ hij] at hj;exact ih h.2 hj
theorem tab_none{T:Tv}{j:Nat}(h1:4<=j)(h2:j<10):bget (tabB T) j=none:=by
 unfold tabB;rw [QX _ _ (by omega),QX _ _ (by omega),QX _ _ (by omega),QX _ _ (by omega)];exact Zo 10 _ _ j h2
theorem tab_swap{E:BL}(h:beside E=true)(T:Tv)(j:Nat):bget (E++tabB T) j=bget (tabB T++E) j:=by
 rw [Xg,Xg]
 cases h1:bget E j with
 |none=>cases bget (tabB T) j <;>rfl
 |some e=>
  have:=beside_get h (j:=j) (by rw [h1];rfl);rw [tab_none this.1 this.2];rfl
def kpT (j : Nat) : Bool := Nat.beq j 0 || (Nat.ble 4 j && Nat.blt j 10)
section
variable {X : Ctx} {L : AL} {B : BL} {ops : Array Oper} {K : Act → World → Prop} {r : Pl} {k : Kd}
  {x y z : Operand} {d : Nat} {t t2 t' : TypeId} {pos : String} {af : Array Edge} {g : Option (Nat × Bool)}
theorem Ops.reB{l:Pl}{B' :BL}(hB:∀j,bget B' j=bget B j)(h:Ops X ops l L B' K):Ops X ops l L B K:=fun a ρ w hI=>h a ρ w (hI.bext hB)
theorem X3{f:FuncId}{args:List Operand}{tys:Array TypeId}{As:List Sl}{T:Tv}{α:Type}{J:α ->Prop}{R:α ->CT}{T' :α ->Tv}(E:BL)(hgo:InGo X.P f)(hok:OkM X.P f As (tabB T) [0] J (fun q=> .ct (R q)) (fun q=>tabB (T' q)))(hg:gd ops L g=some true)(hargs:evS L args=some As)(hn:Nat.blt d X.n=true)
  (hbor:∀gb,X.bor gb ->X.S0 gb) (hB:B=E++tabB T) (hE:beside E=true) (hfix:∀p∈X.fix,(bget E p.1).isSome=true \/p.1∈ [0])
  (h:∀q,J q ->Ops X ops r ((d, .ct (R q))::keepL kpT L) (E++tabB (T' q)) K):Ops X ops (.cons ⟨some d, .call {callee:= .value (.func f),args:=args.toArray,argTypes:=tys},t,pos,af,g⟩ .any r) L B K:=by
 subst hB;refine Ops.callM E kpT hgo hok hg hargs hn hbor (tab_swap hE T) (fun j hj=> ?_) (fun j hj=> ?_) hfix (fun q j h=> ?_) (fun q hq=> ?_)
 · have:=beside_get hE hj;exact ⟨tab_none this.1 this.2,fun q=>tab_none this.1 this.2⟩
 · unfold kpT at hj;rw [Bool.or_eq_true,Bool.and_eq_true] at hj;rcases hj with hj|⟨h1,h2⟩
   · exact .inl (by rw [Nat.eq_of_beq_eq_true hj];simp)
   · exact .inr fun q=>tab_none (Nat.le_of_ble_eq_true h1) (Nat.le_of_ble_eq_true h2)
 · rcases h with h|⟨_,h⟩ <;>cases h
 · exact Ops.reB (fun j=>tab_swap hE (T' q) j) (h q hq)
end
structure Gd (T : Tv) : Prop where
  fit : Fit T
  short : Shrt T
  den : 0 < T.den
  dens : (limbs T.den.natAbs).length ≤ 60
def RunOk (gi : Nat) (T' : Tv) (s : Int) : Nat → Tv → Prop
  | 0, T => Gd T ∧ T = T' ∧ ((entS (T.rows.getD gi []) T.col T.col.length < 0 ∧ s = -1) ∨ (0 ≤ entS (T.rows.getD gi []) T.col T.col.length ∧ levS T (entS (T.rows.getD gi []) T.col T.col.length).toNat T.bas.length < 0 ∧ s = entS (T.rows.getD gi []) T.col T.col.length))
  | k + 1, T => Gd T ∧ 0 ≤ entS (T.rows.getD gi []) T.col T.col.length ∧ 0 ≤ levS T (entS (T.rows.getD gi []) T.col T.col.length).toNat T.bas.length ∧
      RunOk gi T' s k (pvt T (levS T (entS (T.rows.getD gi []) T.col T.col.length).toNat T.bas.length).toNat (entS (T.rows.getD gi []) T.col T.col.length).toNat)
theorem RunOk.gd{gi:Nat}{T' :Tv}{s:Int}{k:Nat}{T:Tv}(h:RunOk gi T' s k T):Gd T:=by
 cases k with
 |zero=>exact h.1
 |succ k=>exact h.1
theorem Xf(T:Tv)(r s:Nat):(pvt T r s).rows.length=T.rows.length:=by
 unfold pvt;dsimp only;split
 · rw [List.length_map,List.length_set,Jz]
 · rw [List.length_set,Jz]
attribute [local irreducible] St Ops Go.Own.Fin Ok OkM
theorem maximize_ok(T T' :Tv)(gi:Nat)(s:Int)(n:Nat)(hrun:RunOk gi T' s n T)(hgi:gi<T.rows.length):OkM prog 93 [.own 0, .ct (intC gi)] (tabB T) [0] (fun _:Unit=>True) (fun _=> .ct (intC s)) (fun _=>tabB T'):=by
 refine OkM.enter func93 J _ ntmps93 J (tab_fx T) ?_
 intro S w ρ0 hbor
 have hfix:∀p∈(lentM prog 22 S w (tabB T) [0] ρ0).fix,(bget [] p.1).isSome=true \/p.1∈ [0]:=fun p hp=>by
  obtain ⟨i,hi,rfl⟩:=List.mem_map.1 hp;exact .inr hi
 refine Qj 6 J ?_
 refine QY (α:=Nat × Tv) (fun x=>RunOk gi T' s x.1 x.2/\ gi<x.2.rows.length)
  (fun _=>[(0, .own 0),(1, .ct (intC gi))]) (fun x=>tabB x.2) (fun x=>x.1) (n,T) ⟨hrun,hgi⟩ (by exact Qx J) ?_
 rintro ⟨k,T1⟩ ⟨hr,hg1⟩
 dsimp only at hr hg1 ⊢;have G:=hr.gd;have b1:=entS_bd (T1.rows.getD gi []) T1.col T1.col.length;refine Qj 5 J (X3 [] (gT J) (entering_ok T1 G.fit gi hg1) J J J hbor J J hfix (fun _ _=> ?_));have hr' :=hr;generalize he:entS (T1.rows.getD gi []) T1.col T1.col.length=e at*;refine Qq 10 J ?_;refine Qy J (fun h=> ?_) (fun h=> ?_)
 · cases k with
   |zero=>
    obtain ⟨-,rfl,h3⟩:=hr;rw [he] at h3
    have hs:s= -1:=by omega
    subst hs;refine Qj 6 J ?_;refine Yn () [_] rfl (Q4 J Q3) J (fun _=>rfl) trivial
   |succ k=>exfalso;have:=hr.2.1;omega
 · obtain ⟨m,rfl⟩:∃m:Nat,e=m:=⟨e.toNat,by omega⟩;have b2:=levS_bd T1 m T1.bas.length;refine Qj 6 J (X3 [] (gT J) (leaving_ok T1 G.fit G.short m (by omega)) J J J hbor J J hfix (fun _ _=> ?_));generalize hl:levS T1 m T1.bas.length=l at*;refine Qq 10 J ?_;refine Qy J (fun h2=> ?_) (fun h2=> ?_)
   · cases k with
     |zero=>
      obtain ⟨-,rfl,h3⟩:=hr;rw [he,Int.toNat_natCast,hl] at h3
      have hs:s=m:=by omega
      subst hs;refine Qj 7 J ?_;refine Yn () [_] rfl (Q4 J Q3) J (fun _=>rfl) trivial
     |succ k=>exfalso;have:=hr.2.2.1;rw [he,Int.toNat_natCast,hl] at this;omega
   · obtain ⟨q,rfl⟩:∃q:Nat,l=q:=⟨l.toNat,by omega⟩
     cases k with
     |zero=>exfalso;have h3:=hr.2.2;rw [he,Int.toNat_natCast,hl] at h3;omega
     |succ k=>
      have h3:=hr.2.2.2;rw [he,Int.toNat_natCast,hl,Int.toNat_natCast] at h3;refine Qj 6 J (X3 [] (gT J) (pivot_ok T1 G.fit G.short G.den G.dens q m (by omega) (by omega)) J J J hbor J J hfix (fun _ _=> ?_));refine Qq 2 J ?_;refine Qk (k,pvt T1 q m) (by dsimp only;omega) ⟨h3,by rw [Xf];exact hg1⟩ (by exact Qx J)
end Go.Proofs.YtfimckpnnbibcaaGreat
namespace Go.Own
section
variable {P : Program} {n : Nat} {S : BSet} {w0 : World} {B0 : BL} {fx : List Nat} {ρ0 : Nat → Value} {α : Type} {J : α → Prop} {R : α → Sl} {B1 : α → BL} {L : AL} {B : BL}
theorem Is.postMS{a:Act}{ρ:Nat ->Value}{w:World}{v:Value}(hI:Is (lentM P n S w0 B0 fx ρ0) L B a ρ w)(q:α)(hB:∀i e,bget (B1 q) i=some e ->bget B i=some e)(hfx1:∀i∈fx,isBx (bget (B1 q) i)=true)(hJ:J q)(hv:(R q).p (Sof (lentM P n S w0 B0 fx ρ0) B ρ) ρ w v):Own.postM S w0 ρ0 B0 fx J R B1 (.returned v) w:=by
 have hk:Kp (Sof (lentM P n S w0 B0 fx ρ0) B ρ) (Sn S (B1 q) ρ) w w:=⟨Nat.le_refl _,fun k _ h=>⟨⟨h.1,fun i e hi=>h.2 i e (hB i e hi)⟩,rfl⟩⟩;refine ⟨v,q,ρ,rfl,hJ,Sl.mono hk hv,⟨fun i e hi=>Ent.keep hk (fun _ _ _=>rfl) (hI.ent i e (hB i e hi)).1,fun i j e e' hi hj=>hI.apart i j e e' (hB i e hi) (hB j e' hj)⟩,fun i hi=>⟨hfx1 i hi,?_⟩,fun i e hi gb hgb=>(hI.ent i e (hB i e hi)).2 gb hgb,hI.frame⟩;exact (hI.fixd (i,ρ0 i) (List.mem_map.2 ⟨i,hi,rfl⟩)).2
theorem Fin.retMSG{fn:Func}{cs:List CT}{rv:List ResultVar}(q:α)(hfn:fn.results=rv.toArray)(hr:AllRes (lentM P n S w0 B0 fx ρ0) L B rv cs)(hR:R q= .ct (retC cs))(hB:∀i e,bget (B1 q) i=some e ->bget B i=some e)(hfx1:∀i∈fx,isBx (bget (B1 q) i)=true)(hJ:J q):
  ∀a ρ w,Is (lentM P n S w0 B0 fx ρ0) L B a ρ w ->a.defers=[]/\ ∃v,(results fn a.tmps).run P w= .ok v w/\ Own.postM S w0 ρ0 B0 fx J R B1 (.returned v) w:=fun a ρ w hI=>by
 obtain ⟨v,h1,h2⟩:=results_run hfn hr hI
 exact ⟨hI.defers,v,h1,hI.postMS q hB hfx1 hJ (by rw [hR];exact h2)⟩
theorem YW{fn:Func}{cs:List CT}(q:α)(rv:List ResultVar)(hfn:fn.results=rv.toArray)(hr:AllRes (lentM P n S w0 B0 fx ρ0) L B rv cs)(hR:R q= .ct (retC cs))(hB:∀i e,bget (B1 q) i=some e ->bget B i=some e)(hfx1:∀i∈fx,isBx (bget (B1 q) i)=true)(hJ:J q):
  Fin (lentM P n S w0 B0 fx ρ0) L B (fun a w=>bodyPost P fn (Own.postM S w0 ρ0 B0 fx J R B1) .ret a w):=Fin.retMSG q hfn hr hR hB hfx1 hJ
end
end Go.Own
namespace Go.Proofs.YtfimckpnnbibcaaGreat
open Go.Own Go.Limbs Go.Proofs.Tryz
theorem tab_sub{E:BL}(hE:beside E=true){T:Tv}:∀i e,bget (tabB T) i=some e ->bget (E++tabB T) i=some e:=fun i e h=>by
 rw [tab_swap hE,Xg,h];rfl
theorem tab_del{T:Tv}{k:Nat}{e5:Ent}(h1:4<=k)(h2:k<10):∀i e,bget (tabB T) i=some e ->bget (bdel ((k,e5)::tabB T) k) i=some e:=fun i e h=>by
 have hik:i≠k:=fun he=>by subst he;rw [tab_none h1 h2] at h;cases h
 rw [XU _ hik,QX _ _ (Ne.symm hik)];exact h
attribute [local irreducible] St Ops Go.Own.Fin Ok OkM
def shq (a D : Int) : Rat := mkRat a D.natAbs
theorem share_ok(T:Tv)(a:Int)(ha:(limbs a.natAbs).length<=200)(hD:0<T.den)(hDs:(limbs T.den.natAbs).length<=200):OkM prog 96 [.own 0, .ct (whC a)] (tabB T) [0] (fun _:Unit=>True) (fun _=> .ct (ratC (shq a T.den))) (fun _=>tabB T):=by
 have hq:ratC (shq a T.den)=fracC (redF (decide (a<0)) a.natAbs T.den.natAbs):=by
  rw [redF_q _ _ _ (by omega),sg_natAbs];rfl
 rw [hq]
 refine OkM.enter func96 J _ ntmps96 J (tab_fx T) ?_
 intro S w ρ0 hbor;simp only [tabB];have hr:=Reduce_ok ⟨decide (a<0),a.natAbs,T.den.natAbs⟩ (by show 0<T.den.natAbs;omega) (by show (limbs a.natAbs).length<=256;omega) (by show (limbs T.den.natAbs).length<=256;omega);refine Qj 2 J (Ops.boxN 4 J J J J J (by exact Zo 10 _ _ 4 (by decide)) J ?_);refine Xh 5 J J zvFrac J (by exact Zo 10 _ _ 5 (by decide)) J ?_;refine Qq 3 J (XY 13 0x806d4c0b4a44292321080706050200 J ?_);refine Qq 9 J (Qv (gT J) (Clone_ok _ (by omega)) J ?_);refine Qv (gT J) (Clone_ok _ (by omega)) J ?_;refine Qq 1 J (Qv (gT J) hr J ?_);generalize redF (decide (a<0)) a.natAbs T.den.natAbs=rr at*;refine Qq 4 J ?_;refine YW () [_] rfl (Qi (n:=3) J J lFrac J Q3) J (tab_sub (E:=[(5,_),(4,_)]) J) (tab_fx T) trivial
def frO : Option Rat → List CT
  | none => [boolC false, .ex (.slice none 0 0), .ex (.slice none 0 0)]
  | some q => frCs (ofQ q)
theorem frO_len(o:Option Rat):(frO o).length=3:=by cases o <;>rfl
def frR (l : List (Option Rat)) : List CT := (l.map frO).flatten
theorem Xn(l:List (Option Rat)):(frR l).length=l.length*3:=by
 unfold frR;rw [Xe (k:=3) (by intro e he;obtain ⟨o,_,rfl⟩:=List.mem_map.1 he;exact frO_len o)];simp
theorem frR_put{l:List (Option Rat)}{j:Nat}(q:Rat)(h:j<l.length):(frR l).take (j*3)++frCs (ofQ q)++(frR l).drop (j*3+3)=frR (l.set j (some q)):=by
 induction l generalizing j with
 |nil=>simp at h
 |cons o l ih=>
  have e:∀(o:Option Rat) (l:List (Option Rat)),frR (o::l)=frO o++frR l:=fun _ _=>rfl
  have h3:=frO_len o
  have t1:∀m,(frO o++frR l).take (3+m)=frO o++(frR l).take m:=fun m=>by rw [List.take_append,h3,List.take_of_length_le (by omega),show 3+m - 3=m by omega]
  have t2:∀m,(frO o++frR l).drop (3+m)=(frR l).drop m:=fun m=>by rw [List.drop_append,h3,List.drop_of_length_le (by omega),show 3+m - 3=m by omega];rfl
  cases j with
  |zero=>
   have:=t2 0;rw [List.set_cons_zero,e,e,show 0*3+3=3+0 by omega,this];rfl
  |succ j=>
   have:=ih (j:=j) (by simpa using h);rw [List.set_cons_succ,e,e,<- this,show (j+1)*3=3+j*3 by omega,show 3+j*3+3=3+(j*3+3) by omega,t1,t2];simp
theorem frR_made(n:Nat):zinit (.agg #[.bool false, .slice none 0 0, .slice none 0 0]) n=frR (List.replicate n none):=by
 unfold zinit frR;rw [List.map_replicate];rfl
theorem frR_frozen(e:Nat)(qs:List Rat):(Ent.row e 3 (frR (qs.map some))).frozen (.fr (sliceT 3 ((qs.map ofQ).map frCs))):=
 ⟨(qs.map ofQ).map frCs,by unfold frR;simp only [List.map_map];rfl,by intro x hx;obtain ⟨f,_,rfl⟩:=List.mem_map.1 hx;rfl,by decide,rfl⟩
section
variable {X : Ctx} {L : AL} {B : BL} {ops : Array Oper} {K : Act → World → Prop} {r : Pl} {k : Kd}
  {x y z : Operand} {d : Nat} {t t2 t' : TypeId} {pos : String} {af : Array Edge} {g : Option (Nat × Bool)}
theorem stFr{i j el:Nat}{l:List (Option Rat)}{q:Rat}(hg:gd ops L g=some true)(hx:ev L x=some (.loc i (j*3)))(hi:bget B i=some (.row el 3 (frR l)))(hy:ev L y=some (.ct (ratC q)))(hj:j<l.length)(hsz:(X.P.info? t).map (·.size)=some 3)
  (h:Ops X ops r L (bset B i (.row el 3 (frR (l.set j (some q))))) K):Ops X ops (.cons ⟨none, .store t x y,t',pos,af,g⟩ .any r) L B K:=
 Ops.stNA hg hx hi hy rfl hsz (by show j*3+3<=(frR l).length;rw [Xn];omega) (by
  have:(Ent.row el 3 (frR l)).putc (j*3) (frCs (ofQ q))= .row el 3 (frR (l.set j (some q))):=by rw [<- frR_put q hj];rfl
  rw [this];exact h)
end
theorem Ys(D:Int):shq 0 D=0:=by unfold shq;exact Rat.zero_mkRat _
def ptS (T : Tv) (n : Nat) : Nat → List Rat
  | 0 => List.replicate n 0
  | i + 1 => if T.bas.getD i 0 < n then (ptS T n i).set (T.bas.getD i 0).toNat (shq (T.at i T.col.length) T.den) else ptS T n i
theorem ptS_len(T:Tv)(n:Nat):∀i,(ptS T n i).length=n
 |0=>by simp [ptS]
 |i+1=>by simp only [ptS];split <;>simp [ptS_len T n i]
theorem rep_set(n j:Nat)(h:j<n):(List.replicate j (some (0:Rat))++List.replicate (n - j) none).set j (some 0)=List.replicate (j+1) (some 0)++List.replicate (n - (j+1)) none:=by
 rw [List.set_append_right _ _ (by simp),List.length_replicate,Nat.sub_self,show n - j=(n - (j+1))+1 by omega,List.replicate_succ,List.set_cons_zero,List.replicate_succ'];simp
theorem point_ok(T:Tv)(G:Gd T)(n:Nat)(hn:n<=100)(hb:∀i,0<=T.bas.getD i 0):OkM prog 94 [.own 0, .ct (intC n)] (tabB T) [0] (fun _:Unit=>True) (fun _=> .ct (fracsC ((ptS T n T.bas.length).map ofQ))) (fun _=>tabB T):=by
 have hfew:=G.fit.few;have hthin:=G.fit.thin;have hhl:=G.fit.hl;have hbas:=G.fit.bas;have hDs:=G.dens;have hof:=of_ok 0 (by decide) (by decide);have hsh0:=share_ok T 0 (by rw [show (0:Int).natAbs=0 from rfl,limbs_zero];decide) G.den (by omega);rw [Ys] at hsh0
 refine OkM.enter func94 J _ ntmps94 J (tab_fx T) ?_
 intro S w ρ0 hbor
 have hfix:∀e:Ent,∀p∈(lentM prog 57 S w (tabB T) [0] ρ0).fix,(bget [(5,e)] p.1).isSome=true \/p.1∈ [0]:=fun e p hp=>by
  obtain ⟨i,hi,rfl⟩:=List.mem_map.1 hp;exact .inr hi
 refine Qj 8 J (ZV 5 n J J J J sFracs (by omega) (by omega) J (by exact Zo 10 _ _ 5 (by decide)) J ?_);rw [frR_made];refine Qq 7 J (Yy n J J J (by decide) (by rw [Xn];simp) sFracs.und J ?_);refine Qq 4 J ?_
 refine QY (α:=Nat) (fun j=>j<=n)
  (fun j=>[(0, .own 0),(1, .ct (intC n)),(5, .own 5),(12, .ct (intC n)),(13, .ct (intC j))])
  (fun j=>(5, .row 54 3 (frR (List.replicate j (some 0)++List.replicate (n - j) none)))::tabB T) (fun j=>n - j) 0 (Nat.zero_le _) (by exact Qx J) ?_
 intro j hj
 (try dsimp only at hj ⊢)
 refine Qj 6 J ?_;refine Qy J (fun h=> ?_) (fun h=> ?_)
 · have kj:(j:Int).toNat*3=j*3:=by omega
   refine Qj 14 J (Qv (gT J) hof J (X3 [(5,_)] (gT J) hsh0 J J J hbor J J (hfix _) (fun _ _=> ?_)));refine Qf n J J J (by rw [Xn];simp;omega) J sFracs (by omega) (by omega) J ?_
   rw [kj]
   refine stFr J J J J (by simp;omega) Zs ?_
   rw [rep_set n j (by omega)];refine QZ 7 J (by omega) ?_;refine Qk (j+1) (by omega) (by omega) (by exact Qx J)
 have hjn:j=n:=by omega
 subst hjn;rw [Nat.sub_self,List.replicate_zero,List.append_nil,show List.replicate j (some (0:Rat))=(ptS T j 0).map some by simp [ptS]];refine Qj 9 J (ZU 2 T.bas.length J J J (by decide) (by simp) sInts.und J ?_);refine Qq 4 J ?_
 refine QY (α:=Nat) (fun i=>i<=T.bas.length)
  (fun i=>[(0, .own 0),(1, .ct (intC j)),(5, .own 5),(26, .ct (.ex T.hB)),(27, .ct (intC T.bas.length)),(28, .ct (intC i))])
  (fun i=>(5, .row 54 3 (frR ((ptS T j i).map some)))::tabB T) (fun i=>T.bas.length - i) 0 (Nat.zero_le _) (by exact Qx J) ?_
 intro i hi
 (try dsimp only at hi ⊢)
 have hpl:=ptS_len T j i
 have es:ptS T j (i+1)=if T.bas.getD i 0<j then (ptS T j i).set (T.bas.getD i 0).toNat (shq (T.at i T.col.length) T.den) else ptS T j i:=rfl
 have hbi:=hb i;generalize hcur:ptS T j i=cur at*;simp only [tabB];refine Qj 6 J ?_;refine Qy J (fun h=> ?_) (fun h=> ?_)
 · have hi2:i<T.rows.length:=by omega
   have hrow:=G.fit.row i hi2
   have ki:(i:Int).toNat*1=i:=by omega
   have kl:((T.col.length:Int)).toNat*2=T.col.length*2:=by omega
   have sa:=G.short i T.col.length;have hsh:=share_ok T (T.at i T.col.length) (by omega) G.den (by omega);refine Qj 7 J (Q5 2 T.bas.length J J J (by simp) J sInts (by omega) (by omega) J ?_);rw [ki]
   refine QK J J J J (XK (by omega)) lInt J ?_
   generalize T.bas.getD i 0=v at*;refine Qq 11 J ?_;refine Qy J (fun h2=> ?_) (fun h2=> ?_)
   · rw [if_pos h2] at es;have kv:v.toNat*3=v.toNat*3:=rfl;refine Yx mixed [17,19] 0xa0a080731271300f0e2d2908260c0b0a07050403020100 J (by kernel_rfl) (fun K hK=> ?_);refine Xw 11 J (X7 (Q5 1 T.rows.length J J J (by simp [hhl]) J sMat (by omega) (by omega) J ?_));rw [ki];refine Qz (Xt (QK J J J J (Yw (by omega)) lWhs J ?_));refine Qz (Xw 1 J (X7 (ZU 3 T.col.length J J J (by decide) (by simp) sInts.und J ?_)));refine Qz (X7 (Q5 (i+10) (T.col.length+1) J J (Qs (by omega) hi2) (by rw [XV,hrow]) J sWhs (by omega) (by omega) J ?_));rw [kl];refine Qz (Xt (ldWh J J J (Qs (by omega) hi2) J (by omega) lWh J ?_));refine Qz (Q0 ?_ Qu);refine X3 [(5,_)] (gT J) hsh J J J hbor J J (hfix _) (fun _ _=> ?_);refine Qz (X7 (Qf j J J J (by rw [Xn];simp;omega) J sFracs (by omega) (by omega) J ?_));refine Qz (Q0 ?_ Qu);refine stFr J J J J (by simp;omega) Zs ?_
     rw [show (cur.map some).set v.toNat (some (shq (T.at i T.col.length) T.den))=(ptS T j (i+1)).map some by rw [es,List.map_set]];refine Qz (Qb (hK _ _ ?_));clear hK K;refine Fin.Ro 6 J (by omega) ?_;refine Qk (i+1) (by omega) (by omega) (by exact Qx J)
   · rw [if_neg h2] at es;refine Xz 7 J (by omega) ?_;refine Qk (i+1) (by omega) (by omega) (by exact QW (by rw [es]) ⟨rfl,rfl,rfl,rfl,rfl,by simp only [Int.natCast_add];rfl,trivial⟩)
 · have hi' :i=T.bas.length:=by omega
   subst hi';refine X6 5 _ J (frR_frozen _ _) hbor (Qj 9 J ?_);refine YW () [_] rfl (Q4 J Q3) (by rw [hcur];rfl) (tab_del (by decide) (by decide)) (tab_fx T) trivial
end Go.Proofs.YtfimckpnnbibcaaGreat
namespace Go.Proofs.YtfimckpnnbibcaaGreat
open Go.Limbs Go.Own Go.Proofs.Tryz
attribute [local irreducible] Go.Own.Fin Ok OkM Ops St
def duS (T : Tv) (n m gi : Nat) : Nat → List Rat
  | 0 => List.replicate m 0
  | j + 1 => if (n : Int) ≤ T.col.getD j 0 ∧ T.col.getD j 0 < n + m then (duS T n m gi j).set (T.col.getD j 0 - n).toNat (shq (T.at gi j) T.den) else duS T n m gi j
theorem duS_len(T:Tv)(n m gi:Nat):∀i,(duS T n m gi i).length=m
 |0=>by simp [duS]
 |i+1=>by simp only [duS];split <;>simp [duS_len T n m gi i]
theorem dual_ok(T:Tv)(G:Gd T)(n m gi:Nat)(hn:n<=100)(hm:m<=100)(hgi:gi<T.rows.length)(hb:∀i,0<=T.col.getD i 0):OkM prog 92 [.own 0, .ct (intC n), .ct (intC m), .ct (intC gi)] (tabB T) [0] (fun _:Unit=>True) (fun _=> .ct (fracsC ((duS T n m gi T.col.length).map ofQ))) (fun _=>tabB T):=by
 have hfew:=G.fit.few;have hthin:=G.fit.thin;have hhl:=G.fit.hl;have hbas:=G.fit.bas;have hDs:=G.dens;have hrow:=G.fit.row gi hgi
 have kg:(gi:Int).toNat*1=gi:=by omega
 have hof:=of_ok 0 (by decide) (by decide);have hsh0:=share_ok T 0 (by rw [show (0:Int).natAbs=0 from rfl,limbs_zero];decide) G.den (by omega);rw [Ys] at hsh0
 refine OkM.enter func92 J _ ntmps92 J (tab_fx T) ?_
 intro S w ρ0 hbor
 have hfix:∀e:Ent,∀p∈(lentM prog 66 S w (tabB T) [0] ρ0).fix,(bget [(5,e)] p.1).isSome=true \/p.1∈ [0]:=fun e p hp=>by
  obtain ⟨i,hi,rfl⟩:=List.mem_map.1 hp;exact .inr hi
 refine Qj 8 J (ZV 5 m J J J J sFracs (by omega) (by omega) J (by exact Zo 10 _ _ 5 (by decide)) J ?_);rw [frR_made];refine Qq 7 J (Yy m J J J (by decide) (by rw [Xn];simp) sFracs.und J ?_);refine Qq 4 J ?_
 refine QY (α:=Nat) (fun j=>j<=m)
  (fun j=>[(0, .own 0),(1, .ct (intC n)),(2, .ct (intC m)),(3, .ct (intC gi)),(9, .own 5),(16, .ct (intC m)),(17, .ct (intC j))])
  (fun j=>(5, .row 54 3 (frR (List.replicate j (some 0)++List.replicate (m - j) none)))::tabB T) (fun j=>m - j) 0 (Nat.zero_le _) (by exact Qx J) ?_
 intro j hj
 (try dsimp only at hj ⊢)
 refine Qj 6 J ?_;refine Qy J (fun h=> ?_) (fun h=> ?_)
 · have kj:(j:Int).toNat*3=j*3:=by omega
   refine Qj 14 J (Qv (gT J) hof J (X3 [(5,_)] (gT J) hsh0 J J J hbor J J (hfix _) (fun _ _=> ?_)));refine Qf m J J J (by rw [Xn];simp;omega) J sFracs (by omega) (by omega) J ?_
   rw [kj]
   refine stFr J J J J (by simp;omega) Zs ?_
   rw [rep_set m j (by omega)];refine QZ 7 J (by omega) ?_;refine Qk (j+1) (by omega) (by omega) (by exact Qx J)
 have hjn:j=m:=by omega
 subst hjn;rw [Nat.sub_self,List.replicate_zero,List.append_nil,show List.replicate j (some (0:Rat))=(duS T n j gi 0).map some by simp [duS]];refine Qj 9 J (ZU 3 T.col.length J J J (by decide) (by simp) sInts.und J ?_);refine Qq 4 J ?_
 refine QY (α:=Nat) (fun i=>i<=T.col.length)
  (fun i=>[(0, .own 0),(1, .ct (intC n)),(2, .ct (intC j)),(3, .ct (intC gi)),(9, .own 5),(30, .ct (.ex T.hC)),(31, .ct (intC T.col.length)),(32, .ct (intC i))])
  (fun i=>(5, .row 54 3 (frR ((duS T n j gi i).map some)))::tabB T) (fun i=>T.col.length - i) 0 (Nat.zero_le _) (by exact Qx J) ?_
 intro i hi
 (try dsimp only at hi ⊢)
 have hpl:=duS_len T n j gi i
 have es:duS T n j gi (i+1)=if (n:Int)<=T.col.getD i 0/\ T.col.getD i 0<n+j then (duS T n j gi i).set (T.col.getD i 0 - n).toNat (shq (T.at gi i) T.den) else duS T n j gi i:=rfl
 have hbi:=hb i;generalize hcur:duS T n j gi i=cur at*;simp only [tabB];refine Qj 6 J ?_;refine Qy J (fun h=> ?_) (fun h=> ?_)
 · have ki:(i:Int).toNat*1=i:=by omega
   have ki2:(i:Int).toNat*2=i*2:=by omega
   have sa:=G.short gi i;have hsh:=share_ok T (T.at gi i) (by omega) G.den (by omega);refine Qj 7 J (Q5 3 T.col.length J J J (by simp) J sInts (by omega) (by omega) J ?_);rw [ki]
   refine QK J J J J (XK (by omega)) lInt J ?_
   generalize T.col.getD i 0=v at*;refine Qq 10 J ?_
   have stay:¬((n:Int)<=v/\ v<n+j) ->duS T n j gi (i+1)=cur:=fun h=>by rw [es,if_neg h]
   refine QQ 40 J (fun h2=> ?_) (fun h2=> ?_)
   · refine QZ 8 J (by omega) ?_;refine Qy J (fun h3=> ?_) (fun h3=> ?_)
     · rw [if_pos ⟨h2,h3⟩] at es;refine Xz 11 J (by omega) ?_;refine Q5 1 T.rows.length J J J (by simp [hhl]) J sMat (by omega) (by omega) J ?_;rw [kg]
       refine QK J J J J (Yw (by omega)) lWhs J ?_;refine Qq 1 J (Q5 (gi+10) (T.col.length+1) J J (Qs (by omega) hgi) (by rw [XV,hrow]) J sWhs (by omega) (by omega) J ?_);rw [ki2];refine ldWh J J J (Qs (by omega) hgi) J (by omega) lWh J ?_;refine X3 [(5,_)] (gT J) hsh J J J hbor J J (hfix _) (fun _ _=> ?_);refine Qf j J J J (by rw [Xn];simp;omega) J sFracs (by omega) (by omega) J ?_;refine stFr J J J J (by simp;omega) Zs ?_
       rw [show (cur.map some).set (v - n).toNat (some (shq (T.at gi i) T.den))=(duS T n j gi (i+1)).map some by rw [es,List.map_set]];refine QZ 7 J (by omega) ?_;refine Qk (i+1) (by omega) (by omega) (by exact Qx J)
     · refine Xz 7 J (by omega) ?_;refine Qk (i+1) (by omega) (by omega) (by exact QW (by rw [stay (fun h=>h3 h.2)]) ⟨rfl,rfl,rfl,rfl,rfl,rfl,rfl,by simp only [Int.natCast_add];rfl,trivial⟩)
   · refine QZ 16 J (by omega) ?_;refine Qk (i+1) (by omega) (by omega) (by exact QW (by rw [stay (fun h=>h2 h.1)]) ⟨rfl,rfl,rfl,rfl,rfl,rfl,rfl,by simp only [Int.natCast_add];rfl,trivial⟩)
 · have hi' :i=T.col.length:=by omega
   subst hi';refine X6 5 _ J (frR_frozen _ _) hbor (Qj 9 J ?_);refine YW () [_] rfl (Q4 J Q3) (by rw [hcur];rfl) (tab_del (by decide) (by decide)) (tab_fx T) trivial
def raS (T : Tv) (n s : Nat) : Nat → List Rat
  | 0 => if T.col.getD s 0 < n then (List.replicate n 0).set (T.col.getD s 0).toNat (shq T.den T.den) else List.replicate n 0
  | i + 1 => if T.bas.getD i 0 < n then (raS T n s i).set (T.bas.getD i 0).toNat (shq (-(T.at i s)) T.den) else raS T n s i
theorem raS_len(T:Tv)(n s:Nat):∀i,(raS T n s i).length=n
 |0=>by simp only [raS];split <;>simp
 |i+1=>by simp only [raS];split <;>simp [raS_len T n s i]
theorem ray_ok(T:Tv)(G:Gd T)(n s:Nat)(hn:n<=100)(hs:s<T.col.length)(hb:∀i,0<=T.bas.getD i 0)(hc:∀i,0<=T.col.getD i 0):OkM prog 95 [.own 0, .ct (intC n), .ct (intC s)] (tabB T) [0] (fun _:Unit=>True) (fun _=> .ct (fracsC ((raS T n s T.bas.length).map ofQ))) (fun _=>tabB T):=by
 have hfew:=G.fit.few;have hthin:=G.fit.thin;have hhl:=G.fit.hl;have hbas:=G.fit.bas;have hDs:=G.dens
 have ks:(s:Int).toNat*1=s:=by omega
 have ks2:(s:Int).toNat*2=s*2:=by omega
 have hof:=of_ok 0 (by decide) (by decide);have hsh0:=share_ok T 0 (by rw [show (0:Int).natAbs=0 from rfl,limbs_zero];decide) G.den (by omega);rw [Ys] at hsh0;have hsh1:=share_ok T T.den (by omega) G.den (by omega);have hcs:=hc s
 refine OkM.enter func95 J _ ntmps95 J (tab_fx T) ?_
 intro S w ρ0 hbor
 have hfix:∀e:Ent,∀p∈(lentM prog 76 S w (tabB T) [0] ρ0).fix,(bget [(5,e)] p.1).isSome=true \/p.1∈ [0]:=fun e p hp=>by
  obtain ⟨i,hi,rfl⟩:=List.mem_map.1 hp;exact .inr hi
 refine Qj 8 J (ZV 5 n J J J J sFracs (by omega) (by omega) J (by exact Zo 10 _ _ 5 (by decide)) J ?_);rw [frR_made];refine Qq 7 J (Yy n J J J (by decide) (by rw [Xn];simp) sFracs.und J ?_);refine Qq 4 J ?_
 refine QY (α:=Nat) (fun j=>j<=n)
  (fun j=>[(0, .own 0),(1, .ct (intC n)),(2, .ct (intC s)),(7, .own 5),(15, .ct (intC n)),(16, .ct (intC j))])
  (fun j=>(5, .row 54 3 (frR (List.replicate j (some 0)++List.replicate (n - j) none)))::tabB T) (fun j=>n - j) 0 (Nat.zero_le _) (by exact Qx J) ?_
 intro j hj
 (try dsimp only at hj ⊢)
 refine Qj 6 J ?_;refine Qy J (fun h=> ?_) (fun h=> ?_)
 · have kj:(j:Int).toNat*3=j*3:=by omega
   refine Qj 14 J (Qv (gT J) hof J (X3 [(5,_)] (gT J) hsh0 J J J hbor J J (hfix _) (fun _ _=> ?_)));refine Qf n J J J (by rw [Xn];simp;omega) J sFracs (by omega) (by omega) J ?_
   rw [kj]
   refine stFr J J J J (by simp;omega) Zs ?_
   rw [rep_set n j (by omega)];refine QZ 7 J (by omega) ?_;refine Qk (j+1) (by omega) (by omega) (by exact Qx J)
 have hjn:j=n:=by omega
 subst hjn;rw [Nat.sub_self,List.replicate_zero,List.append_nil];refine Qj 10 J (Q5 3 T.col.length J J J (by simp) J sInts (by omega) (by omega) J ?_);rw [ks]
 refine QK J J J J (XK (by omega)) lInt J ?_
 have r0:raS T j s 0=if T.col.getD s 0<j then (List.replicate j 0).set (T.col.getD s 0).toNat (shq T.den T.den) else List.replicate j 0:=rfl
 generalize T.col.getD s 0=cs at*;refine Qq 10 J ?_;refine X4 (α:=Unit) (fun _=>True) (fun _=>[(0, .own 0),(1, .ct (intC j)),(2, .ct (intC s)),(7, .own 5)]) (fun _=>(5, .row 54 3 (frR ((raS T j s 0).map some)))::tabB T) (fun _ _=> ?_) (fun KK hN=> ?_)
 · clear r0;refine Qj 7 J (ZU 2 T.bas.length J J J (by decide) (by simp) sInts.und J ?_);refine Qq 4 J ?_
   refine QY (α:=Nat) (fun i=>i<=T.bas.length)
    (fun i=>[(0, .own 0),(1, .ct (intC j)),(2, .ct (intC s)),(7, .own 5),(48, .ct (.ex T.hB)),(49, .ct (intC T.bas.length)),(50, .ct (intC i))])
    (fun i=>(5, .row 54 3 (frR ((raS T j s i).map some)))::tabB T) (fun i=>T.bas.length - i) 0 (Nat.zero_le _) (by exact Qx J) ?_
   intro i hi
   (try dsimp only at hi ⊢)
   have hpl:=raS_len T j s i
   have es:raS T j s (i+1)=if T.bas.getD i 0<j then (raS T j s i).set (T.bas.getD i 0).toNat (shq (-(T.at i s)) T.den) else raS T j s i:=rfl
   have hbi:=hb i;generalize hcur:raS T j s i=cur at*;simp only [tabB];refine Qj 6 J ?_;refine Qy J (fun h=> ?_) (fun h=> ?_)
   · have hi2:i<T.rows.length:=by omega
     have hrow:=G.fit.row i hi2
     have ki:(i:Int).toNat*1=i:=by omega
     have sa:=G.short i s;have hsh:=share_ok T (-(T.at i s)) (Nat.le_trans (neg_short sa) (by decide)) G.den (by omega);refine Qj 7 J (Q5 2 T.bas.length J J J (by simp) J sInts (by omega) (by omega) J ?_);rw [ki]
     refine QK J J J J (XK (by omega)) lInt J ?_
     generalize T.bas.getD i 0=v at*;refine Qq 11 J ?_;refine Qy J (fun h2=> ?_) (fun h2=> ?_)
     · rw [if_pos h2] at es;refine Qj 9 J (Q5 1 T.rows.length J J J (by simp [hhl]) J sMat (by omega) (by omega) J ?_);rw [ki]
       refine QK J J J J (Yw (by omega)) lWhs J ?_;refine Qq 1 J (Q5 (i+10) (T.col.length+1) J J (Qs (by omega) hi2) (by rw [XV,hrow]) J sWhs (by omega) (by omega) J ?_);rw [ks2];refine ldWh J J J (Qs (by omega) hi2) J (by omega) lWh J ?_;refine Qv (gT J) (minus_ok (T.at i s)) J (X3 [(5,_)] (gT J) hsh J J J hbor J J (hfix _) (fun _ _=> ?_));refine Qf j J J J (by rw [Xn];simp;omega) J sFracs (by omega) (by omega) J ?_;refine stFr J J J J (by simp;omega) Zs ?_
       rw [show (cur.map some).set v.toNat (some (shq (-(T.at i s)) T.den))=(raS T j s (i+1)).map some by rw [es,List.map_set]];refine QZ 7 J (by omega) ?_;refine Qk (i+1) (by omega) (by omega) (by exact Qx J)
     · rw [if_neg h2] at es;refine Xz 7 J (by omega) ?_;refine Qk (i+1) (by omega) (by omega) (by exact QW (by rw [es]) ⟨rfl,rfl,rfl,rfl,rfl,rfl,by simp only [Int.natCast_add];rfl,trivial⟩)
   · have hi' :i=T.bas.length:=by omega
     subst hi';refine X6 5 _ J (frR_frozen _ _) hbor (Qj 9 J ?_);refine YW () [_] rfl (Q4 J Q3) (by rw [hcur];rfl) (tab_del (by decide) (by decide)) (tab_fx T) trivial
 · refine Qy J (fun h2=> ?_) (fun h2=> ?_)
   · rw [if_pos h2] at r0;refine Qj 7 J (Z5 (n:=2) J J J J (Nat.le_of_ble_eq_true J) lWh J (X3 [(5,_)] (gT J) hsh1 J J J hbor J J (hfix _) (fun _ _=> ?_)));refine Qf j J J J (by rw [Xn];simp) J sFracs (by omega) (by omega) J ?_;refine stFr J J J J (by simp;omega) Zs ?_
     rw [show (List.replicate j (some (0:Rat))).set cs.toNat (some (shq T.den T.den))=(raS T j s 0).map some by rw [r0,List.map_set,List.map_replicate]]
     refine Qz ?_
     exact Q7 hN () trivial (by exact Qx J)
   · rw [if_neg h2] at r0
     refine Qj 1 J ?_
     exact Q7 hN () trivial (by exact QW (by rw [r0,List.map_replicate]) ⟨rfl,rfl,rfl,rfl,trivial⟩)
end Go.Proofs.YtfimckpnnbibcaaGreat
namespace Go.Own
variable {X : Ctx} {L : AL} {B : BL} {ops : Array Oper} {K : Act → World → Prop} {r : Pl} {k : Kd}
  {x y z : Operand} {d : Nat} {t t2 t' : TypeId} {pos : String} {af : Array Edge} {g : Option (Nat × Bool)}
theorem Qe{l:Pl}(dd i m:Nat){el n:Nat}{cs:List CT}(hd:look L dd=some (.own i))(hi:bget B i=some (.row el n cs))(hl:cs.length=m*n)(hm:0<m)(hp:0<n)
  (h:∀gb c,m<=c ->c<=maxLen ->Ops X ops l ((dd, .ct (.ex (.slice (some ⟨gb,0,none⟩) m c)))::L) (bset B i (.rowx (.slice (some ⟨gb,0,none⟩) m c) el n cs)) K):Ops X ops l L B K:=Fin.nameS dd i m hd hi hl hm hp h
theorem Ops.weakX{l:Pl}(i:Nat){v:Value}{el n:Nat}{cs:List CT}(ds:List CT)(hi:bget B i=some (.rowx v el n cs))(hw:argW cs ds)(h:Ops X ops l L (bset B i (.rowx v el n ds)) K):Ops X ops l L B K:=fun a ρ w hI=>by
 refine h a ρ w (hI.retype hi ?_ rfl)
 obtain ⟨h1,n',vs,h2,h3⟩:=(hI.ent i _ hi).1
 exact ⟨h1,n',vs,h2,hw.cells h3⟩
theorem Jv{L' :AL}{B' :BL}(hB:∀j,bget B' j=bget B j)(h:subL L L'):Entails X L B L' B' :=fun _ ρ _ hI=>⟨ρ,(hI.subL h).bext hB⟩
theorem Zh(B:BL)(i:Nat)(e e' :Ent):bset ((i,e)::B) i e' =(i,e')::B:=by simp [bset]
end Go.Own
namespace Go.Proofs.YtfimckpnnbibcaaGreat
open Go.Own Go.Limbs Go.Proofs.Tryz
def rng (a n : Nat) : List Int := (List.range n).map (fun i => ((a + i : Nat) : Int))
theorem Qn(a n:Nat):(rng a n).length=n:=by simp [rng]
theorem Xm(a n:Nat):rng a (n+1)=rng a n++ [((a+n:Nat):Int)]:=by simp [rng,List.range_succ]
theorem Xd(xs ys:List Int):ints (xs++ys)=ints xs++ints ys:=by simp [ints]
def lnOf (n : Nat) (cs : List Int) (b : Int) : List Int := (List.range n).map (fun j => cs.getD j 0) ++ [b]
def lnP (n : Nat) (cs : List Int) (q : Nat) : List Int := (List.range (n + 1)).map (fun j => if j < q then cs.getD j 0 else 0)
theorem lnP_len(n:Nat)(cs:List Int)(q:Nat):(lnP n cs q).length=n+1:=by simp [lnP]
theorem lnP_zero(n:Nat)(cs:List Int):lnP n cs 0=List.replicate (n+1) 0:=by
 unfold lnP;rw [show (fun j=>if j<0 then cs.getD j 0 else 0)=fun _=>(0:Int) by funext j;rw [if_neg (by omega)],List.map_const',List.length_range]
theorem lnP_set(n:Nat)(cs:List Int)(q:Nat)(h:q<n+1):(lnP n cs q).set q (cs.getD q 0)=lnP n cs (q+1):=by
 unfold lnP;refine Yh _ _ _ q _ h (fun j hj=> ?_);by_cases e:j=q
 · subst e;rw [if_pos rfl,if_pos (by omega)]
 · rw [if_neg e];by_cases h2:j<q
   · rw [if_pos h2,if_pos (by omega)]
   · rw [if_neg h2,if_neg (by omega)]
theorem lnP_done(n:Nat)(cs:List Int)(b:Int)(h:cs.length<=n):(lnP n cs cs.length).set n b=lnOf n cs b:=by
 unfold lnP lnOf
 have e:(List.range (n+1)).map (fun j=>if j<cs.length then cs.getD j 0 else 0)=(List.range n).map (fun j=>cs.getD j 0)++ [cs.getD n 0]:=by
  rw [List.range_succ,List.map_append]
  congr 1
  · apply List.map_congr_left
    intro j _;split
    · rfl
    · rw [getD_ge (by omega)]
  · rw [List.map_singleton,if_neg (by omega),getD_ge h]
 rw [e,List.set_append_right _ _ (by simp)];simp
theorem whs_zero(m:Nat):argW (zinit (.agg #[.bool false, .slice none 0 0]) m) (whs (List.replicate m 0)):=by
 induction m with
 |zero=>exact trivial
 |succ m ih=>
  have e1:zinit (.agg #[.bool false, .slice none 0 0]) (m+1)=CT.ex (.bool false)::CT.ex (.slice none 0 0)::zinit (.agg #[.bool false, .slice none 0 0]) m:=by unfold zinit;rw [List.replicate_succ];rfl
  have e2:whs (List.replicate (m+1) 0)=boolC false::intsC []::whs (List.replicate m 0):=by
   rw [List.replicate_succ];show boolC (decide ((0:Int)<0))::natC 0::whs (List.replicate m 0)=_;rw [natC_zero];rfl
  rw [e1,e2];exact ⟨Zx,Zp,ih⟩
theorem lines_snoc:∀(k:Nat) (hl:List Value) (zs:List (List Int)) (h:Value) (y:List Int),hl.length=zs.length ->∀j,bget (linesB k (hl++ [h]) (zs++ [y])) j=bget ((hl.length+k, .rowx h 178 2 (whs y))::linesB k hl zs) j
 |k,[],[],h,y,_,j=>by simp [linesB]
 |k,a::hl,z::zs,h,y,he,j=>by
  have ih:=lines_snoc (k+1) hl zs h y (by simpa using he) j
  have e:linesB k ((a::hl)++ [h]) ((z::zs)++ [y])=(k, .rowx a 178 2 (whs z))::linesB (k+1) (hl++ [h]) (zs++ [y]):=rfl
  rw [e]
  by_cases h1:k=j
  · subst h1
    rw [QU,QX _ _ (by simp),linesB,QU]
  · rw [QX _ _ h1,ih]
    by_cases h2:hl.length+(k+1)=j
    · subst h2
      rw [QU,show (a::hl).length+k=hl.length+(k+1) by simp;omega,QU]
    · rw [QX _ _ h2,QX _ _ (by simp;omega),linesB,QX _ _ h1]
 |_,[],_::_,_,_,he,_=>by simp at he
 |_,_::_,[],_,_,he,_=>by simp at he
end Go.Proofs.YtfimckpnnbibcaaGreat
namespace Go.Proofs.YtfimckpnnbibcaaGreat
open Go.Limbs Go.Own Go.Proofs.Tryz
attribute [local irreducible] Go.Own.Fin Ok OkM Ops St
def IsH (m : Nat) (v : Value) : Prop := (m = 0 ∧ v = .slice none 0 0) ∨ (0 < m ∧ ∃ gb c, m ≤ c ∧ c ≤ maxLen ∧ v = .slice (some ⟨gb, 0, none⟩) m c)
theorem IsH.one{m:Nat}{v:Value}(h:IsH m v):v.oneCell' =true:=by
 rcases h with ⟨_,rfl⟩|⟨_,gb,c,_,_,rfl⟩ <;>rfl
def Okc (xs : List Int) : Prop := ∀ x ∈ xs, -1152921504606846976 ≤ x ∧ x ≤ 1152921504606846976
theorem Okc.get{xs:List Int}(h:Okc xs)(i:Nat): -1152921504606846976<=xs.getD i 0/\ xs.getD i 0<=1152921504606846976:=by
 rw [List.getD_eq_getElem?_getD]
 cases e:xs[i]? with
 |none=>decide
 |some x=>exact h x (List.mem_of_getElem? e)
structure OkRw (n : Nat) (r : Rw) : Prop where
  len : r.cs.length ≤ n
  cs : Okc r.cs
  b1 : -1152921504606846976 ≤ r.b
  b2 : r.b ≤ 1152921504606846976
structure Bgn (n : Nat) (rs : List Rw) (c : List Int) (T : Tv) : Prop where
  rows : T.rows = (rs.map fun r => lnOf n r.cs r.b) ++ [lnOf n (c.map fun x => -x) 0]
  bas : T.bas = rng n rs.length
  col : T.col = rng 0 n
  den : T.den = 1
  hl : T.hl.length = rs.length + 1
  lines : ∀ h ∈ T.hl, ∃ gb, h = .slice (some ⟨gb, 0, none⟩) (n + 1) (n + 1)
  hR : IsH (rs.length + 1) T.hR
  hB : IsH rs.length T.hB
  hC : IsH n T.hC
abbrev tb0 (hR hB hC : Value) : List CT := [.ex hR, .ex hB, .ex hC, boolC (decide ((1 : Int) < 0)), natC (1 : Int).natAbs]
theorem start_B{e0 e1 e2 e3:Ent}:∀j,bget ((0,e0)::(1,e1)::(2,e2)::(3,e3)::linesB 10 [] ([].map fun r:Rw=>lnOf 0 r.cs r.b)) j=bget [(3,e3),(2,e2),(1,e1),(0,e0)] j:=fun j=>by
 match j with
 |0=>rfl
 |1=>rfl
 |2=>rfl
 |3=>rfl
 |j+4=>rfl
theorem step_B{e4 e0 e1 e2 e3:Ent}{hl:List Value}{zs:List (List Int)}{h:Value}{y:List Int}(he:hl.length=zs.length):∀j,bget ((0,e0)::(1,e1)::(2,e2)::(3,e3)::linesB 10 (hl++ [h]) (zs++ [y])) j=bget (bdel ((hl.length+10, .rowx h 178 2 (whs y))::(4,e4)::(0,e0)::(1,e1)::(2,e2)::(3,e3)::linesB 10 hl zs) 4) j:=fun j=>by
 by_cases h4:j=4
 · subst h4;rw [Za];exact Zo 10 _ _ 4 (by decide)
 · rw [XU _ h4]
   match j,h4 with
   |0,_=>exact (QX ((4,e4)::(0,e0)::(1,e1)::(2,e2)::(3,e3)::linesB 10 hl zs) (.rowx h 178 2 (whs y)) (show hl.length+10≠0 by omega)).symm
   |1,_=>exact (QX ((4,e4)::(0,e0)::(1,e1)::(2,e2)::(3,e3)::linesB 10 hl zs) (.rowx h 178 2 (whs y)) (show hl.length+10≠1 by omega)).symm
   |2,_=>exact (QX ((4,e4)::(0,e0)::(1,e1)::(2,e2)::(3,e3)::linesB 10 hl zs) (.rowx h 178 2 (whs y)) (show hl.length+10≠2 by omega)).symm
   |3,_=>exact (QX ((4,e4)::(0,e0)::(1,e1)::(2,e2)::(3,e3)::linesB 10 hl zs) (.rowx h 178 2 (whs y)) (show hl.length+10≠3 by omega)).symm
   |j+5,_=>
    show bget (linesB 10 (hl++ [h]) (zs++ [y])) (j+5)=_
    rw [lines_snoc 10 hl zs h y he]
    by_cases h5:hl.length+10=j+5
    · rw [h5,QU,QU]
    · rw [QX _ _ h5,QX _ _ h5];rfl
theorem step_B2{e0 e1 e2 e3:Ent}{hl:List Value}{zs:List (List Int)}{h:Value}{y:List Int}(he:hl.length=zs.length):∀j,bget ((0,e0)::(1,e1)::(2,e2)::(3,e3)::linesB 10 (hl++ [h]) (zs++ [y])) j=bget ((hl.length+10, .rowx h 178 2 (whs y))::(0,e0)::(1,e1)::(2,e2)::(3,e3)::linesB 10 hl zs) j:=fun j=>by
 match j with
 |0=>exact (QX ((0,e0)::(1,e1)::(2,e2)::(3,e3)::linesB 10 hl zs) (.rowx h 178 2 (whs y)) (show hl.length+10≠0 by omega)).symm
 |1=>exact (QX ((0,e0)::(1,e1)::(2,e2)::(3,e3)::linesB 10 hl zs) (.rowx h 178 2 (whs y)) (show hl.length+10≠1 by omega)).symm
 |2=>exact (QX ((0,e0)::(1,e1)::(2,e2)::(3,e3)::linesB 10 hl zs) (.rowx h 178 2 (whs y)) (show hl.length+10≠2 by omega)).symm
 |3=>exact (QX ((0,e0)::(1,e1)::(2,e2)::(3,e3)::linesB 10 hl zs) (.rowx h 178 2 (whs y)) (show hl.length+10≠3 by omega)).symm
 |j+4=>
  show bget (linesB 10 (hl++ [h]) (zs++ [y])) (j+4)=_
  rw [lines_snoc 10 hl zs h y he]
  by_cases h5:hl.length+10=j+4
  · rw [h5,QU,QU]
  · rw [QX _ _ h5,QX _ _ h5];rfl
theorem lnP_all(n:Nat)(cs:List Int)(h:cs.length<=n):lnP n cs cs.length=lnOf n cs 0:=by
 have:=lnP_done n cs 0 h;rw [<- this];unfold lnP
 symm
 refine Yh _ _ _ n _ (by omega) (fun j hj=> ?_);by_cases e:j=n
 · subst e;rw [if_pos rfl,if_neg (by omega)]
 · rw [if_neg e]
theorem begin_ok(n:Nat)(rs:List Rw)(c:List Int)(hn:n<=50)(hm:rs.length<=90)(hr:∀r∈rs,OkRw n r)(hc:Okc c)(hcl:c.length<=n):OkM prog 90 [.ct (intC n), .ct (rowsC rs), .ct (intsC c)] [] [] (Bgn n rs c) (fun _=> .own 0) (fun T=>tabB T):=by
 have hof1:=of_ok 1 (by decide) (by decide)
 refine OkM.enter func90 J _ ntmps90 J (fun i hi=>by cases hi) ?_
 intro S w ρ0 hbor;refine Qj 7 J (Qv (gT J) hof1 J (Qq 13 J (St.nilX 1 179 1 J J (St.nilX 2 3 1 J J (St.nilX 3 3 1 J J ?_)))))
 refine QY (α:=Nat × Value) (fun x=>x.1<=n/\ IsH x.1 x.2)
  (fun x=>[(0, .ct (intC n)),(1, .ct (rowsC rs)),(2, .ct (intsC c)),(7, .own 0),(20, .ct (intC n)),(21, .ct (intC x.1))])
  (fun x=>[(3, .rowx x.2 3 1 (ints (rng 0 x.1))),(2, .rowx (.slice none 0 0) 3 1 []),(1, .rowx (.slice none 0 0) 179 1 []),(0, .box 182 (tb0 (.slice none 0 0) (.slice none 0 0) x.2))])
  (fun x=>n - x.1) (0, .slice none 0 0) ⟨Nat.zero_le _, .inl ⟨rfl,rfl⟩⟩ (by exact Qx J) ?_
 rintro ⟨j,hC⟩ ⟨hj,hH⟩
 dsimp only at hj hH ⊢;have hone:=hH.one;refine Qj 6 J ?_;refine Qy J (fun h=> ?_) (fun h=> ?_)
 · refine Qj 17 J (Qo J J sInts J J J (Qp 28 3 J J (QJ j (ints (rng 0 (j+1))) J J J J sInts (by simp [Qn]) J (by omega) (by omega) (by rw [Xm,Xd,Nat.zero_add] <;>rfl) J ?_)));refine Qe 31 3 (j+1) J J (by simp [Qn]) (by omega) (by decide) (fun gb cc hc1 hc2=> ?_);refine QZ 10 J (by omega) ?_;refine Qk (j+1,_) (by dsimp only;omega) ⟨by dsimp only;omega, .inr ⟨by dsimp only;omega,gb,cc,hc1,hc2,rfl⟩⟩ (by exact Qx J)
 have hjn:j=n:=by omega
 subst hjn;refine Qj 6 J (QV sRows.und J (Qq 4 J ?_))
 refine QY (α:=Value × Value × List Value) (fun x=>x.2.2.length<=rs.length/\ IsH x.2.2.length x.1/\ IsH x.2.2.length x.2.1/\ ∀h∈x.2.2,∃gb,h= .slice (some ⟨gb,0,none⟩) (j+1) (j+1))
  (fun x=>[(0, .ct (intC j)),(1, .ct (rowsC rs)),(2, .ct (intsC c)),(7, .own 0),(35, .ct (rowsC rs)),(36, .ct (intC rs.length)),(37, .ct (intC x.2.2.length))])
  (fun x=>(0, .box 182 (tb0 x.1 x.2.1 hC))::(1, .rowx x.1 179 1 (x.2.2.map CT.ex))::(2, .rowx x.2.1 3 1 (ints (rng j x.2.2.length)))::(3, .rowx hC 3 1 (ints (rng 0 j)))::linesB 10 x.2.2 ((rs.take x.2.2.length).map fun r=>lnOf j r.cs r.b))
  (fun x=>rs.length - x.2.2.length) (.slice none 0 0, .slice none 0 0,[]) ⟨Nat.zero_le _, .inl ⟨rfl,rfl⟩, .inl ⟨rfl,rfl⟩,fun h hh=>by cases hh⟩ (by exact Jv start_B ⟨rfl,rfl,rfl,rfl,rfl,rfl,rfl,trivial⟩) ?_
 rintro ⟨hR,hB,hl⟩ ⟨hi,hHR,hHB,hlines⟩
 dsimp only at hi hHR hHB hlines ⊢;have oneR:=hHR.one;have oneB:=hHB.one
 have hrl:((rs.take hl.length).map fun r=>lnOf j r.cs r.b).length=hl.length:=by simp;omega
 refine Qj 6 J ?_;refine Qy J (fun h=> ?_) (fun h=> ?_)
 · have hi2:hl.length<rs.length:=by omega
   have hrw:OkRw j (rs.getD hl.length rw0):=hr _ (by rw [List.getD_eq_getElem?_getD,List.getElem?_eq_getElem hi2];exact List.getElem_mem hi2)
   have etake:(rs.take (hl.length+1)).map (fun r=>lnOf j r.cs r.b)=(rs.take hl.length).map (fun r=>lnOf j r.cs r.b)++ [lnOf j (rs.getD hl.length rw0).cs (rs.getD hl.length rw0).b]:=by
    rw [List.take_succ_eq_append_getElem hi2,List.map_append,List.map_singleton,List.getD_eq_getElem?_getD,List.getElem?_eq_getElem hi2];rfl
   have kl:((hl.length:Int)).toNat=hl.length:=Int.toNat_natCast _;refine Qj 7 J (Q8 rw0 sRows J (by omega) ?_);rw [kl];generalize rs.getD hl.length rw0=rw at*;generalize (rs.take hl.length).map (fun r=>lnOf j r.cs r.b)=zs at*;have hlen:=hrw.len;have hcs:=hrw.cs;have hb1:=hrw.b1;have hb2:=hrw.b2;refine Qq 1 J (Xh 4 J J zvRowW J (by exact Zo 10 _ _ 4 (by decide)) J ?_);refine QZ 8 J (by omega) ?_;refine Ops.makeX (hl.length+10) (j+1) J J J (by omega) sWhs (by omega) (by omega) J (by exact lines_ge (.inl (Nat.le_refl _))) J (fun gb=> ?_);refine Ops.weakX (hl.length+10) (whs (List.replicate (j+1) 0)) (QU ..) (whs_zero (j+1)) ?_
   rw [Zh];refine Qq 8 J (QV sInts.und J (Qq 4 J ?_))
   refine QY (α:=Nat) (fun q=>q<=rw.cs.length)
    (fun q=>[(0, .ct (intC j)),(1, .ct (rowsC rs)),(2, .ct (intsC c)),(7, .own 0),(9, .ct (intC hl.length)),(10, .own 4),(11, .ct (.ex (.slice (some ⟨gb,0,none⟩) (j+1) (j+1)))),(35, .ct (rowsC rs)),(36, .ct (intC rs.length)),(37, .ct (intC hl.length)),(46, .ct (intsC rw.cs)),(47, .ct (intC rw.cs.length)),(48, .ct (intC q))])
    (fun q=>(hl.length+10, .rowx (.slice (some ⟨gb,0,none⟩) (j+1) (j+1)) 178 2 (whs (lnP j rw.cs q)))::(4, .box 136 (rwCs rw))::(0, .box 182 (tb0 hR hB hC))::(1, .rowx hR 179 1 (hl.map CT.ex))::(2, .rowx hB 3 1 (ints (rng j hl.length)))::(3, .rowx hC 3 1 (ints (rng 0 j)))::linesB 10 hl zs)
    (fun q=>rw.cs.length - q) 0 (Nat.zero_le _) (by exact QW (by rw [lnP_zero] <;>rfl) ⟨rfl,rfl,rfl,rfl,rfl,rfl,rfl,rfl,rfl,rfl,rfl,rfl,rfl,trivial⟩) ?_
   intro q hq
   (try dsimp only at hq ⊢)
   have hpl:=lnP_len j rw.cs q;refine Qj 6 J ?_;refine Qy J (fun h2=> ?_) (fun h2=> ?_)
   · have kq:(q:Int).toNat=q:=Int.toNat_natCast _
     have kq2:(q:Int).toNat*2=q*2:=by omega
     have bq:=hcs.get q;have eset:=lnP_set j rw.cs q (by omega);refine Qj 7 J (Q8 0 sInts J (by omega) ?_);refine Qq 9 J ?_;rw [kq]
     refine Qv (gT J) (of_ok _ (by omega) (by omega)) J ?_;refine Q5 (hl.length+10) (j+1) J J (QU ..) (by rw [XV,hpl]) J sWhs (by omega) (by omega) J ?_
     rw [kq2]
     refine stWhX J J (QU ..) J (by omega) szWh ?_
     rw [Zh,eset];refine QZ 7 J (by omega) ?_;refine Qk (q+1) (by omega) (by omega) (by exact Qx J)
   have hq' :q=rw.cs.length:=by omega
   subst hq'
   have kj2:(j:Int).toNat*2=j*2:=by omega
   have edone:=lnP_done j rw.cs rw.b hlen;generalize lnP j rw.cs rw.cs.length=cur at*;refine Qj 8 J (Qv (gT J) (of_ok _ (by omega) (by omega)) J ?_);refine Q5 (hl.length+10) (j+1) J J (QU ..) (by rw [XV,hpl]) J sWhs (by omega) (by omega) J ?_
   rw [kj2]
   refine stWhX J J (QU ..) J (by omega) szWh ?_
   rw [Zh,edone];generalize lnOf j rw.cs rw.b=line at*;refine Qq 2 J ?_;refine Yx mixed [8,17,20,23] 0xa0a0a0a0a0a0a0807716157413127168474ca0a0a0a0a08077161574131271684ca0a0a0a080771615741312714c684750a0a0a0a0a0a08077161574131271684750a0a0a0a0a080771615741312716850a0a0a0a080771615741312715068474ca0a0a0a0a0a08077161574131271684ca0a0a0a080771615741312714c6850a0a0a0a0a080771615741312716850a0a0a0a0807716157413127150684ca0a0a0a0a080771615741312714c50a0a0a0a08077161574131271504c6847250f0e0d0b0a09060403020100 J (by kernel_rfl) (fun K hK=> ?_)
   refine (fun (cont:∀x:Nat × Nat × Nat × Nat,(hl.length+1<=x.2.1/\ x.2.1<=maxLen/\ hl.length+1<=x.2.2.2/\ x.2.2.2<=maxLen) ->Go.Own.Fin _ [(0, .ct (intC j)),(1, .ct (rowsC rs)),(2, .ct (intsC c)),(7, .own 0),(35, .ct (rowsC rs)),(36, .ct (intC rs.length)),(37, .ct (intC hl.length))]
    ((hl.length+10, .rowx (.slice (some ⟨gb,0,none⟩) (j+1) (j+1)) 178 2 (whs line))::(4, .box 136 (rwCs rw))::(0, .box 182 (tb0 (.slice (some ⟨x.1,0,none⟩) (hl.length+1) x.2.1) (.slice (some ⟨x.2.2.1,0,none⟩) (hl.length+1) x.2.2.2) hC))::(1, .rowx (.slice (some ⟨x.1,0,none⟩) (hl.length+1) x.2.1) 179 1 ((hl++ [Value.slice (some ⟨gb,0,none⟩) (j+1) (j+1)]).map CT.ex))::(2, .rowx (.slice (some ⟨x.2.2.1,0,none⟩) (hl.length+1) x.2.2.2) 3 1 (ints (rng j (hl.length+1))))::(3, .rowx hC 3 1 (ints (rng 0 j)))::linesB 10 hl zs) K)=> ?_) (fun x hx=>hK _ _ ?_)
   rotate_left
   · obtain ⟨g1,c1,g2,c2⟩:=x;obtain ⟨e1,e2,e3,e4⟩:=hx;clear hK K;refine Fin.Ro 6 J (by omega) ?_;dsimp only at e1 e2 e3 e4
     have hll:(hl++ [Value.slice (some ⟨gb,0,none⟩) (j+1) (j+1)]).length=hl.length+1:=by simp
     refine Qk (Value.slice (some ⟨g1,0,none⟩) (hl.length+1) c1,Value.slice (some ⟨g2,0,none⟩) (hl.length+1) c2,hl++ [Value.slice (some ⟨gb,0,none⟩) (j+1) (j+1)]) (by dsimp only;omega) ⟨by dsimp only;omega,by dsimp only;rw [hll];exact .inr ⟨by omega,g1,c1,e1,e2,rfl⟩,by dsimp only;rw [hll];exact .inr ⟨by omega,g2,c2,e3,e4,rfl⟩,fun h hh=> ?_⟩ (by exact Q1 4 (Jv (by
      dsimp only
      rw [hll,etake];exact step_B (by omega)) ⟨rfl,rfl,rfl,rfl,rfl,rfl,by rw [hll];simp only [Int.natCast_add];rfl,trivial⟩))
     rcases List.mem_append.1 hh with hh|hh
     · exact hlines h hh
     · exact ⟨gb,by simpa using hh⟩
   clear hK;refine Fin.qRo 13 J (by omega) ?_;refine Ql ?_ ?_
   · refine Qo J J sMat J J J (Qz (Q0 ?_ ?_))
     · refine Qp 70 1 J J (QJ hl.length ((hl++ [Value.slice (some ⟨gb,0,none⟩) (j+1) (j+1)]).map CT.ex) J J J J sMat (by simp) J (by omega) (by omega) (by simp) J ?_);refine Qe 73 1 (hl.length+1) J J (by simp) (by omega) (by decide) (fun g1 c1 e1 e2=> ?_);refine Qz (Ql ?_ ?_)
       · refine Q2 2 J (Ql ?_ ?_)
         · refine Qo J J sInts J J J (Qz (Q0 ?_ Qu));refine Qp 77 2 J J (QJ hl.length (ints (rng j (hl.length+1))) J J J J sInts (by simp [Qn]) J (by omega) (by omega) (by rw [Xm,Xd,Int.natCast_add] <;>rfl) J ?_);refine Qe 82 2 (hl.length+1) J J (by simp [Qn]) (by omega) (by decide) (fun g2 c2 e3 e4=> ?_);refine Qz (Xw 2 J ?_);refine Q0 (Qa J J J J J zMat (Nat.le_of_ble_eq_true J) (Qz ?_)) Qu;refine Xw 2 J ?_;refine Q0 (Qa J J J J J Y5 (Nat.le_of_ble_eq_true J) (Qz ?_)) Qu;exact Qb (Q7 cont (g1,c1,g2,c2) ⟨e1,e2,e3,e4⟩ (by exact Qx J))
         exact Qu
       refine Ql ?_ ?_
       · refine Qo J J sInts J J J (Qz (Ql ?_ ?_))
         · refine Q2 2 J (Q0 ?_ Qu);refine Qp 77 2 J J (QJ hl.length (ints (rng j (hl.length+1))) J J J J sInts (by simp [Qn]) J (by omega) (by omega) (by rw [Xm,Xd,Int.natCast_add] <;>rfl) J ?_);refine Qe 82 2 (hl.length+1) J J (by simp [Qn]) (by omega) (by decide) (fun g2 c2 e3 e4=> ?_);refine Qz (Xw 2 J ?_);refine Q0 (Qa J J J J J zMat (Nat.le_of_ble_eq_true J) (Qz ?_)) Qu;refine Xw 2 J ?_;refine Q0 (Qa J J J J J Y5 (Nat.le_of_ble_eq_true J) (Qz ?_)) Qu;exact Qb (Q7 cont (g1,c1,g2,c2) ⟨e1,e2,e3,e4⟩ (by exact Qx J))
         exact Qu
       exact Qu
     refine Ql ?_ ?_
     · refine Q2 2 J (Q0 ?_ ?_)
       · refine Qp 70 1 J J (QJ hl.length ((hl++ [Value.slice (some ⟨gb,0,none⟩) (j+1) (j+1)]).map CT.ex) J J J J sMat (by simp) J (by omega) (by omega) (by simp) J ?_);refine Qe 73 1 (hl.length+1) J J (by simp) (by omega) (by decide) (fun g1 c1 e1 e2=> ?_);refine Qz (Ql ?_ ?_)
         · refine Qo J J sInts J J J (Qz (Q0 ?_ Qu));refine Qp 77 2 J J (QJ hl.length (ints (rng j (hl.length+1))) J J J J sInts (by simp [Qn]) J (by omega) (by omega) (by rw [Xm,Xd,Int.natCast_add] <;>rfl) J ?_);refine Qe 82 2 (hl.length+1) J J (by simp [Qn]) (by omega) (by decide) (fun g2 c2 e3 e4=> ?_);refine Qz (Xw 2 J ?_);refine Q0 (Qa J J J J J zMat (Nat.le_of_ble_eq_true J) (Qz ?_)) Qu;refine Xw 2 J ?_;refine Q0 (Qa J J J J J Y5 (Nat.le_of_ble_eq_true J) (Qz ?_)) Qu;exact Qb (Q7 cont (g1,c1,g2,c2) ⟨e1,e2,e3,e4⟩ (by exact Qx J))
         exact Qu
       refine Ql ?_ ?_
       · refine Qo J J sInts J J J (Qz (Q0 ?_ ?_))
         · refine Qp 70 1 J J (QJ hl.length ((hl++ [Value.slice (some ⟨gb,0,none⟩) (j+1) (j+1)]).map CT.ex) J J J J sMat (by simp) J (by omega) (by omega) (by simp) J ?_);refine Qe 73 1 (hl.length+1) J J (by simp) (by omega) (by decide) (fun g1 c1 e1 e2=> ?_);refine Qz (Q0 ?_ Qu);refine Qp 77 2 J J (QJ hl.length (ints (rng j (hl.length+1))) J J J J sInts (by simp [Qn]) J (by omega) (by omega) (by rw [Xm,Xd,Int.natCast_add] <;>rfl) J ?_);refine Qe 82 2 (hl.length+1) J J (by simp [Qn]) (by omega) (by decide) (fun g2 c2 e3 e4=> ?_);refine Qz (Xw 2 J ?_);refine Q0 (Qa J J J J J zMat (Nat.le_of_ble_eq_true J) (Qz ?_)) Qu;refine Xw 2 J ?_;refine Q0 (Qa J J J J J Y5 (Nat.le_of_ble_eq_true J) (Qz ?_)) Qu;exact Qb (Q7 cont (g1,c1,g2,c2) ⟨e1,e2,e3,e4⟩ (by exact Qx J))
         exact Qu
       exact Qu
     refine Ql ?_ ?_
     · refine Qo J J sInts J J J (Qz (Q0 ?_ ?_))
       · refine Qp 70 1 J J (QJ hl.length ((hl++ [Value.slice (some ⟨gb,0,none⟩) (j+1) (j+1)]).map CT.ex) J J J J sMat (by simp) J (by omega) (by omega) (by simp) J ?_);refine Qe 73 1 (hl.length+1) J J (by simp) (by omega) (by decide) (fun g1 c1 e1 e2=> ?_);refine Qz (Ql ?_ ?_)
         · refine Q2 2 J (Q0 ?_ Qu);refine Qp 77 2 J J (QJ hl.length (ints (rng j (hl.length+1))) J J J J sInts (by simp [Qn]) J (by omega) (by omega) (by rw [Xm,Xd,Int.natCast_add] <;>rfl) J ?_);refine Qe 82 2 (hl.length+1) J J (by simp [Qn]) (by omega) (by decide) (fun g2 c2 e3 e4=> ?_);refine Qz (Xw 2 J ?_);refine Q0 (Qa J J J J J zMat (Nat.le_of_ble_eq_true J) (Qz ?_)) Qu;refine Xw 2 J ?_;refine Q0 (Qa J J J J J Y5 (Nat.le_of_ble_eq_true J) (Qz ?_)) Qu;exact Qb (Q7 cont (g1,c1,g2,c2) ⟨e1,e2,e3,e4⟩ (by exact Qx J))
         exact Qu
       refine Ql ?_ ?_
       · refine Q2 2 J (Q0 ?_ ?_)
         · refine Qp 70 1 J J (QJ hl.length ((hl++ [Value.slice (some ⟨gb,0,none⟩) (j+1) (j+1)]).map CT.ex) J J J J sMat (by simp) J (by omega) (by omega) (by simp) J ?_);refine Qe 73 1 (hl.length+1) J J (by simp) (by omega) (by decide) (fun g1 c1 e1 e2=> ?_);refine Qz (Q0 ?_ Qu);refine Qp 77 2 J J (QJ hl.length (ints (rng j (hl.length+1))) J J J J sInts (by simp [Qn]) J (by omega) (by omega) (by rw [Xm,Xd,Int.natCast_add] <;>rfl) J ?_);refine Qe 82 2 (hl.length+1) J J (by simp [Qn]) (by omega) (by decide) (fun g2 c2 e3 e4=> ?_);refine Qz (Xw 2 J ?_);refine Q0 (Qa J J J J J zMat (Nat.le_of_ble_eq_true J) (Qz ?_)) Qu;refine Xw 2 J ?_;refine Q0 (Qa J J J J J Y5 (Nat.le_of_ble_eq_true J) (Qz ?_)) Qu;exact Qb (Q7 cont (g1,c1,g2,c2) ⟨e1,e2,e3,e4⟩ (by exact Qx J))
         exact Qu
       exact Qu
     exact Qu
   refine Ql ?_ ?_
   · refine Q2 2 J (Ql ?_ ?_)
     · refine Qo J J sMat J J J (Qz (Q0 ?_ ?_))
       · refine Qp 70 1 J J (QJ hl.length ((hl++ [Value.slice (some ⟨gb,0,none⟩) (j+1) (j+1)]).map CT.ex) J J J J sMat (by simp) J (by omega) (by omega) (by simp) J ?_);refine Qe 73 1 (hl.length+1) J J (by simp) (by omega) (by decide) (fun g1 c1 e1 e2=> ?_);refine Qz (Ql ?_ ?_)
         · refine Qo J J sInts J J J (Qz (Q0 ?_ Qu));refine Qp 77 2 J J (QJ hl.length (ints (rng j (hl.length+1))) J J J J sInts (by simp [Qn]) J (by omega) (by omega) (by rw [Xm,Xd,Int.natCast_add] <;>rfl) J ?_);refine Qe 82 2 (hl.length+1) J J (by simp [Qn]) (by omega) (by decide) (fun g2 c2 e3 e4=> ?_);refine Qz (Xw 2 J ?_);refine Q0 (Qa J J J J J zMat (Nat.le_of_ble_eq_true J) (Qz ?_)) Qu;refine Xw 2 J ?_;refine Q0 (Qa J J J J J Y5 (Nat.le_of_ble_eq_true J) (Qz ?_)) Qu;exact Qb (Q7 cont (g1,c1,g2,c2) ⟨e1,e2,e3,e4⟩ (by exact Qx J))
         exact Qu
       refine Ql ?_ ?_
       · refine Qo J J sInts J J J (Qz (Q0 ?_ ?_))
         · refine Qp 70 1 J J (QJ hl.length ((hl++ [Value.slice (some ⟨gb,0,none⟩) (j+1) (j+1)]).map CT.ex) J J J J sMat (by simp) J (by omega) (by omega) (by simp) J ?_);refine Qe 73 1 (hl.length+1) J J (by simp) (by omega) (by decide) (fun g1 c1 e1 e2=> ?_);refine Qz (Q0 ?_ Qu);refine Qp 77 2 J J (QJ hl.length (ints (rng j (hl.length+1))) J J J J sInts (by simp [Qn]) J (by omega) (by omega) (by rw [Xm,Xd,Int.natCast_add] <;>rfl) J ?_);refine Qe 82 2 (hl.length+1) J J (by simp [Qn]) (by omega) (by decide) (fun g2 c2 e3 e4=> ?_);refine Qz (Xw 2 J ?_);refine Q0 (Qa J J J J J zMat (Nat.le_of_ble_eq_true J) (Qz ?_)) Qu;refine Xw 2 J ?_;refine Q0 (Qa J J J J J Y5 (Nat.le_of_ble_eq_true J) (Qz ?_)) Qu;exact Qb (Q7 cont (g1,c1,g2,c2) ⟨e1,e2,e3,e4⟩ (by exact Qx J))
         exact Qu
       exact Qu
     refine Ql ?_ ?_
     · refine Qo J J sInts J J J (Qz (Ql ?_ ?_))
       · refine Qo J J sMat J J J (Qz (Q0 ?_ ?_))
         · refine Qp 70 1 J J (QJ hl.length ((hl++ [Value.slice (some ⟨gb,0,none⟩) (j+1) (j+1)]).map CT.ex) J J J J sMat (by simp) J (by omega) (by omega) (by simp) J ?_);refine Qe 73 1 (hl.length+1) J J (by simp) (by omega) (by decide) (fun g1 c1 e1 e2=> ?_);refine Qz (Q0 ?_ Qu);refine Qp 77 2 J J (QJ hl.length (ints (rng j (hl.length+1))) J J J J sInts (by simp [Qn]) J (by omega) (by omega) (by rw [Xm,Xd,Int.natCast_add] <;>rfl) J ?_);refine Qe 82 2 (hl.length+1) J J (by simp [Qn]) (by omega) (by decide) (fun g2 c2 e3 e4=> ?_);refine Qz (Xw 2 J ?_);refine Q0 (Qa J J J J J zMat (Nat.le_of_ble_eq_true J) (Qz ?_)) Qu;refine Xw 2 J ?_;refine Q0 (Qa J J J J J Y5 (Nat.le_of_ble_eq_true J) (Qz ?_)) Qu;exact Qb (Q7 cont (g1,c1,g2,c2) ⟨e1,e2,e3,e4⟩ (by exact Qx J))
         exact Qu
       exact Qu
     exact Qu
   refine Ql ?_ ?_
   · refine Qo J J sInts J J J (Qz (Ql ?_ ?_))
     · refine Qo J J sMat J J J (Qz (Q0 ?_ ?_))
       · refine Qp 70 1 J J (QJ hl.length ((hl++ [Value.slice (some ⟨gb,0,none⟩) (j+1) (j+1)]).map CT.ex) J J J J sMat (by simp) J (by omega) (by omega) (by simp) J ?_);refine Qe 73 1 (hl.length+1) J J (by simp) (by omega) (by decide) (fun g1 c1 e1 e2=> ?_);refine Qz (Ql ?_ ?_)
         · refine Q2 2 J (Q0 ?_ Qu);refine Qp 77 2 J J (QJ hl.length (ints (rng j (hl.length+1))) J J J J sInts (by simp [Qn]) J (by omega) (by omega) (by rw [Xm,Xd,Int.natCast_add] <;>rfl) J ?_);refine Qe 82 2 (hl.length+1) J J (by simp [Qn]) (by omega) (by decide) (fun g2 c2 e3 e4=> ?_);refine Qz (Xw 2 J ?_);refine Q0 (Qa J J J J J zMat (Nat.le_of_ble_eq_true J) (Qz ?_)) Qu;refine Xw 2 J ?_;refine Q0 (Qa J J J J J Y5 (Nat.le_of_ble_eq_true J) (Qz ?_)) Qu;exact Qb (Q7 cont (g1,c1,g2,c2) ⟨e1,e2,e3,e4⟩ (by exact Qx J))
         exact Qu
       refine Ql ?_ ?_
       · refine Q2 2 J (Q0 ?_ ?_)
         · refine Qp 70 1 J J (QJ hl.length ((hl++ [Value.slice (some ⟨gb,0,none⟩) (j+1) (j+1)]).map CT.ex) J J J J sMat (by simp) J (by omega) (by omega) (by simp) J ?_);refine Qe 73 1 (hl.length+1) J J (by simp) (by omega) (by decide) (fun g1 c1 e1 e2=> ?_);refine Qz (Q0 ?_ Qu);refine Qp 77 2 J J (QJ hl.length (ints (rng j (hl.length+1))) J J J J sInts (by simp [Qn]) J (by omega) (by omega) (by rw [Xm,Xd,Int.natCast_add] <;>rfl) J ?_);refine Qe 82 2 (hl.length+1) J J (by simp [Qn]) (by omega) (by decide) (fun g2 c2 e3 e4=> ?_);refine Qz (Xw 2 J ?_);refine Q0 (Qa J J J J J zMat (Nat.le_of_ble_eq_true J) (Qz ?_)) Qu;refine Xw 2 J ?_;refine Q0 (Qa J J J J J Y5 (Nat.le_of_ble_eq_true J) (Qz ?_)) Qu;exact Qb (Q7 cont (g1,c1,g2,c2) ⟨e1,e2,e3,e4⟩ (by exact Qx J))
         exact Qu
       exact Qu
     refine Ql ?_ ?_
     · refine Q2 2 J (Ql ?_ ?_)
       · refine Qo J J sMat J J J (Qz (Q0 ?_ ?_))
         · refine Qp 70 1 J J (QJ hl.length ((hl++ [Value.slice (some ⟨gb,0,none⟩) (j+1) (j+1)]).map CT.ex) J J J J sMat (by simp) J (by omega) (by omega) (by simp) J ?_);refine Qe 73 1 (hl.length+1) J J (by simp) (by omega) (by decide) (fun g1 c1 e1 e2=> ?_);refine Qz (Q0 ?_ Qu);refine Qp 77 2 J J (QJ hl.length (ints (rng j (hl.length+1))) J J J J sInts (by simp [Qn]) J (by omega) (by omega) (by rw [Xm,Xd,Int.natCast_add] <;>rfl) J ?_);refine Qe 82 2 (hl.length+1) J J (by simp [Qn]) (by omega) (by decide) (fun g2 c2 e3 e4=> ?_);refine Qz (Xw 2 J ?_);refine Q0 (Qa J J J J J zMat (Nat.le_of_ble_eq_true J) (Qz ?_)) Qu;refine Xw 2 J ?_;refine Q0 (Qa J J J J J Y5 (Nat.le_of_ble_eq_true J) (Qz ?_)) Qu;exact Qb (Q7 cont (g1,c1,g2,c2) ⟨e1,e2,e3,e4⟩ (by exact Qx J))
         exact Qu
       exact Qu
     exact Qu
   exact Qu
 have hi' :hl.length=rs.length:=by omega
 rw [show rs.take hl.length=rs by rw [hi',List.take_length]] at hrl ⊢;generalize hzs:(rs.map fun r=>lnOf j r.cs r.b)=zs at*;refine Xz 6 J (by omega) ?_;refine Ops.makeX (hl.length+10) (j+1) J J J (by omega) sWhs (by omega) (by omega) J (by exact lines_ge (.inl (Nat.le_refl _))) J (fun gb=> ?_);refine Ops.weakX (hl.length+10) (whs (List.replicate (j+1) 0)) (QU ..) (whs_zero (j+1)) ?_
 rw [Zh];refine Qq 7 J (QV sInts.und J (Qq 4 J ?_))
 refine QY (α:=Nat) (fun q=>q<=c.length)
  (fun q=>[(0, .ct (intC j)),(7, .own 0),(14, .ct (.ex (.slice (some ⟨gb,0,none⟩) (j+1) (j+1)))),(91, .ct (intsC c)),(92, .ct (intC c.length)),(93, .ct (intC q))])
  (fun q=>(hl.length+10, .rowx (.slice (some ⟨gb,0,none⟩) (j+1) (j+1)) 178 2 (whs (lnP j (c.map fun x=> -x) q)))::(0, .box 182 (tb0 hR hB hC))::(1, .rowx hR 179 1 (hl.map CT.ex))::(2, .rowx hB 3 1 (ints (rng j hl.length)))::(3, .rowx hC 3 1 (ints (rng 0 j)))::linesB 10 hl zs)
  (fun q=>c.length - q) 0 (Nat.zero_le _) (by exact QW (by rw [lnP_zero]) ⟨rfl,rfl,rfl,rfl,rfl,rfl,trivial⟩) ?_
 intro q hq
 (try dsimp only at hq ⊢)
 have hpl:=lnP_len j (c.map fun x=> -x) q;refine Qj 6 J ?_;refine Qy J (fun h2=> ?_) (fun h2=> ?_)
 · have kq:(q:Int).toNat=q:=Int.toNat_natCast _
   have kq2:(q:Int).toNat*2=q*2:=by omega
   have bq:=hc.get q;have eset:=lnP_set j (c.map fun x=> -x) q (by omega)
   have eneg:(c.map fun x=> -x).getD q 0= -(c.getD q 0):=by
    have:q<c.length:=by omega
    simp [List.getD_eq_getElem?_getD,this]
   rw [eneg] at eset;generalize lnP j (c.map fun x=> -x) q=cur at*;refine Qj 7 J (Q8 0 sInts J (by omega) ?_);refine Qq 9 J ?_;rw [kq]
   refine QZ 1 J (by omega) ?_;refine Qv (gT J) (of_ok _ (by omega) (by omega)) J ?_;refine Q5 (hl.length+10) (j+1) J J (QU ..) (by rw [XV,hpl]) J sWhs (by omega) (by omega) J ?_
   rw [kq2]
   refine stWhX J J (QU ..) J (by omega) szWh ?_
   rw [Zh,eset];refine QZ 7 J (by omega) ?_;refine Qk (q+1) (by omega) (by omega) (by exact Qx J)
 have hq' :q=(c.map fun x=> -x).length:=by simp;omega
 rw [hq',lnP_all j _ (by simp;omega)];generalize hgl:lnOf j (c.map fun x=> -x) 0=gl at*;refine Qj 10 J (Qo J J sMat J J J (Qp 109 1 J J (QJ hl.length ((hl++ [Value.slice (some ⟨gb,0,none⟩) (j+1) (j+1)]).map CT.ex) J J J J sMat (by simp) J (by omega) (by omega) (by simp) J ?_)));refine Qe 112 1 (hl.length+1) J J (by simp) (by omega) (by decide) (fun g1 c1 e1 e2=> ?_);refine Qq 12 J ?_;refine Fin.retMO ⟨Value.slice (some ⟨g1,0,none⟩) (hl.length+1) c1,hB,hC,hl++ [Value.slice (some ⟨gb,0,none⟩) (j+1) (j+1)],zs++ [gl],rng j hl.length,rng 0 j,1⟩ rfl rfl rfl (step_B2 (by omega)) ⟨by rw [hzs,hgl],by rw [hi'],rfl,rfl,by simp;omega,fun h hh=> ?_,?_,by rw [<- hi'];exact hHB,hH⟩
 · rcases List.mem_append.1 hh with hh|hh
   · exact hlines h hh
   · exact ⟨gb,by simpa using hh⟩
 · rw [<- hi'];exact .inr ⟨by omega,g1,c1,e1,e2,rfl⟩
end Go.Proofs.YtfimckpnnbibcaaGreat
namespace Go.Own
section
variable {P : Program} {n : Nat} {S : BSet} {w0 : World} {B0 : BL} {fx : List Nat} {ρ0 : Nat → Value} {α : Type} {J : α → Prop} {R : α → Sl} {B1 : α → BL} {L : AL} {B : BL}
theorem Fin.retMOS{fn:Func}{s:Nat}{sl:Sl}(q:α)(hfn:fn.results= #[.tmp s])(hs:look L s=some sl)(hR:R q=sl)(hB:∀i e,bget (B1 q) i=some e ->bget B i=some e)(hfx1:∀i∈fx,isBx (bget (B1 q) i)=true)(hJ:J q):
  Fin (lentM P n S w0 B0 fx ρ0) L B (fun a w=>bodyPost P fn (Own.postM S w0 ρ0 B0 fx J R B1) .ret a w):=fun a ρ w hI=>by
 refine ⟨hI.defers,a.tmps.getD s undef,?_,hI.postMS q hB hfx1 hJ (by rw [hR];exact hI.slot s sl hs)⟩
 simp [results,hfn]
end
theorem spl_app{α:Type}{A D ds:List α}{o:Nat}(h:A.length=o):spl (A++D) o ds=A++ds++D.drop ds.length:=by
 unfold spl;rw [<- h,List.take_left,<- List.drop_drop,List.drop_left]
end Go.Own
namespace Go.Proofs.YtfimckpnnbibcaaGreat
open Go.Own Go.Limbs Go.Proofs.Tryz
attribute [local irreducible] St Ops Go.Own.Fin Ok OkM
abbrev whsC (zs : List Int) : CT := .fr (sliceT 2 (zs.map whCs))
theorem whs_app(a b:List Int):whs (a++b)=whs a++whs b:=by simp [whs]
theorem whs_take(l:List Int)(i:Nat):(whs l).take (i*2)=whs (l.take i):=by
 induction l generalizing i with
 |nil=>simp [whs]
 |cons z l ih=>
  cases i with
  |zero=>simp [whs]
  |succ i=>
   have e:whs (z::l)=boolC (decide (z<0))::natC z.natAbs::whs l:=rfl;have e2:whs ((z::l).take (i+1))=boolC (decide (z<0))::natC z.natAbs::whs (l.take i):=rfl;rw [e,e2,show (i+1)*2=(i*2+1)+1 by omega,List.take_succ_cons,List.take_succ_cons,ih]
theorem whs_drop(l:List Int)(i:Nat):(whs l).drop (i*2)=whs (l.drop i):=by
 induction l generalizing i with
 |nil=>simp [whs]
 |cons z l ih=>
  cases i with
  |zero=>simp [whs]
  |succ i=>
   have e:whs (z::l)=boolC (decide (z<0))::natC z.natAbs::whs l:=rfl;rw [e,show (i+1)*2=(i*2+1)+1 by omega,List.drop_succ_cons,List.drop_succ_cons,ih];rfl
theorem ones_whs(l:List Int):ones (whs l)=true:=by
 induction l with
 |nil=>rfl
 |cons z l ih=>
  have e:whs (z::l)=boolC (decide (z<0))::natC z.natAbs::whs l:=rfl;rw [e];simp only [ones,ih];rfl
theorem ones_ints(l:List Int):ones (ints l)=true:=by
 induction l with
 |nil=>rfl
 |cons z l ih=>
  have e:ints (z::l)=intC z::ints l:=rfl;rw [e];simp only [ones,ih];rfl
theorem erase_td{α:Type}(l:List α)(i:Nat):l.take i++l.drop (i+1)=l.eraseIdx i:=(List.eraseIdx_eq_take_drop_succ ..).symm
theorem Insert_ok(gb m:Nat)(l:List Int)(i:Nat)(x:Int)(hl:l.length=m)(hi:i<m)(hm:m<=200):
  OkM prog 146 ([.ex (kh gb 0 m m),intC i,whsC [x]].map Sl.ct) [(0, .rowx (kh gb 0 m m) 178 2 (whs l))] [] (fun _:Unit=>True) (fun _=> .own 1) (fun _=>[(1, .row 178 2 (whs (l.take i++x::l.drop i)))]):=by
 have hwl:=XV l
 refine OkM.enter func146 J _ ntmps146 J (fun i hi=>absurd hi (by simp)) ?_
 intro S w ρ0 hbor;refine Qj 9 J (Yq i J J J J sWhs (by omega) J ?_);refine Qq 5 J (Ops.lenF J J sWhs.und (m:=1) (List.length_map ..) J (Qq 16 J (YK J J sWhs.und J (Qq 11 J ?_))));refine Qy J (fun h=> ?_) (fun h=> ?_)
 · exfalso;omega
 refine Xz 9 J (by omega) ?_;refine Ops.capKv J J sWhs.und J (Qq 3 J ?_);refine Qy J (fun h=> ?_) (fun h=> ?_)
 · refine Qj 4 J (Jy i J J J J sWhs (by omega) J ?_);refine QZ 5 J (by omega) ?_;refine Ops.appZK 0 1 (m+1 - i) J J J (by omega) J (by rw [hwl];omega) (by omega) (by omega) (by omega) sWhs underlying3 (by omega) (by omega) J J J ?_
   rw [whs_take];have hzl:(zinit (.agg #[.bool false, .slice none 0 0]) (m+1 - i)).length=(m+1 - i)*2:=zinit_len sWhs _
   have htl:(whs (l.take i)).length=i*2:=by rw [XV,List.length_take];omega
   generalize zinit (.agg #[.bool false, .slice none 0 0]) (m+1 - i)=Z at*;refine Qe 40 1 (m+1) J J (by rw [List.length_append,htl,hzl];omega) (by omega) (by decide) (fun g2 c2 hc1 hc2=> ?_);refine Qq 7 J (Yq i J J J J sWhs (by omega) J ?_);rw [if_neg (show ¬c2=i by omega),Nat.zero_add];refine Qq 1 J (Ops.copyG 1 i 1 (whCs x) (whs (l.take i)++whCs x++Z.drop 2) J J J J (by rw [List.length_append,htl,hzl];omega) (by omega) (by omega) sWhs (src_fr (es:=[whCs x]) J (by simp)) J (by rw [spl_app htl];rfl) J ?_);refine Qq 3 J (XY 8 0x80680706050403020100 J ?_);refine QZ 4 J (by omega) ?_;refine Yq (i+1) J J J (by omega) sWhs (by omega) J ?_
   rw [if_neg (show ¬c2=i+1 by omega),Nat.zero_add];refine Qq 2 J (Yq i J J J J sWhs (by omega) J ?_);rw [if_neg (show ¬m=i by omega),Nat.zero_add]
   have h2l:(whs (l.take i)++whCs x).length=(i+1)*2:=by rw [List.length_append,htl];show i*2+2=_;omega
   have hdl:(whs (l.drop i)).length=(m - i)*2:=by rw [XV,List.length_drop];omega
   refine Ops.copyG 1 (i+1) (m - i) (whs (l.drop i)) (whs (l.take i++x::l.drop i)) J J J J (by rw [List.length_append,h2l,List.length_drop,hzl];omega) (by omega) (by omega) sWhs ?_ (ones_whs _) ?_ J ?_
   · intro a ρ w hI;obtain ⟨A,cc,us,a1,a2,a3,a4⟩:=src_kh (y:= .tmp 53) 0 i rfl rfl rfl (by rw [XV,hl]) (by omega) sWhs a ρ w hI;refine ⟨A,cc,us,a1,a2,?_,a4⟩;rw [whs_drop,List.take_of_length_le (l:=whs (l.drop i)) (by rw [hdl];omega)] at a3;exact a3
   · have hz0:(Z.drop 2).drop (whs (l.drop i)).length=[]:=List.drop_of_length_le (by rw [List.length_drop,hzl,hdl];omega);rw [spl_app h2l,hz0,List.append_nil,List.append_assoc,whs_app];rfl
   refine Qq 9 J (Fin.link 6 1 J J (Fin.retMOS () J J J (fun j e hj=> ?_) (fun i hi=>absurd hi (by simp)) trivial));by_cases hj1:1=j
   · subst hj1;exact hj
   · rw [QX _ _ hj1] at hj;cases hj
 · exfalso;omega
theorem Delete_ints(gb m c:Nat)(l:List Int)(i:Nat)(hl:l.length=m)(hi:i<m)(hc:m<=c)(hm:m<=200):
  OkM prog 151 ([.ex (kh gb 0 m c),intC i,intC (i+1)].map Sl.ct) [(0, .rowx (kh gb 0 m c) 3 1 (ints l))] [] (fun _:Unit=>c<=maxLen) (fun _=> .ct (.ex (kh gb 0 (m - 1) c))) (fun _=>[(0, .rowx (kh gb 0 (m - 1) c) 3 1 (ints (l.eraseIdx i)))]):=by
 refine OkM.enter func151 J _ ntmps151 J (fun i hi=>absurd hi (by simp)) ?_
 intro S w ρ0 hbor;refine St.factI (c<=maxLen) (fun a ρ w hI=>(hI.rowK (i:=0) J (by simp [hl]) (by decide)).2.choose_spec.choose_spec.2.2.2.2.1) (fun hcx=> ?_);refine Qj 11 J (YK J J sInts.und J (Ops.cutK3 J J J J J sInts (by omega) (by omega) (by omega) (by omega) J ?_));refine Qq 10 J ?_;refine Qy J (fun h=> ?_) (fun h=> ?_)
 · exfalso;omega
 refine Qj 5 J (YK J J sInts.und J (Qq 4 J (XY 6 0x800766050403020100 J ?_)));refine Qq 2 J (Jy i J J J J sInts (by omega) J ?_);refine Qq 2 J (Yq (i+1) J J J (by omega) sInts (by omega) J ?_);refine Ops.appIn 0 i (i+1) (ints (l.eraseIdx i)) J J J (by split <;>omega) J (by simp [hl]) (by omega) (by omega) sInts (ones_ints _) ?_ J ?_
 · rw [Nat.mul_one,Nat.mul_one,Nat.mul_one,<- erase_td,Xd]
   congr 1
   · simp [ints,List.map_take]
   · rw [List.take_of_length_le (by simp [hl])];simp [ints,List.map_drop]
 rw [show i+(m - (i+1))=m - 1 by omega];refine Qq 7 J (YK J J sInts.und J (Qq 1 J (Ops.cutKlh (m - 1) m J J J J (by omega) J sInts (by omega) (by omega) J ?_)));rw [if_neg (show ¬c=m - 1 by omega),Nat.zero_add]
 refine Ops.clearK 0 J J (.inr J) J (by simp [List.length_eraseIdx,hl,hi]) (by omega) sInts (by decide) ?_;refine Qq 9 J ?_;refine Yn () [_] rfl (Q4 J Q3) J (fun _=>rfl) hcx
theorem Delete_whs(gb m c:Nat)(l:List Int)(i:Nat)(hl:l.length=m)(hi:i<m)(hc:m<=c)(hm:m<=200):
  OkM prog 152 ([.ex (kh gb 0 m c),intC i,intC (i+1)].map Sl.ct) [(0, .rowx (kh gb 0 m c) 178 2 (whs l))] [] (fun _:Unit=>c<=maxLen) (fun _=> .ct (.ex (kh gb 0 (m - 1) c))) (fun _=>[(0, .rowx (kh gb 0 (m - 1) c) 178 2 (whs (l.eraseIdx i)))]):=by
 have hwl:=XV l
 refine OkM.enter func152 J _ ntmps152 J (fun i hi=>absurd hi (by simp)) ?_
 intro S w ρ0 hbor;refine St.factI (c<=maxLen) (fun a ρ w hI=>(hI.rowK (i:=0) J (by rw [hwl,hl]) (by decide)).2.choose_spec.choose_spec.2.2.2.2.1) (fun hcx=> ?_);refine Qj 11 J (YK J J sWhs.und J (Ops.cutK3 J J J J J sWhs (by omega) (by omega) (by omega) (by omega) J ?_));refine Qq 10 J ?_;refine Qy J (fun h=> ?_) (fun h=> ?_)
 · exfalso;omega
 refine Qj 5 J (YK J J sWhs.und J (Qq 4 J (XY 6 0x800766050403020100 J ?_)));refine Qq 2 J (Jy i J J J J sWhs (by omega) J ?_);refine Qq 2 J (Yq (i+1) J J J (by omega) sWhs (by omega) J ?_);refine Ops.appIn 0 i (i+1) (whs (l.eraseIdx i)) J J J (by split <;>omega) J (by rw [hwl,hl]) (by omega) (by omega) sWhs (ones_whs _) ?_ J ?_
 · rw [<- erase_td,whs_app,whs_take,whs_drop,List.take_of_length_le (l:=whs (l.drop (i+1))) (by rw [XV,List.length_drop];omega)]
 rw [show i+(m - (i+1))=m - 1 by omega];refine Qq 7 J (YK J J sWhs.und J (Qq 1 J (Ops.cutKlh (m - 1) m J J J J (by omega) J sWhs (by omega) (by omega) J ?_)));rw [if_neg (show ¬c=m - 1 by omega),Nat.zero_add]
 refine Ops.clearK 0 J J (.inr J) J (by rw [XV,List.length_eraseIdx,if_pos (by omega),hl]) (by omega) sWhs (by decide) ?_;refine Qq 9 J ?_;refine Yn () [_] rfl (Q4 J Q3) J (fun _=>rfl) hcx
end Go.Proofs.YtfimckpnnbibcaaGreat
namespace Go.Own
variable {X : Ctx} {L : AL} {B : BL} {ops : Array Oper} {K : Act → World → Prop} {r : Pl} {k : Kd}
theorem Is.hand{a:Act}{ρ:Nat ->Value}{w:World}(hI:Is X L B a ρ w){i el n m:Nat}{v:Value}{cs:List CT}(hi:bget B i=some (.rowx v el n cs))(hl:cs.length=m*n)(hm:0<m)(hp:0<n):∃gb c,v=kh gb 0 m c/\ m<=c/\ c<=maxLen:=by
 obtain ⟨h1,n',vs,how,hc⟩:=(hI.ent i _ hi).1;have hl' :=hc.length;rw [how.1,hl] at hl';have hnm:n' =m:=Nat.eq_of_mul_eq_mul_right hp hl';subst hnm;rcases how.2 with ⟨h2,h3⟩|⟨gb,cap,cur,h2,h3,h4,h5,h6,_⟩
 · omega
 · exact ⟨gb,cap,h1.symm.trans h2,h5,h6⟩
theorem Ops.hand{l:Pl}(i m:Nat){el n:Nat}{v:Value}{cs:List CT}(hi:bget B i=some (.rowx v el n cs))(hl:cs.length=m*n)(hm:0<m)(hp:0<n)(h:∀gb cc,v=kh gb 0 m cc ->m<=cc ->cc<=maxLen ->Ops X ops l L B K):Ops X ops l L B K:=fun a ρ w hI=>by
 obtain ⟨gb,cc,h1,h2,h3⟩:=hI.hand hi hl hm hp
 exact h gb cc h1 h2 h3 a ρ w hI
end Go.Own
namespace Go.Proofs.YtfimckpnnbibcaaGreat
open Go.Own Go.Limbs Go.Proofs.Tryz
attribute [local irreducible] St Ops Go.Own.Fin Ok OkM
theorem Index_ints(xs:List Int)(v:Int)(hl:xs.length<4611686018427387904):Ok prog 148 [intsC xs,intC v] (intC (idxI (fun x=>decide (v=x)) xs)):=by
 refine Ok.enter func148 J _ ntmps148 J ?_
 intro S w;refine Qj 9 J (QV sInts.und J (Qq 4 J ?_))
 refine QY (α:=Nat) (fun i=>i<=xs.length/\ ∀j,j<i ->decide (v=xs.getD j 0)=false)
  (fun i=>[(0, .ct (intsC xs)),(1, .ct (intC v)),(7, .ct (intC xs.length)),(8, .ct (intC i))]) (fun _=>[]) (fun i=>xs.length - i) 0 ⟨Nat.zero_le _,fun j h=>absurd h (Nat.not_lt_zero j)⟩ (by exact Qx J) ?_
 intro i ⟨hi,hv⟩;dsimp only;refine Qj 6 J ?_;refine Qy J (fun h=> ?_) (fun h=> ?_)
 · have e2:(i:Int).toNat=i:=Int.toNat_natCast i;refine Qj 15 J (Q8 0 sInts J (by omega) ?_);refine Qq 4 J ?_;refine Qy J (fun h2=> ?_) (fun h2=> ?_)
   · rw [e2] at h2;refine Qj 7 J ?_;refine Qw J (by rw [idxI_hit (p:=fun x=>decide (v=x)) (z:=0) (by omega) (decide_eq_true h2) hv];rfl)
   · rw [e2] at h2;refine Xz 7 J (by omega) ?_;refine Qk (i+1) (by omega) ⟨by omega,?_⟩ (by exact Qx J);intro j hj;rcases Nat.lt_or_ge j i with h3|h3
     · exact hv j h3
     · have:j=i:=by omega
       rw [this];exact decide_eq_false h2
 · have hi' :i=xs.length:=by omega
   refine Qj 8 J ?_;refine Qw J (by rw [idxI_miss (fun j hj=>hv j (by omega))];rfl)
theorem IndexFunc_whs(xs:List Int)(f:FuncId)(p:Int ->Bool)(hgo:InGo prog f)(hf:∀x∈xs,Ok prog f [whC x] (boolC (p x)))(hl:xs.length<4611686018427387904):Ok prog 149 [whsC xs,(.ex (.func (.func f) #[] #[]))] (intC (idxI p xs)):=by
 refine Ok.enter func149 J _ ntmps149 J ?_
 intro S w;refine Qj 9 J (QV sWhs.und J (Qq 4 J ?_))
 refine QY (α:=Nat) (fun i=>i<=xs.length/\ ∀j,j<i ->p (xs.getD j 0)=false)
  (fun i=>[(0, .ct (whsC xs)),(1, .ct (.ex (.func (.func f) #[] #[]))),(7, .ct (intC xs.length)),(8, .ct (intC i))]) (fun _=>[]) (fun i=>xs.length - i) 0 ⟨Nat.zero_le _,fun j h=>absurd h (Nat.not_lt_zero j)⟩ (by exact Qx J) ?_
 intro i ⟨hi,hv⟩;dsimp only;refine Qj 6 J ?_;refine Qy J (fun h=> ?_) (fun h=> ?_)
 · have e2:(i:Int).toNat=i:=Int.toNat_natCast i;refine Qj 15 J (Q8 0 sWhs J (by omega) ?_);rw [e2];refine Qq 1 J (Ye hgo J (hf _ (XX (by omega))) J J J J ?_);refine Qq 2 J ?_;refine Xx J (fun h2=> ?_) (fun h2=> ?_)
   · refine Qj 7 J ?_;refine Qw J (by rw [idxI_hit (by omega) h2 hv];rfl)
   · refine Xz 7 J (by omega) ?_;refine Qk (i+1) (by omega) ⟨by omega,?_⟩ (by exact Qx J);intro j hj;rcases Nat.lt_or_ge j i with h3|h3
     · exact hv j h3
     · have:j=i:=by omega
       rw [this];exact h2
 · have hi' :i=xs.length:=by omega
   refine Qj 8 J ?_;refine Qw J (by rw [idxI_miss (fun j hj=>hv j (by omega))];rfl)
theorem gostart1:InGo prog 150:=InGo.of func150 (by kernel_rfl) (by kernel_rfl)
theorem start1_ok(x:Int):Ok prog 150 [whC x] (boolC (decide (x≠0))):=by
 refine Ok.enter func150 J _ ntmps150 J ?_
 intro S w;refine Qj 9 J (Qv (gT J) (sign_ok x) J (Qq 5 J ?_));refine Qw J ?_
 have:decide (x≠0)=decide (x.sign≠0):=by
  have:=sgn_eq (z:=x);by_cases h:x=0
  · simp [h]
  · simp [h]
 rw [this];rfl
end Go.Proofs.YtfimckpnnbibcaaGreat
namespace Go.Own
variable {X : Ctx} {L : AL} {B : BL} {ops : Array Oper} {K : Act → World → Prop} {r : Pl} {k : Kd}
theorem Is.shrink{a:Act}{ρ:Nat ->Value}{w:World}(hI:Is X L B a ρ w){i gb m c el n:Nat}{cs:List CT}(q:Nat)(hi:bget B i=some (.rowx (kh gb 0 m c) el n cs))(hl:cs.length=m*n)(hp:0<n)(hq:q<=m):
  Is X (Own.killL i L) (bset B i (.rowx (kh gb 0 q c) el n (cs.take (q*n)))) a (upd ρ i (kh gb 0 q c)) w:=by
 obtain ⟨hρ,vs,cur,hc,hlv,hgb,hmc,hcm,hcz,htk⟩:=hI.rowK hi hl hp;have hjn:q*n<=m*n:=Nat.mul_le_mul_right _ hq
 have hW:=Is.write (i:=i) (v:=kh gb 0 q c) (e' := .rowx (kh gb 0 q c) el n (cs.take (q*n))) (w' :=w) (hI.killL i) hi J J J (Nat.le_refl _) (fun _ _ _=>rfl) (.inl (by rw [hρ];rfl))
  (fun S' hk=>⟨rfl,q,vs.take (q*n),⟨by rw [List.length_take,hlv];omega, .inr ⟨gb,c,cur,rfl,Nat.zero_le _,hgb,by omega,hcm,hcz,by rw [<- htk,List.take_take];congr 1;omega⟩⟩,(hc.take _).mono hk⟩) (.inr (noN_killL i L)) (.inr J)
 exact hW.bext (Xi hi)
theorem Ops.shrink{l:Pl}{gb m c el n:Nat}{cs:List CT}(i q:Nat)(hi:bget B i=some (.rowx (kh gb 0 m c) el n cs))(hl:cs.length=m*n)(hp:0<n)(hq:q<=m)
  (h:Ops X ops l (killL i L) (bset B i (.rowx (kh gb 0 q c) el n (cs.take (q*n)))) K):Ops X ops l L B K:=fun a ρ w hI=>h a (upd ρ i (kh gb 0 q c)) w (hI.shrink q hi hl hp hq)
end Go.Own
namespace Go.Proofs.YtfimckpnnbibcaaGreat
open Go.Own Go.Limbs Go.Proofs.Tryz
def Tv.wh (T H : Tv) : Tv := { T with hR := H.hR, hB := H.hB, hC := H.hC, hl := H.hl }
theorem pvt_wh(T H:Tv)(r s:Nat):pvt (T.wh H) r s=(pvt T r s).wh H:=rfl
theorem Gd.wh{T H:Tv}(G:Gd T)(h:H.hl.length=T.rows.length):Gd (T.wh H):=⟨⟨h,G.fit.row,G.fit.bas,G.fit.few,G.fit.thin⟩,G.short,G.den,G.dens⟩
theorem levS_wh(T H:Tv)(s:Nat):∀i,levS (T.wh H) s i=levS T s i
 |0=>rfl
 |i+1=>by simp only [levS,levS_wh T H s i];rfl
theorem RunOk.wh{gi:Nat}{T' H:Tv}{s:Int}:∀{k:Nat} {T:Tv},RunOk gi T' s k T ->H.hl.length=T.rows.length ->RunOk gi (T'.wh H) s k (T.wh H)
 |0,T,⟨G,h1,h2⟩,hl=>⟨G.wh hl,by rw [h1],by rw [levS_wh];exact h2⟩
 |k+1,T,⟨G,h1,h2,h3⟩,hl=>by
  refine ⟨G.wh hl,h1,?_,?_⟩
  · rw [levS_wh];exact h2
  · rw [levS_wh];exact RunOk.wh h3 (by rw [Xf];exact hl)
theorem pvt_bas(T:Tv)(r s:Nat):(pvt T r s).bas.length=T.bas.length:=by simp [pvt]
theorem Zg(T:Tv)(r s:Nat):(pvt T r s).col.length=T.col.length:=by simp [pvt]
theorem RunOk.lens{gi:Nat}{T' :Tv}{s:Int}:∀{k:Nat} {T:Tv},RunOk gi T' s k T ->T'.rows.length=T.rows.length/\ T'.bas.length=T.bas.length/\ T'.col.length=T.col.length
 |0,T,⟨G,h1,h2⟩=>by subst h1;exact ⟨rfl,rfl,rfl⟩
 |k+1,T,⟨G,h1,h2,h3⟩=>by
  have:=RunOk.lens h3
  rw [Xf,pvt_bas,Zg] at this
  exact this
theorem RunOk.last{gi:Nat}{T' :Tv}{s:Int}:∀{k:Nat} {T:Tv},RunOk gi T' s k T ->Gd T'
 |0,T,⟨G,h1,h2⟩=>by subst h1;exact G
 |k+1,T,⟨G,h1,h2,h3⟩=>RunOk.last h3
def wrS (T : Tv) : Nat → Int
  | 0 => -1
  | i + 1 => if T.at i T.col.length < 0 ∧ (wrS T i < 0 ∨ T.at i T.col.length + -(T.at (wrS T i).toNat T.col.length) < 0) then i else wrS T i
theorem wrS_bd(T:Tv):∀i, -1<=wrS T i/\ wrS T i<i
 |0=>by simp [wrS]
 |i+1=>by
  have:=wrS_bd T i
  simp only [wrS]
  split <;>omega
def insX (m k : Nat) : Int := if k < m then -1 else if k = m + 1 then 1 else 0
def insL (m q k : Nat) (l : List Int) : List Int := l.take q ++ insX m k :: l.drop q
theorem insL_len{m q k:Nat}{l:List Int}(h:q<=l.length):(insL m q k l).length=l.length+1:=by
 unfold insL;rw [List.length_append,List.length_cons,List.length_take,List.length_drop];omega
def insP (m q : Nat) (rows : List (List Int)) (i : Nat) : List (List Int) := (List.range rows.length).map fun k => if k < i then insL m q k (rows.getD k []) else rows.getD k []
theorem insP_len(m q:Nat)(rows:List (List Int))(i:Nat):(insP m q rows i).length=rows.length:=by simp [insP]
theorem insP_zero(m q:Nat)(rows:List (List Int)):insP m q rows 0=rows:=by
 unfold insP;rw [show (fun k=>if k<0 then insL m q k (rows.getD k []) else rows.getD k [])=fun k=>rows.getD k [] by funext k;rw [if_neg (by omega)]];exact Y8 rows []
theorem insP_at(m q:Nat)(rows:List (List Int))(i:Nat)(h:i<rows.length):(insP m q rows i).getD i []=rows.getD i []:=by
 unfold insP;rw [Zd _ _ _ h,if_neg (by omega)]
theorem insP_set(m q:Nat)(rows:List (List Int))(i:Nat)(h:i<rows.length):(insP m q rows i).set i (insL m q i (rows.getD i []))=insP m q rows (i+1):=by
 unfold insP;refine Yh _ _ _ i _ h (fun j hj=> ?_);by_cases e:j=i
 · subst e;rw [if_pos rfl,if_pos (by omega)]
 · rw [if_neg e];by_cases h2:j<i
   · rw [if_pos h2,if_pos (by omega)]
   · rw [if_neg h2,if_neg (by omega)]
def insT (T : Tv) (art : Int) : Tv := { T with rows := insP T.bas.length T.col.length (T.rows ++ [List.replicate (T.col.length + 1) 0]) (T.rows.length + 1), col := T.col ++ [art], hl := T.hl ++ [default] }
def fIx (xs : List Int) (v : Int) : Int := idxI (fun x => decide (v = x)) xs
theorem idxI_bd{α:Type}(p:α ->Bool)(xs:List α): -1<=idxI p xs/\ idxI p xs<xs.length:=by
 unfold idxI;split
 · rename_i h
   have h1:=List.findIdx_lt_length_of_exists (p:=p) (xs:=xs) (by simpa using h);omega
 · omega
def nzC (E : Tv) (last : Nat) (art : Int) : Int := idxI (fun x => decide (x ≠ 0)) ((E.rows.getD (fIx E.bas art).toNat []).take (last + 1))
def stE2 (E : Tv) (last : Nat) (art : Int) : Tv := if fIx E.bas art < 0 then E else pvt E (fIx E.bas art).toNat (nzC E last art).toNat
def delP (c : Nat) (rows : List (List Int)) (i : Nat) : List (List Int) := (List.range rows.length).map fun k => if k < i then (rows.getD k []).eraseIdx c else rows.getD k []
theorem delP_len(c:Nat)(rows:List (List Int))(i:Nat):(delP c rows i).length=rows.length:=by simp [delP]
theorem delP_zero(c:Nat)(rows:List (List Int)):delP c rows 0=rows:=by
 unfold delP;rw [show (fun k=>if k<0 then (rows.getD k []).eraseIdx c else rows.getD k [])=fun k=>rows.getD k [] by funext k;rw [if_neg (by omega)]];exact Y8 rows []
theorem delP_at(c:Nat)(rows:List (List Int))(i:Nat)(h:i<rows.length):(delP c rows i).getD i []=rows.getD i []:=by
 unfold delP;rw [Zd _ _ _ h,if_neg (by omega)]
theorem delP_set(c:Nat)(rows:List (List Int))(i:Nat)(h:i<rows.length):(delP c rows i).set i ((rows.getD i []).eraseIdx c)=delP c rows (i+1):=by
 unfold delP;refine Yh _ _ _ i _ h (fun j hj=> ?_);by_cases e:j=i
 · subst e;rw [if_pos rfl,if_pos (by omega)]
 · rw [if_neg e];by_cases h2:j<i
   · rw [if_pos h2,if_pos (by omega)]
   · rw [if_neg h2,if_neg (by omega)]
def stE3 (E : Tv) (m last : Nat) (art : Int) : Tv :=
  let E2 := stE2 E last art
  { E2 with rows := delP (fIx E2.col art).toNat (E2.rows.take (m + 1)) (m + 1), col := E2.col.eraseIdx (fIx E2.col art).toNat, hl := E2.hl.take (m + 1) }
structure StartRun (T : Tv) (art : Int) (E : Tv) : Prop where
  worst : 0 ≤ wrS T T.bas.length
  gd : Gd (insT T art)
  run : ∃ s k, RunOk (T.bas.length + 1) E s k (pvt (insT T art) (wrS T T.bas.length).toNat T.col.length)
  piv : ¬ E.at (T.bas.length + 1) (T.col.length + 1) < 0 → 0 ≤ fIx E.bas art → 0 ≤ nzC E T.col.length art
  fit2 : ¬ E.at (T.bas.length + 1) (T.col.length + 1) < 0 → Fit (stE2 E T.col.length art)
  out : ¬ E.at (T.bas.length + 1) (T.col.length + 1) < 0 → 0 ≤ fIx (stE2 E T.col.length art).col art
def stRes (T E : Tv) : Bool := decide (wrS T T.bas.length < 0) || !decide (E.at (T.bas.length + 1) (T.col.length + 1) < 0)
def stOut (T E : Tv) (art : Int) : Tv := if wrS T T.bas.length < 0 then T else if E.at (T.bas.length + 1) (T.col.length + 1) < 0 then E else stE3 E T.bas.length T.col.length art
theorem lines_set2:∀(k:Nat) (hl:List Value) (zs:List (List Int)) (i:Nat) (h:Value) (y:List Int),i<hl.length ->i<zs.length ->∀j,bget (linesB k (hl.set i h) (zs.set i y)) j=bget ((i+k, .rowx h 178 2 (whs y))::linesB k hl zs) j
 |_,[],_,_,_,_,h1,_,_=>by simp at h1
 |_,_::_,[],_,_,_,_,h2,_=>by simp at h2
 |k,a::hl,z::zs,0,h,y,_,_,j=>by
  show bget ((k, .rowx h 178 2 (whs y))::linesB (k+1) hl zs) j=_
  by_cases hk:k=j
  · subst hk;rw [QU,Nat.zero_add,QU]
  · rw [QX _ _ hk,QX _ _ (by omega)]
    show _=bget ((k,_)::linesB (k+1) hl zs) j
    rw [QX _ _ hk]
 |k,a::hl,z::zs,i+1,h,y,h1,h2,j=>by
  have ih:=lines_set2 (k+1) hl zs i h y (by simpa using h1) (by simpa using h2) j
  show bget ((k, .rowx a 178 2 (whs z))::linesB (k+1) (hl.set i h) (zs.set i y)) j=_
  by_cases hk:k=j
  · subst hk
    rw [QU,QX _ _ (by omega)]
    show _=bget ((k,_)::linesB (k+1) hl zs) k
    rw [QU]
  · rw [QX _ _ hk,ih]
    by_cases h3:i+(k+1)=j
    · subst h3;rw [QU,show i+1+k=i+(k+1) by omega,QU]
    · rw [QX _ _ h3,QX _ _ (by omega)]
      show _=bget ((k,_)::linesB (k+1) hl zs) j
      rw [QX _ _ hk]
theorem bget_bset'{B:BL}{i:Nat}{e0 f:Ent}(h:bget B i=some e0)(j:Nat):bget (bset B i f) j=if i=j then some f else bget B j:=by
 rw [Xi h];split
 · rename_i h;subst h;rw [QU]
 · rename_i h;rw [QX _ _ h]
theorem upd_B{e0 e1 e1' e2 e3:Ent}{hl:List Value}{zs:List (List Int)}{i:Nat}{h:Value}{y:List Int}(h1:i<hl.length)(h2:i<zs.length):
  ∀j,bget ((0,e0)::(1,e1')::(2,e2)::(3,e3)::linesB 10 (hl.set i h) (zs.set i y)) j=bget (bset ((i+10, .rowx h 178 2 (whs y))::bdel ((0,e0)::(1,e1)::(2,e2)::(3,e3)::linesB 10 hl zs) (i+10)) 1 e1') j:=fun j=>by
 have g1:bget ((i+10, .rowx h 178 2 (whs y))::bdel ((0,e0)::(1,e1)::(2,e2)::(3,e3)::linesB 10 hl zs) (i+10)) 1=some e1:=by
  rw [QX _ _ (by omega),XU _ (by omega)];rfl
 rw [bget_bset' g1];by_cases hj1:1=j
 · subst hj1;rw [if_pos rfl];rfl
 rw [if_neg hj1];by_cases hji:i+10=j
 · subst hji;rw [QU];show bget (linesB 10 (hl.set i h) (zs.set i y)) (i+10)=_;rw [lines_set2 10 hl zs i h y h1 h2,QU]
 · rw [QX _ _ hji,XU _ (Ne.symm hji)]
   match j,hj1,hji with
   |0,_,_=>rfl
   |1,h,_=>exact absurd J h
   |2,_,_=>rfl
   |3,_,_=>rfl
   |j+4,_,hji=>
    show bget (linesB 10 (hl.set i h) (zs.set i y)) (j+4)=bget (linesB 10 hl zs) (j+4);rw [lines_set2 10 hl zs i h y h1 h2,QX _ _ hji]
theorem upd_B4{e4 e0 e1 e1' e2 e3:Ent}{hl:List Value}{zs:List (List Int)}{i:Nat}{h:Value}{y:List Int}(h1:i<hl.length)(h2:i<zs.length):
  ∀j,bget ((0,e0)::(1,e1')::(2,e2)::(3,e3)::linesB 10 (hl.set i h) (zs.set i y)) j=bget (bdel (bset ((i+10, .rowx h 178 2 (whs y))::bdel ((4,e4)::(0,e0)::(1,e1)::(2,e2)::(3,e3)::linesB 10 hl zs) (i+10)) 1 e1') 4) j:=fun j=>by
 by_cases h4:j=4
 · subst h4;rw [Za];exact Zo 10 _ _ 4 (by decide)
 rw [XU _ h4,upd_B (e1:=e1) h1 h2]
 have g1:∀B' :BL,(∀j,j≠4 ->bget B' j=bget ((0,e0)::(1,e1)::(2,e2)::(3,e3)::linesB 10 hl zs) j) ->bget ((i+10,Ent.rowx h 178 2 (whs y))::bdel B' (i+10)) 1=some e1:=fun B' hB=>by
  rw [QX _ _ (by omega),XU _ (by omega),hB 1 (by decide)];rfl
 rw [bget_bset' (g1 _ (fun _ _=>rfl)),bget_bset' (g1 ((4,e4)::(0,e0)::(1,e1)::(2,e2)::(3,e3)::linesB 10 hl zs) (fun j hj=>QX _ _ (Ne.symm hj)))]
 split
 · rfl
 · by_cases hji:i+10=j
   · subst hji;rw [QU,QU]
   · rw [QX _ _ hji,QX _ _ hji,XU _ (Ne.symm hji),XU _ (Ne.symm hji),QX _ _ (Ne.symm h4)]
theorem lines_take:∀(k q:Nat) (hl:List Value) (zs:List (List Int)) (j:Nat),j<q+k ->bget (linesB k (hl.take q) (zs.take q)) j=bget (linesB k hl zs) j
 |k,0,hl,zs,j,hj=>by
  rw [List.take_zero,List.take_zero,Zo k hl zs j (by omega)];rfl
 |k,q+1,[],zs,j,hj=>by simp [linesB]
 |k,q+1,_::_,[],j,hj=>by simp [linesB]
 |k,q+1,h::hl,z::zs,j,hj=>by
  show bget ((k, .rowx h 178 2 (whs z))::linesB (k+1) (hl.take q) (zs.take q)) j=bget ((k, .rowx h 178 2 (whs z))::linesB (k+1) hl zs) j
  by_cases hk:k=j
  · subst hk;rw [QU,QU]
  · rw [QX _ _ hk,QX _ _ hk,lines_take (k+1) q hl zs j (by omega)]
theorem drop_B{e0 e1 e2 e3:Ent}{hl:List Value}{zs:List (List Int)}{q:Nat}(h1:hl.length=q+1)(h2:zs.length=q+1):
  ∀j,bget ((0,e0)::(1,e1)::(2,e2)::(3,e3)::linesB 10 (hl.take q) (zs.take q)) j=bget (bdel ((0,e0)::(1,e1)::(2,e2)::(3,e3)::linesB 10 hl zs) (q+10)) j:=fun j=>by
 by_cases hj:j=q+10
 · subst hj
   rw [Za]
   show bget (linesB 10 (hl.take q) (zs.take q)) (q+10)=none
   exact lines_ge (.inl (by rw [List.length_take];omega))
 · rw [XU _ hj]
   match j,hj with
   |0,_=>rfl
   |1,_=>rfl
   |2,_=>rfl
   |3,_=>rfl
   |j+4,hj=>
    show bget (linesB 10 (hl.take q) (zs.take q)) (j+4)=bget (linesB 10 hl zs) (j+4)
    rcases Nat.lt_or_ge (j+4) (q+10) with h3|h3
    · exact lines_take 10 q hl zs (j+4) (by omega)
    · have e:j+4=(j - 6)+10:=by omega
      rw [e,lines_ge (.inl (by rw [List.length_take];omega)),lines_ge (.inl (by omega))]
end Go.Proofs.YtfimckpnnbibcaaGreat
namespace Go.Det
variable {A : Nat → Vec} {V : Vec → Prop} {M : Nat} {bs : List Nat}
theorem Bas.gen{r s i:Nat}(h:Bas A V M bs)(hr:r<M)(hi:i<M)(hir:i≠r){x:Vec}(hx:V x):
  den A bs*((dD A bs).sign*dT A (bs.set r s) i x)=tt A bs r (A s)*tt A bs i x - tt A bs r x*tt A bs i (A s):=by
 have h1:=h.piv_i (s:=s) hr hi hir hx;have h2:=sgn_sq h.ne;unfold tt den;generalize (dD A bs).sign=σ at*
 grind
theorem sign_neg{d p:Int}(h:d≠0)(hp:d.sign*p<0):p.sign= - d.sign:=by
 rcases Int.lt_or_gt_of_ne h with h|h
 · rw [Int.sign_eq_neg_one_of_neg h] at hp ⊢;exact Int.sign_eq_one_of_pos (by omega)
 · rw [Int.sign_eq_one_of_pos h] at hp ⊢;exact Int.sign_eq_neg_one_of_neg (by omega)
theorem Bas.gsgn{r s:Nat}(h:Bas A V M bs)(hp:tt A bs r (A s)≠0):(dD A (bs.set r s)).sign=(dD A bs).sign/\ 0<tt A bs r (A s) \/(dD A (bs.set r s)).sign= -(dD A bs).sign/\ tt A bs r (A s)<0:=by
 rcases Int.lt_or_gt_of_ne hp with h1|h1
 · exact .inr ⟨by rw [piv_D];exact sign_neg h.ne h1,h1⟩
 · exact .inl ⟨by rw [piv_D];exact sign_of_mul h.ne h1,h1⟩
theorem Bas.gne{r s:Nat}(h:Bas A V M bs)(hp:tt A bs r (A s)≠0):dT A bs r (A s)≠0:=fun e=>by unfold tt at hp;rw [e] at hp;simp at hp
end Go.Det
namespace Go.Proofs.YtfimckpnnbibcaaGreat
open Go.Own Go.Limbs Go.Det Go.Proofs.Tryz
structure View (A : Nat → Vec) (V : Vec → Prop) (M m : Nat) (q : Vec) (T : Tv) (bs : List Nat) : Prop where
  bas : Bas A V M bs
  den : T.den = Go.Det.den A bs
  num : ∀ i, i < T.rows.length → ∀ j, j < T.col.length → T.at i j = tt A bs i (A (T.col.getD j 0).toNat)
  rhs : ∀ i, i < T.rows.length → T.at i T.col.length = tt A bs i q
  basl : T.bas.length = m
  basv : ∀ i, i < m → T.bas.getD i 0 = (bs.getD i 0 : Nat)
  colv : ∀ j, 0 ≤ T.col.getD j 0
  row : ∀ i, i < T.rows.length → (T.rows.getD i []).length = T.col.length + 1
  rm : m ≤ T.rows.length
  rM : T.rows.length ≤ M
theorem at_neg{rows:List (List Int)}{i j:Nat}:((rows.map negL).getD i []).getD j 0= -((rows.getD i []).getD j 0):=by
 simp only [List.getD_eq_getElem?_getD,List.getElem?_map]
 cases h:rows[i]? with
 |none=>simp
 |some l=>
  simp only [Option.map_some,Option.getD_some,negL,List.getElem?_map]
  cases h2:l[j]? with
  |none=>simp
  |some x=>simp
theorem pvt_raw{T:Tv}{r s i j:Nat}(hi:i<T.rows.length)(hr:r<T.rows.length)(hrow:(T.rows.getD i []).length=T.col.length+1)(hs:s<T.col.length+1)(hj:j<T.col.length+1):
  (((pvRows T r s T.rows.length).set r ((T.rows.getD r []).set s T.den)).getD i []).getD j 0=
    if i=r then (if j=s then T.den else T.at r j) else if j=s then -(T.at i s) else (T.at i j*T.at r s+ -(T.at r j*T.at i s)).tdiv T.den:=by
 by_cases hir:i=r
 · subst hir;rw [Z2 (by rw [Jz];exact hi),if_pos J,if_pos J];rw [Z2 (by omega)];by_cases hjs:j=s
   · subst hjs;simp
   · rw [if_neg (Ne.symm hjs),if_neg hjs]
 · rw [Z2 (by rw [Jz];exact hr),if_neg (Ne.symm hir),if_neg hir];unfold pvRows;rw [Zd _ _ _ hi,if_pos ⟨hi,hir⟩];unfold pvRow;rw [Zd _ _ _ (by omega)];unfold pvZ;by_cases hjs:j=s
   · rw [if_pos hjs]
   · rw [if_neg hjs]
theorem pvt_at{T:Tv}{r s i j:Nat}(hi:i<T.rows.length)(hr:r<T.rows.length)(hrow:(T.rows.getD i []).length=T.col.length+1)(hs:s<T.col.length+1)(hj:j<T.col.length+1):
  (pvt T r s).at i j=(if T.at r s<0 then -1 else 1)*(if i=r then (if j=s then T.den else T.at r j) else if j=s then -(T.at i s) else (T.at i j*T.at r s+ -(T.at r j*T.at i s)).tdiv T.den):=by
 have h:=pvt_raw hi hr hrow hs hj;unfold Tv.at pvt;by_cases hp:T.at r s<0
 · simp only [if_pos hp];rw [at_neg,h];unfold Tv.at;grind
 · simp only [if_neg hp];rw [h];unfold Tv.at;grind
theorem set_getDI{l:List Int}{i j:Nat}{x:Int}(h:i<l.length):(l.set i x).getD j 0=if i=j then x else l.getD j 0:=Z2 h
theorem pvt_rowlen{T:Tv}{r s i:Nat}(hi:i<T.rows.length)(hr:r<T.rows.length):((pvt T r s).rows.getD i []).length=(T.rows.getD i []).length:=by
 have key:(((pvRows T r s T.rows.length).set r ((T.rows.getD r []).set s T.den)).getD i []).length=(T.rows.getD i []).length:=by
  by_cases hir:i=r
  · subst hir;rw [Z2 (by rw [Jz];exact hi),if_pos rfl,List.length_set]
  · rw [Z2 (by rw [Jz];exact hr),if_neg (Ne.symm hir)];unfold pvRows;rw [Zd _ _ _ hi,if_pos ⟨hi,hir⟩,pvRow_len]
 unfold pvt;by_cases hp:T.at r s<0
 · simp only [if_pos hp];rw [<- key];simp only [List.getD_eq_getElem?_getD,List.getElem?_map]
   cases (((pvRows T r s T.rows.length).set r ((T.rows[r]?.getD []).set s T.den))[i]?) with
   |none=>simp
   |some l=>simp [negL]
 · simp only [if_neg hp];exact key
theorem View.pvt{A:Nat ->Vec}{V:Vec ->Prop}{M m:Nat}{q:Vec}{T:Tv}{bs:List Nat}(h:View A V M m q T bs)(hq:V q)(hA:∀v,V (A v)){r s:Nat}(hr:r<m)(hs:s<T.col.length)(hp:T.at r s≠0):
  View A V M m q (pvt T r s) (bs.set r (T.col.getD s 0).toNat):=by
 have hrl:r<T.rows.length:=by have:=h.rm;omega
 have hrM:r<M:=by have:=h.rM;omega
 have hlen:=h.bas.len;have ep:=h.num r hrl s hs
 have hne:tt A bs r (A (T.col.getD s 0).toNat)≠0:=by rw [<- ep];exact hp
 have hB:=h.bas.piv hrM (hA (T.col.getD s 0).toNat) (h.bas.gne hne);have hsg:=h.bas.gsgn hne;have hd:=den_pos h.bas.ne;rw [<- ep] at hsg
 have one:∀i,i<T.rows.length ->∀x,V x ->∀j,j<T.col.length+1 ->j≠s ->T.at i j=tt A bs i x ->T.at r j=tt A bs r x ->(Go.Proofs.YtfimckpnnbibcaaGreat.pvt T r s).at i j=tt A (bs.set r (T.col.getD s 0).toNat) i x:=by
  intro i hi x hx j hj hjs e1 e2;rw [pvt_at hi hrl (h.row i hi) (by omega) hj];by_cases hir:i=r
  · subst hir;rw [if_pos J,if_neg hjs,e2];unfold tt;rw [piv_r];rcases hsg with ⟨h1,h2⟩|⟨h1,h2⟩
    · rw [if_neg (by omega),h1,Int.one_mul]
    · rw [if_pos h2,h1,Int.neg_mul,Int.neg_mul,Int.one_mul]
  · rw [if_neg hir,if_neg hjs];have hg:=h.bas.gen (s:=(T.col.getD s 0).toNat) hrM (by have:=h.rM;omega) hir hx;rw [e1,e2,ep,h.num i hi s hs,h.den]
    have e3:tt A bs i x*tt A bs r (A (T.col.getD s 0).toNat)+ -(tt A bs r x*tt A bs i (A (T.col.getD s 0).toNat))=Go.Det.den A bs*((dD A bs).sign*dT A (bs.set r (T.col.getD s 0).toNat) i x):=by rw [hg,Int.mul_comm (tt A bs i x)];omega
    rw [e3,Int.mul_tdiv_cancel_left _ (by omega)];unfold tt;rw [ep] at hsg;unfold tt at hsg;rcases hsg with ⟨h1,h2⟩|⟨h1,h2⟩
    · rw [if_neg (by omega),h1,Int.one_mul]
    · rw [if_pos h2,h1,Int.neg_mul,Int.neg_mul,Int.one_mul]
 have two:∀i,i<T.rows.length ->(Go.Proofs.YtfimckpnnbibcaaGreat.pvt T r s).at i s=tt A (bs.set r (T.col.getD s 0).toNat) i (A (bs.getD r 0)):=by
  intro i hi;rw [pvt_at hi hrl (h.row i hi) (by omega) (by omega),if_pos J,if_pos J];unfold tt;by_cases hir:i=r
  · subst hir;rw [if_pos J,piv_r,dT_own (by omega),h.den];unfold Go.Det.den;rcases hsg with ⟨h1,h2⟩|⟨h1,h2⟩
    · rw [if_neg (by omega),h1,Int.one_mul]
    · rw [if_pos h2,h1,Int.neg_mul,Int.neg_mul,Int.one_mul]
  · rw [if_neg hir,piv_l (by omega) (by have:=h.rM;omega) hir,h.num i hi s hs];unfold tt;rcases hsg with ⟨h1,h2⟩|⟨h1,h2⟩
    · rw [if_neg (by omega),h1,Int.one_mul,Int.mul_neg]
    · rw [if_pos h2,h1];grind
 refine ⟨hB,?_,fun i hi j hj=> ?_,fun i hi=> ?_,by rw [pvt_bas];exact h.basl,fun i hi=> ?_,fun j=> ?_,fun i hi=> ?_,by rw [Xf];exact h.rm,by rw [Xf];exact h.rM⟩
 · show (if T.at r s<0 then -(T.at r s) else T.at r s)=_;unfold Go.Det.den;rw [piv_D] at hsg ⊢;rw [ep] at hsg ⊢;unfold tt at hsg ⊢;rcases hsg with ⟨h1,h2⟩|⟨h1,h2⟩
   · rw [if_neg (by omega),h1]
   · rw [if_pos h2,h1,Int.neg_mul]
 · rw [Xf] at hi;rw [Zg] at hj;show _=tt A _ i (A ((T.col.set s (T.bas.getD r 0)).getD j 0).toNat);rw [set_getDI hs];by_cases hjs:s=j
   · subst hjs;rw [if_pos J,h.basv r hr,Int.toNat_natCast];exact two i hi
   · rw [if_neg hjs];exact one i hi _ (hA _) j (by omega) (Ne.symm hjs) (h.num i hi j hj) (h.num r hrl j hj)
 · rw [Xf] at hi;rw [Zg];exact one i hi q hq T.col.length (by omega) (by omega) (h.rhs i hi) (h.rhs r hrl)
 · show (T.bas.set r (T.col.getD s 0)).getD i 0=_;rw [set_getDI (by rw [h.basl];exact hr),getD_set' (by omega)];by_cases hir:r=i
   · rw [if_pos hir,if_pos hir];have:=h.colv s;omega
   · rw [if_neg hir,if_neg hir];exact h.basv i hi
 · show 0<=(T.col.set s (T.bas.getD r 0)).getD j 0;rw [set_getDI hs];split
   · rw [h.basv r hr];omega
   · exact h.colv j
 · rw [Xf] at hi;rw [pvt_rowlen hi hrl,Zg];exact h.row i hi
theorem entS_none{gr col:List Int}:∀{j:Nat},entS gr col j<0 ->∀k,k<j ->0<=gr.getD k 0
 |0,_,k,hk=>by omega
 |j+1,h,k,hk=>by
  simp only [entS] at h
  by_cases hc:gr.getD j 0<0/\ (entS gr col j<0 \/col.getD j 0<col.getD (entS gr col j).toNat 0)
  · rw [if_pos hc] at h;omega
  · rw [if_neg hc] at h
    by_cases hkj:k=j
    · subst hkj
      by_cases h5:gr.getD k 0<0
      · exact absurd ⟨h5, .inl h⟩ hc
      · omega
    · exact entS_none h k (by omega)
theorem entS_hit{gr col:List Int}:∀{j:Nat},0<=entS gr col j ->gr.getD (entS gr col j).toNat 0<0/\ ∀k,k<j ->gr.getD k 0<0 ->col.getD (entS gr col j).toNat 0<=col.getD k 0
 |0,h=>by simp [entS] at h
 |j+1,h=>by
  simp only [entS] at h ⊢
  by_cases hc:gr.getD j 0<0/\ (entS gr col j<0 \/col.getD j 0<col.getD (entS gr col j).toNat 0)
  · rw [if_pos hc,Int.toNat_natCast]
    refine ⟨hc.1,fun k hk hk2=> ?_⟩
    by_cases hkj:k=j
    · subst hkj;exact Int.le_refl _
    · rcases hc.2 with h2|h2
      · exact absurd hk2 (by have:=(entS_none (gr:=gr) (col:=col) h2) k (by omega);omega)
      · by_cases h3:0<=entS gr col j
        · have:=(entS_hit h3).2 k (by omega) hk2;omega
        · exact absurd hk2 (by have:=(entS_none (gr:=gr) (col:=col) (j:=j) (by omega)) k (by omega);omega)
  · rw [if_neg hc] at h ⊢
    have ih:=entS_hit h
    refine ⟨ih.1,fun k hk hk2=> ?_⟩
    by_cases hkj:k=j
    · subst hkj
      have:¬(col.getD k 0<col.getD (entS gr col k).toNat 0):=fun h4=>hc ⟨hk2, .inr h4⟩
      omega
    · exact ih.2 k (by omega) hk2
theorem levS_none{T:Tv}{s:Nat}:∀{j:Nat},levS T s j<0 ->∀k,k<j ->T.at k s<=0
 |0,_,k,hk=>by omega
 |j+1,h,k,hk=>by
  simp only [levS] at h
  by_cases h1:T.at j s<=0
  · rw [if_pos h1] at h
    by_cases hkj:k=j
    · subst hkj;exact h1
    · exact levS_none h k (by omega)
  · rw [if_neg h1] at h
    split at h
    · omega
    · split at h
      · omega
      · rename_i h2 _;exact absurd h h2
theorem ratio_trans{a b c d e f:Int}(hd:0<d)(hb:0<b)(hf:0<f)(h1:a*d<=c*b)(h2:c*f<=e*d):a*f<=e*b/\ (a*f=e*b ->a*d=c*b/\ c*f=e*d):=by
 have e1:a*d*f<=c*b*f:=Int.mul_le_mul_of_nonneg_right h1 (by omega);have e2:c*f*b<=e*d*b:=Int.mul_le_mul_of_nonneg_right h2 (by omega)
 have e3:(a*f)*d<=(e*b)*d:=by grind
 constructor
 · exact Int.le_of_mul_le_mul_right e3 hd
 · intro h3
   have e4:a*f*d=e*b*d:=by rw [h3]
   have q1:a*d*f=a*f*d:=by grind
   have q2:c*b*f=c*f*b:=by grind
   have q3:e*d*b=e*b*d:=by grind
   constructor
   · have:a*d*f=c*b*f:=by omega
     exact Int.eq_of_mul_eq_mul_right (by omega) this
   · have:c*f*b=e*d*b:=by omega
     exact Int.eq_of_mul_eq_mul_right (by omega) this
theorem levS_hit{T:Tv}{s:Nat}:∀{j:Nat},0<=levS T s j ->0<T.at (levS T s j).toNat s/\ ∀k,k<j ->0<T.at k s ->
  T.at (levS T s j).toNat T.col.length*T.at k s<=T.at k T.col.length*T.at (levS T s j).toNat s/\ (T.at (levS T s j).toNat T.col.length*T.at k s=T.at k T.col.length*T.at (levS T s j).toNat s ->T.bas.getD (levS T s j).toNat 0<=T.bas.getD k 0)
 |0,h=>by simp [levS] at h
 |j+1,h=>by
  simp only [levS] at h ⊢
  by_cases h1:T.at j s<=0
  · rw [if_pos h1] at h ⊢
    have ih:=levS_hit h
    refine ⟨ih.1,fun k hk hk2=> ?_⟩
    by_cases hkj:k=j
    · subst hkj;omega
    · exact ih.2 k (by omega) hk2
  · rw [if_neg h1] at h ⊢
    by_cases h2:levS T s j<0
    · rw [if_pos h2,Int.toNat_natCast]
      refine ⟨by omega,fun k hk hk2=> ?_⟩
      by_cases hkj:k=j
      · subst hkj;exact ⟨Int.le_refl _,fun _=>Int.le_refl _⟩
      · have:=levS_none h2 k (by omega);omega
    · rw [if_neg h2] at h ⊢
      have ih:=levS_hit (T:=T) (s:=s) (j:=j) (by omega)
      generalize (levS T s j)=l at*
      by_cases h3:T.at j T.col.length*T.at l.toNat s+ -(T.at l.toNat T.col.length*T.at j s)<0 \/(T.at j T.col.length*T.at l.toNat s+ -(T.at l.toNat T.col.length*T.at j s)=0/\ T.bas.getD j 0<T.bas.getD l.toNat 0)
      · rw [if_pos h3,Int.toNat_natCast]
        refine ⟨by omega,fun k hk hk2=> ?_⟩
        by_cases hkj:k=j
        · subst hkj;exact ⟨Int.le_refl _,fun _=>Int.le_refl _⟩
        · have i2:=ih.2 k (by omega) hk2
          have r:=ratio_trans ih.1 (show 0<T.at j s by omega) hk2 (a:=T.at j T.col.length) (c:=T.at l.toNat T.col.length) (e:=T.at k T.col.length) (by omega) i2.1
          refine ⟨r.1,fun he=> ?_⟩
          have r2:=r.2 he
          have:=i2.2 r2.2
          rcases h3 with h3|h3
          · omega
          · omega
      · rw [if_neg h3]
        refine ⟨ih.1,fun k hk hk2=> ?_⟩
        by_cases hkj:k=j
        · subst hkj
          refine ⟨by omega,fun he=> ?_⟩
          have:¬(T.bas.getD k 0<T.bas.getD l.toNat 0):=fun h5=>h3 (.inr ⟨by omega,h5⟩)
          omega
        · exact ih.2 k (by omega) hk2
end Go.Proofs.YtfimckpnnbibcaaGreat
namespace Go.Proofs.YtfimckpnnbibcaaGreat
open Go.Det Go.Limbs Go.Own Go.Proofs.Tryz
structure Sys (A : Nat → Vec) (V : Vec → Prop) (M : Nat) (q : Vec) : Prop where
  hq : V q
  hA : ∀ v, V (A v)
  smT : ∀ bs i x, bs.length = M → i < M → V x → x = q ∨ (∃ v, x = A v) → (dT A bs i x).natAbs < 1073741824 ^ 60
  smD : ∀ bs, bs.length = M → (dD A bs).natAbs < 1073741824 ^ 60
structure Cov (W m : Nat) (T : Tv) (bs : List Nat) : Prop where
  all : ∀ v, v < W → (∃ i, i < m ∧ bs.getD i 0 = v) ∨ ∃ j, j < T.col.length ∧ T.col.getD j 0 = (v : Int)
  col : ∀ j, j < T.col.length → T.col.getD j 0 < (W : Int)
  bas : ∀ i, i < m → bs.getD i 0 < W
  dis : ∀ j i, j < T.col.length → i < m → T.col.getD j 0 ≠ (bs.getD i 0 : Nat)
  inj : ∀ j k, j < T.col.length → k < T.col.length → j ≠ k → T.col.getD j 0 ≠ T.col.getD k 0
structure Good (A : Nat → Vec) (V : Vec → Prop) (M m : Nat) (q : Vec) (W : Nat) (T : Tv) (bs : List Nat) : Prop where
  view : View A V M m q T bs
  cov : Cov W m T bs
  feas : ∀ i, i < m → 0 ≤ tt A bs i q
  hl : T.hl.length = T.rows.length
  few : T.rows.length ≤ 100
  thin : T.col.length ≤ 100
section
variable {A : Nat → Vec} {V : Vec → Prop} {M m W : Nat} {q : Vec} {T : Tv} {bs : List Nat}
theorem tt_small(h:Sys A V M q){i:Nat}{x:Vec}(hl:bs.length=M)(hi:i<M)(hx:V x)(hx2:x=q \/∃v,x=A v):(limbs (tt A bs i x).natAbs).length<=60:=by
 refine Q6 (Nat.lt_of_le_of_lt ?_ (h.smT bs i x hl hi hx hx2));unfold tt;rw [Int.natAbs_mul]
 have:(dD A bs).sign.natAbs<=1:=by rw [Int.natAbs_sign];split <;>omega
 exact Nat.le_trans (Nat.mul_le_mul_right _ this) (by omega)
theorem den_small(h:Sys A V M q)(hl:bs.length=M):(limbs (Go.Det.den A bs).natAbs).length<=60:=by
 refine Q6 (Nat.lt_of_le_of_lt ?_ (h.smD bs hl));unfold Go.Det.den;rw [Int.natAbs_mul]
 have:(dD A bs).sign.natAbs<=1:=by rw [Int.natAbs_sign];split <;>omega
 exact Nat.le_trans (Nat.mul_le_mul_right _ this) (by omega)
theorem View.gd(h:View A V M m q T bs)(hS:Sys A V M q)(hl:T.hl.length=T.rows.length)(hf:T.rows.length<=100)(ht:T.col.length<=100):Gd T:=by
 refine ⟨⟨hl,h.row,by rw [h.basl];exact h.rm,hf,ht⟩,fun i j=> ?_,by rw [h.den];exact den_pos h.bas.ne,by rw [h.den];exact den_small hS h.bas.len⟩;by_cases hi:i<T.rows.length
 · have hiM:i<M:=by have:=h.rM;omega
   by_cases hj:j<T.col.length
   · rw [h.num i hi j hj];exact tt_small hS h.bas.len hiM (hS.hA _) (.inr ⟨_,rfl⟩)
   · by_cases hj2:j=T.col.length
     · rw [hj2,h.rhs i hi];exact tt_small hS h.bas.len hiM hS.hq (.inl J)
     · have:T.at i j=0:=by
        unfold Tv.at;exact getD_ge (by rw [h.row i hi];omega)
       rw [this];rw [show (0:Int).natAbs=0 from rfl,limbs_zero];decide
 · have:T.at i j=0:=by
    unfold Tv.at
    have:T.rows.getD i []=[]:=by rw [List.getD_eq_getElem?_getD,List.getElem?_eq_none (by omega)];rfl
    rw [this];rfl
   rw [this];rw [show (0:Int).natAbs=0 from rfl,limbs_zero];decide
theorem Cov.pvt(h:Cov W m T bs)(hv:View A V M m q T bs){r s:Nat}(hr:r<m)(hs:s<T.col.length):Cov W m (pvt T r s) (bs.set r (T.col.getD s 0).toNat):=by
 have hlen:=hv.bas.len
 have hrM:r<M:=by have:=hv.rm;have:=hv.rM;omega
 have hc:=hv.colv s;have hcW:=h.col s hs;have hne:=hv.bas.ne
 have key:∀j,(Go.Proofs.YtfimckpnnbibcaaGreat.pvt T r s).col.getD j 0=if s=j then ((bs.getD r 0:Nat):Int) else T.col.getD j 0:=fun j=>by
  show (T.col.set s (T.bas.getD r 0)).getD j 0=_;rw [set_getDI hs,hv.basv r hr]
 have hmM:m<=M:=Nat.le_trans hv.rm hv.rM
 have bdis:∀i,i<m ->i≠r ->bs.getD i 0≠bs.getD r 0:=fun i hi hir e=>hne (Yr (i:=r) (k:=i) (by omega) (by omega) hir e.symm)
 refine ⟨fun v hvW=> ?_,fun j hj=> ?_,fun i hi=> ?_,fun j i hj hi=> ?_,fun j k hj hk hjk=> ?_⟩;rotate_left;rotate_left;rotate_left
 · rw [Zg] at hj;rw [key,getD_set' (by omega)];by_cases h1:s=j
   · rw [if_pos h1];by_cases h2:r=i
     · rw [if_pos h2];have:=h.dis s r hs hr;omega
     · rw [if_neg h2];have:=bdis i hi (Ne.symm h2);omega
   · rw [if_neg h1];by_cases h2:r=i
     · rw [if_pos h2];have:=h.inj j s hj hs (Ne.symm h1);omega
     · rw [if_neg h2];exact h.dis j i hj hi
 · rw [Zg] at hj hk;rw [key,key];by_cases h1:s=j
   · rw [if_pos h1,if_neg (by omega)];exact (h.dis k r hk hr).symm
   · rw [if_neg h1];by_cases h2:s=k
     · rw [if_pos h2];exact h.dis j r hj hr
     · rw [if_neg h2];exact h.inj j k hj hk hjk
 · rcases h.all v hvW with ⟨i,hi,he⟩|⟨j,hj,he⟩
   · by_cases hir:r=i
     · subst hir;refine .inr ⟨s,by rw [Zg];exact hs,?_⟩;show (T.col.set s (T.bas.getD r 0)).getD s 0=_;rw [set_getDI hs,if_pos J,hv.basv r hr,he]
     · exact .inl ⟨i,hi,by rw [getD_set' (by omega),if_neg hir];exact he⟩
   · by_cases hjs:s=j
     · subst hjs;exact .inl ⟨r,hr,by rw [getD_set' (by omega),if_pos J,he];rfl⟩
     · refine .inr ⟨j,by rw [Zg];exact hj,?_⟩;show (T.col.set s (T.bas.getD r 0)).getD j 0=_;rw [set_getDI hs,if_neg hjs];exact he
 · rw [Zg] at hj;show (T.col.set s (T.bas.getD r 0)).getD j 0<_;rw [set_getDI hs];split
   · rw [hv.basv r hr];have:=h.bas r hr;omega
   · exact h.col j hj
 · rw [getD_set' (by omega)];split
   · omega
   · exact h.bas i hi
def en (g : Nat) (T : Tv) : Int := entS (T.rows.getD g []) T.col T.col.length
def lv (g : Nat) (T : Tv) : Int := levS T (en g T).toNat T.bas.length
def stop (g : Nat) (T : Tv) : Prop := en g T < 0 ∨ lv g T < 0
theorem en_bd(g:Nat)(T:Tv): -1<=en g T/\ en g T<T.col.length:=entS_bd _ _ _
theorem lv_bd(g:Nat)(T:Tv): -1<=lv g T/\ lv g T<T.bas.length:=levS_bd _ _ _
theorem Good.step(h:Good A V M m q W T bs)(hS:Sys A V M q){g:Nat}(hg:m<=g)(hgT:g<T.rows.length)(hn:¬stop g T):
  Step A m g q (fun v=>v<W) bs (lv g T).toNat (T.col.getD (en g T).toNat 0).toNat:=by
 have b1:=en_bd g T;have b2:=lv_bd g T
 have he0:0<=en g T:=by unfold stop at hn;omega
 have hl0:0<=lv g T:=by unfold stop at hn;omega
 have eh:=entS_hit (show 0<=entS (T.rows.getD g []) T.col T.col.length from he0);have lh:=levS_hit (show 0<=levS T (en g T).toNat T.bas.length from hl0);obtain ⟨e,he⟩:∃e:Nat,en g T=e:=⟨(en g T).toNat,by omega⟩;obtain ⟨l,hl⟩:∃l:Nat,lv g T=l:=⟨(lv g T).toNat,by omega⟩;rw [show entS (T.rows.getD g []) T.col T.col.length=en g T from rfl,he] at eh;rw [show levS T (en g T).toNat T.bas.length=lv g T from rfl,hl,he] at lh;rw [hl,he];simp only [Int.toNat_natCast] at eh lh ⊢;rw [h.view.basl] at b2
 have heT:e<T.col.length:=by omega
 have hlm:l<m:=by omega
 have hV:=h.view;have hrm:=hV.rm;have hrM:=hV.rM;have hce:=hV.colv e;have hcW:=h.cov.col e heT;refine ⟨hlm,by omega,?_,fun v hv hvW=> ?_,?_,fun i hi hp=> ?_,fun i hi hp he2=> ?_⟩
 · rw [<- hV.num g hgT e heT];exact eh.1
 · rcases h.cov.all v hvW with ⟨i,hi,hb⟩|⟨j,hj,hb⟩
   · rw [<- hb,Yu hV.bas.len (by omega) (by omega) (by omega)];exact Int.le_refl _
   · have h1:=hV.num g hgT j hj;rw [hb,Int.toNat_natCast] at h1;rw [<- h1]
     refine Classical.byContradiction fun h2=> ?_
     have:=eh.2 j hj (by show T.at g j<0;omega);omega
 · rw [<- hV.num l (by omega) e heT];exact lh.1
 · rw [<- hV.num i (by omega) e heT,<- hV.num l (by omega) e heT,<- hV.rhs i (by omega),<- hV.rhs l (by omega)];rw [<- hV.num i (by omega) e heT] at hp;exact (lh.2 i (by rw [hV.basl];exact hi) hp).1
 · rw [<- hV.num i (by omega) e heT,<- hV.num l (by omega) e heT,<- hV.rhs i (by omega),<- hV.rhs l (by omega)] at he2;rw [<- hV.num i (by omega) e heT] at hp;have:=(lh.2 i (by rw [hV.basl];exact hi) hp).2 he2;rw [hV.basv l hlm,hV.basv i hi] at this;omega
theorem Good.pvt(h:Good A V M m q W T bs)(hS:Sys A V M q){g:Nat}(hg:m<=g)(hgT:g<T.rows.length)(hn:¬stop g T):
  Good A V M m q W (pvt T (lv g T).toNat (en g T).toNat) (bs.set (lv g T).toNat (T.col.getD (en g T).toNat 0).toNat):=by
 have st:=h.step hS hg hgT hn;have b1:=en_bd g T;have b2:=lv_bd g T
 have he0:0<=en g T:=by unfold stop at hn;omega
 have hl0:0<=lv g T:=by unfold stop at hn;omega
 rw [h.view.basl] at b2;have hV:=h.view;have hrm:=hV.rm;have hrM:=hV.rM
 have hp:T.at (lv g T).toNat (en g T).toNat≠0:=by
  rw [hV.num _ (by omega) _ (by omega)];have:=st.lev;omega
 refine ⟨hV.pvt hS.hq hS.hA (by omega) (by omega) hp,h.cov.pvt hV (by omega) (by omega),st.feas hV.bas (by omega) hS.hq h.feas,?_,by rw [Xf];exact h.few,by rw [Zg];exact h.thin⟩;rw [Xf];exact h.hl
def nx (g : Nat) (x : Tv × List Nat) : Tv × List Nat := (pvt x.1 (lv g x.1).toNat (en g x.1).toNat, x.2.set (lv g x.1).toNat (x.1.col.getD (en g x.1).toNat 0).toNat)
def it (g : Nat) : Nat → Tv × List Nat → Tv × List Nat
  | 0, x => x
  | n + 1, x => it g n (nx g x)
theorem it_succ(g:Nat):∀n x,it g (n+1) x=nx g (it g n x)
 |0,_=>rfl
 |n+1,x=>by
  show it g (n+1) (nx g x)=_
  rw [it_succ g n (nx g x)];rfl
theorem least{p:Nat ->Prop}(h:∃k,p k):∃k,p k/\ ∀j,j<k ->¬p j:=by
 obtain ⟨k,hk⟩:=h
 induction k using Nat.strongRecOn with
 |ind k ih=>
  by_cases h1:∃j,j<k/\ p j
  · obtain ⟨j,hj,hp⟩:=h1;exact ih j hj hp
  · exact ⟨k,hk,fun j hj hp=>h1 ⟨j,hj,hp⟩⟩
theorem nx_rows(g:Nat)(x:Tv × List Nat):(nx g x).1.rows.length=x.1.rows.length:=Xf _ _ _
def EndP (A : Nat → Vec) (m g W : Nat) (T : Tv) (bs : List Nat) (s : Int) : Prop :=
  (s = -1 ∧ ∀ v, v < W → 0 ≤ tt A bs g (A v)) ∨ ∃ e : Nat, s = e ∧ e < T.col.length ∧ tt A bs g (A (T.col.getD e 0).toNat) < 0 ∧ ∀ i, i < m → tt A bs i (A (T.col.getD e 0).toNat) ≤ 0
theorem Good.endp(h:Good A V M m q W T bs){g:Nat}(hg:m<=g)(hgT:g<T.rows.length)(hs:stop g T):∃s,EndP A m g W T bs s/\ ((en g T<0/\ s= -1) \/(0<=en g T/\ lv g T<0/\ s=en g T)):=by
 have hV:=h.view;have hrM:=hV.rM;have b1:=en_bd g T;by_cases he:en g T<0
 · refine ⟨-1, .inl ⟨rfl,fun v hv=> ?_⟩, .inl ⟨he,rfl⟩⟩;rcases h.cov.all v hv with ⟨i,hi,hb⟩|⟨j,hj,hb⟩
   · rw [<- hb,Yu hV.bas.len (by omega) (by omega) (by omega)];exact Int.le_refl _
   · have h1:=hV.num g hgT j hj;rw [hb,Int.toNat_natCast] at h1;rw [<- h1];exact entS_none he j hj
 · have hl:lv g T<0:=by unfold stop at hs;omega
   obtain ⟨e,hee⟩:∃e:Nat,en g T=e:=⟨(en g T).toNat,by omega⟩;have eh:=entS_hit (show 0<=entS (T.rows.getD g []) T.col T.col.length by show 0<=en g T;omega);rw [show entS (T.rows.getD g []) T.col T.col.length=en g T from rfl,hee] at eh;simp only [Int.toNat_natCast] at eh;refine ⟨en g T, .inr ⟨e,hee,by omega,?_,fun i hi=> ?_⟩, .inr ⟨by omega,hl,rfl⟩⟩
   · rw [<- hV.num g hgT e (by omega)];exact eh.1
   · rw [<- hV.num i (by have:=hV.rm;omega) e (by omega)];have:=levS_none hl i (by rw [hV.basl];exact hi);rw [hee] at this;simpa using this
theorem it_ok(hS:Sys A V M q){g:Nat}(hg:m<=g):∀(n:Nat) (x:Tv × List Nat),Good A V M m q W x.1 x.2 ->g<x.1.rows.length ->(∀j,j<n ->¬stop g (it g j x).1) ->Good A V M m q W (it g n x).1 (it g n x).2/\ (it g n x).1.rows.length=x.1.rows.length/\ ∀j,m<=j ->(it g n x).2.getD j 0=x.2.getD j 0
 |0,x,h,_,_=>⟨h,rfl,fun _ _=>rfl⟩
 |n+1,x,h,hgT,hn=>by
  have h0:=hn 0 (by omega)
  have h1:=h.pvt hS hg hgT h0
  obtain ⟨a1,a2,a3⟩:=it_ok hS hg n (nx g x) h1 (by rw [nx_rows];exact hgT) (fun j hj=>hn (j+1) (by omega))
  refine ⟨a1,by rw [<- nx_rows g x];exact a2,fun j hj=> ?_⟩
  show (it g n (nx g x)).2.getD j 0=_
  rw [a3 j hj]
  show (x.2.set _ _).getD j 0=_
  have b2:=lv_bd g x.1
  have hV:=h.view
  have hlen:=hV.bas.len
  have hrm:=hV.rm
  have hrM:=hV.rM
  rw [hV.basl] at b2
  have hl0:0<=lv g x.1:=by
   have h0' :¬stop g x.1:=h0;unfold stop at h0';omega
  rw [getD_set' (by omega),if_neg (by omega)]
theorem it_run{g:Nat}(hS:Sys A V M q)(hg:m<=g){s:Int}:∀(n:Nat) (x:Tv × List Nat),Good A V M m q W x.1 x.2 ->g<x.1.rows.length ->(∀j,j<n ->¬stop g (it g j x).1) ->
  ((en g (it g n x).1<0/\ s= -1) \/(0<=en g (it g n x).1/\ lv g (it g n x).1<0/\ s=en g (it g n x).1)) ->RunOk g (it g n x).1 s n x.1
 |0,x,h,_,_,hs=>⟨h.view.gd hS h.hl h.few h.thin,rfl,hs⟩
 |n+1,x,h,hgT,hn,hs=>by
  have h0:¬stop g x.1:=hn 0 (by omega)
  have h1:=h.pvt hS hg hgT h0
  refine ⟨h.view.gd hS h.hl h.few h.thin,?_,?_,it_run hS hg n (nx g x) h1 (by rw [nx_rows];exact hgT) (fun j hj=>hn (j+1) (by omega)) hs⟩
  · have:0<=en g x.1:=by unfold stop at h0;omega
    exact this
  · have:0<=lv g x.1:=by unfold stop at h0;omega
    exact this
theorem Good.ends(h:Good A V M m q W T bs)(hS:Sys A V M q){g:Nat}(hg:m<=g)(hgT:g<T.rows.length)(hN:∀d∈bs,d<W+M+2):
  ∃k T' s bs',RunOk g T' s k T/\ Good A V M m q W T' bs' /\ EndP A m g W T' bs' s/\ T'.rows.length=T.rows.length/\ ∀j,m<=j ->bs'.getD j 0=bs.getD j 0:=by
 have hex:∃k,stop g (it g k (T,bs)).1:=by
  refine Classical.byContradiction fun hno=> ?_
  have hn:∀k,¬stop g (it g k (T,bs)).1:=fun k hk=>hno ⟨k,hk⟩
  have hG:=fun k=>it_ok (W:=W) hS hg k (T,bs) h hgT (fun j _=>hn j)
  have R:Run A V M m g q (fun v=>v<W) (W+M+2) (fun k=>(it g k (T,bs)).2) (fun k=>(lv g (it g k (T,bs)).1).toNat) (fun k=>((it g k (T,bs)).1.col.getD (en g (it g k (T,bs)).1).toNat 0).toNat):=
   ⟨h.view.bas,h.feas,hS.hq,hS.hA,hg,by have:=h.view.rM;omega,fun k=>(hG k).1.step hS hg (by rw [(hG k).2.1];exact hgT) (hn k),fun k=>by show (it g (k+1) (T,bs)).2=_;rw [it_succ];rfl,hN,fun v hv=>by omega⟩
  exact R.no
 obtain ⟨k,hk,hkl⟩:=least hex;obtain ⟨a1,a2,a3⟩:=it_ok (W:=W) hS hg k (T,bs) h hgT hkl;obtain ⟨s,hs1,hs2⟩:=a1.endp hg (by rw [a2];exact hgT) hk;exact ⟨k,_,s,_,it_run hS hg k (T,bs) h hgT hkl hs2,a1,hs1,a2,a3⟩
end
def colA (n : Nat) (rs : List Rw) (c : List Int) (v : Nat) : Vec := fun j =>
  if v < n then (if j < rs.length then (rs.getD j rw0).cs.getD v 0 else if j = rs.length then -(c.getD v 0) else 0)
  else if v < n + rs.length then (if j = v - n then 1 else 0)
  else if v = n + rs.length then (if j < rs.length then -1 else if j = rs.length + 1 then 1 else 0)
  else if v = n + rs.length + 1 then (if j = rs.length then 1 else 0)
  else if v = n + rs.length + 2 then (if j = rs.length + 1 then 1 else 0) else 0
def rhsQ (rs : List Rw) : Vec := fun j => if j < rs.length then (rs.getD j rw0).b else 0
def bs0 (n m : Nat) : List Nat := (List.range m).map (fun i => n + i) ++ [n + m + 1, n + m + 2]
def Vok (M : Nat) (x : Vec) : Prop := ∀ j, M ≤ j → x j = 0
theorem bs0_len(n m:Nat):(bs0 n m).length=m+2:=by simp [bs0]
theorem bs0_lo{n m i:Nat}(h:i<m):(bs0 n m).getD i 0=n+i:=by
 simp [bs0,List.getD_eq_getElem?_getD,List.getElem?_append_left,h]
theorem bs0_z(n m:Nat):(bs0 n m).getD m 0=n+m+1:=by simp [bs0,List.getD_eq_getElem?_getD]
theorem bs0_w(n m:Nat):(bs0 n m).getD (m+1) 0=n+m+2:=by simp [bs0,List.getD_eq_getElem?_getD]
section
variable {n : Nat} {rs : List Rw} {c : List Int}
theorem YX{v:Nat}(h:v<n)(j:Nat):colA n rs c v j=if j<rs.length then (rs.getD j rw0).cs.getD v 0 else if j=rs.length then -(c.getD v 0) else 0:=by
 unfold colA;rw [if_pos h]
theorem Ze{i:Nat}(h:i<rs.length):colA n rs c (n+i)=unit i:=by
 funext j
 unfold colA Go.Det.unit;rw [if_neg (by omega),if_pos (by omega)]
 congr 1
 exact propext ⟨fun h=>by omega,fun h=>by omega⟩
theorem colA_art:colA n rs c (n+rs.length)=fun j=>if j<rs.length then -1 else if j=rs.length+1 then 1 else 0:=by
 funext j
 unfold colA;rw [if_neg (by omega),if_neg (by omega),if_pos J]
theorem colA_z:colA n rs c (n+rs.length+1)=unit rs.length:=by
 funext j
 unfold colA Go.Det.unit;rw [if_neg (by omega),if_neg (by omega),if_neg (by omega),if_pos J]
theorem colA_w:colA n rs c (n+rs.length+2)=unit (rs.length+1):=by
 funext j
 unfold colA Go.Det.unit;rw [if_neg (by omega),if_neg (by omega),if_neg (by omega),if_neg (by omega),if_pos J]
theorem bs0_unit{i:Nat}(h:i<rs.length+2):colA n rs c ((bs0 n rs.length).getD i 0)=unit i:=by
 by_cases h1:i<rs.length
 · rw [bs0_lo h1,Ze h1]
 · by_cases h2:i=rs.length
   · subst h2;rw [bs0_z,colA_z]
   · have:i=rs.length+1:=by omega
     subst this;rw [bs0_w,colA_w]
theorem Jx(v:Nat):Vok (rs.length+2) (colA n rs c v):=fun j hj=>by
 unfold colA
 split
 · rw [if_neg (by omega),if_neg (by omega)]
 · split
   · rw [if_neg (by omega)]
   · split
     · rw [if_neg (by omega),if_neg (by omega)]
     · split
       · rw [if_neg (by omega)]
       · split
         · rw [if_neg (by omega)]
         · rfl
theorem JW:Vok (rs.length+2) (rhsQ rs):=fun j hj=>by unfold rhsQ;rw [if_neg (by omega)]
theorem bs0_bas:Bas (colA n rs c) (Vok (rs.length+2)) (rs.length+2) (bs0 n rs.length)/\ dD (colA n rs c) (bs0 n rs.length)=1:=
 Bas.start (bs0_len n rs.length) (fun i hi=>bs0_unit hi) (fun x hx=>hx)
theorem bs0_tt{i:Nat}(hi:i<rs.length+2){x:Vec}(hx:Vok (rs.length+2) x):tt (colA n rs c) (bs0 n rs.length) i x=x i:=by
 unfold tt;rw [bs0_bas.2,dT_unit (bs0_len n rs.length) (fun i hi=>bs0_unit hi) hx hi];show 1*_=_;omega
structure LpOk (n : Nat) (rs : List Rw) (c : List Int) : Prop where
  nn : n ≤ 16
  mm : rs.length ≤ 64
  cl : c.length ≤ n
  cb : ∀ i, (c.getD i 0).natAbs ≤ 1048576
  rl : ∀ r ∈ rs, r.cs.length ≤ n
  rb : ∀ r ∈ rs, ∀ i, (r.cs.getD i 0).natAbs ≤ 1048576
  bb : ∀ r ∈ rs, r.b.natAbs ≤ 4503599627370496
theorem rs_mem{j:Nat}(h:j<rs.length):rs.getD j rw0∈rs:=XX h
theorem colA_bd(h:LpOk n rs c)(v j:Nat):(colA n rs c v j).natAbs<=1048576:=by
 unfold colA;split
 · split
   · rename_i h1 h2;exact h.rb _ (rs_mem h2) v
   · split
     · rw [Int.natAbs_neg];exact h.cb v
     · decide
 · repeat' split
   all_goals decide
theorem fact_mono:∀{a b:Nat},a<=b ->fact a<=fact b:=fun {a b} h=>by
 induction b with
 |zero=>rw [show a=0 by omega];exact Nat.le_refl _
 |succ b ih=>
  rcases Nat.lt_or_ge a (b+1) with h1|h1
  · refine Nat.le_trans (ih (by omega)) ?_
    show fact b<=(b+1)*fact b
    exact Nat.le_mul_of_pos_left _ (by omega)
  · rw [show a=b+1 by omega];exact Nat.le_refl _
theorem big_bd{M:Nat}(h:M<=66):fact M*1048576 ^ M<=fact 66*1048576 ^ 66:=Nat.mul_le_mul (fact_mono h) (Nat.pow_le_pow_right (by decide) h)
theorem dt_A{l:List Vec}(h:LpOk n rs c)(hl:l.length=rs.length+2)(hA:∀x∈l,∀i,(x i).natAbs<=1048576):(dt l).natAbs<=fact 66*1048576 ^ 66:=by
 have h1:=dt_bd l hA;rw [hl] at h1;exact Nat.le_trans h1 (big_bd (by have:=h.mm;omega))
theorem mem_set_or{l:List Vec}{i:Nat}{y x:Vec}(h:x∈l.set i y):x∈l \/x=y:=List.mem_or_eq_of_mem_set h
theorem cols_bd(h:LpOk n rs c){bs:List Nat}{x:Vec}(hx:x∈cols (colA n rs c) bs)(i:Nat):(x i).natAbs<=1048576:=by
 obtain ⟨v,_,rfl⟩:=List.mem_map.1 hx;exact colA_bd h v i
theorem sm_natAbs{f:Nat ->Int}{K:Nat}:∀{M:Nat},(∀k,k<M ->(f k).natAbs<=K) ->(sm f M).natAbs<=M*K
 |0,_=>by simp [sm]
 |M+1,h=>by
  simp only [sm]
  have h1:=sm_natAbs (M:=M) fun k hk=>h k (by omega)
  have h2:=h M (by omega)
  rw [Nat.add_mul,Nat.one_mul]
  omega
theorem lp_sys(h:LpOk n rs c):Sys (colA n rs c) (Vok (rs.length+2)) (rs.length+2) (rhsQ rs):=by
 refine ⟨JW,Jx,fun bs i x hl hi hx hx2=> ?_,fun bs hl=> ?_⟩
 · rcases hx2 with rfl|⟨v,rfl⟩
   · have e:rhsQ rs=comb (rhsQ rs) unit (rs.length+2):=by
      funext j
      unfold comb;by_cases hj:j<rs.length+2
      · rw [Yl hj fun k _ hk=>by simp [Go.Det.unit,Ne.symm hk]];simp [Go.Det.unit]
      · rw [JW j (by omega),Z4 fun k hk=>by rw [show Go.Det.unit k j=0 from if_neg (by omega),Int.mul_zero]]
     have hlc:i<(cols (colA n rs c) bs).length:=by rw [Z6];omega
     have e2:dT (colA n rs c) bs i (rhsQ rs)=sm (fun k=>rhsQ rs k*dt ((cols (colA n rs c) bs).set i (unit k))) (rs.length+2):=by
      unfold dT
      conv=>lhs;rw [e]
      exact Y7 hlc _ _ _
     rw [e2]
     refine Nat.lt_of_le_of_lt (sm_natAbs (K:=4503599627370496*(fact 66*1048576 ^ 66)) fun k _=> ?_) ?_
     · rw [Int.natAbs_mul]
       refine Nat.mul_le_mul ?_ (dt_A h (by rw [List.length_set,Z6];exact hl) fun x hx i=> ?_)
       · unfold rhsQ;split
         · rename_i h2;exact h.bb _ (rs_mem h2)
         · decide
       · rcases mem_set_or hx with h3|h3
         · exact cols_bd h h3 i
         · rw [h3];unfold Go.Det.unit;split <;>decide
     · refine Nat.lt_of_le_of_lt (Nat.mul_le_mul_right _ (show rs.length+2<=66 by have:=h.mm;omega)) ?_
       decide
   · refine Nat.lt_of_le_of_lt (dt_A h (by rw [List.length_set,Z6];exact hl) fun x hx i=> ?_) ?_
     · rcases mem_set_or hx with h3|h3
       · exact cols_bd h h3 i
       · rw [h3];exact colA_bd h v i
     · decide
 · refine Nat.lt_of_le_of_lt (dt_A h (by rw [Z6];exact hl) fun x hx i=>cols_bd h hx i) ?_
   decide
structure Beg (n : Nat) (rs : List Rw) (c : List Int) (T : Tv) : Prop where
  rows : T.rows = (rs.map fun r => lnOf n r.cs r.b) ++ [lnOf n (c.map fun x => -x) 0]
  bas : T.bas = rng n rs.length
  col : T.col = rng 0 n
  den : T.den = 1
  hl : T.hl.length = T.rows.length
theorem lnOf_len(n:Nat)(cs:List Int)(b:Int):(lnOf n cs b).length=n+1:=by simp [lnOf]
theorem lnOf_at{n:Nat}{cs:List Int}{b:Int}{j:Nat}(h:j<n):(lnOf n cs b).getD j 0=cs.getD j 0:=by
 simp [lnOf,List.getD_eq_getElem?_getD,List.getElem?_append_left,h]
theorem lnOf_last(n:Nat)(cs:List Int)(b:Int):(lnOf n cs b).getD n 0=b:=by simp [lnOf,List.getD_eq_getElem?_getD]
theorem rng_at{a n j:Nat}(h:j<n):(rng a n).getD j 0=((a+j:Nat):Int):=by simp [rng,List.getD_eq_getElem?_getD,h]
theorem rng_nn(a n j:Nat):0<=(rng a n).getD j 0:=by
 rcases Nat.lt_or_ge j n with h|h
 · rw [rng_at h];omega
 · rw [getD_ge (by rw [Qn];exact h)];exact Int.le_refl _
theorem Beg.len{T:Tv}(h:Beg n rs c T):T.rows.length=rs.length+1:=by rw [h.rows];simp
theorem Beg.lo{T:Tv}(h:Beg n rs c T){i:Nat}(hi:i<rs.length):T.rows.getD i []=lnOf n (rs.getD i rw0).cs (rs.getD i rw0).b:=by
 rw [h.rows];simp [List.getD_eq_getElem?_getD,List.getElem?_append_left,hi]
theorem Beg.hi{T:Tv}(h:Beg n rs c T):T.rows.getD rs.length []=lnOf n (c.map fun x=> -x) 0:=by
 rw [h.rows];simp [List.getD_eq_getElem?_getD]
theorem neg_getD(c:List Int)(j:Nat):(c.map fun x=> -x).getD j 0= -(c.getD j 0):=by
 simp only [List.getD_eq_getElem?_getD,List.getElem?_map]
 cases c[j]? <;>simp
theorem Beg.view{T:Tv}(h:Beg n rs c T):View (colA n rs c) (Vok (rs.length+2)) (rs.length+2) rs.length (rhsQ rs) T (bs0 n rs.length):=by
 have hl:=h.len
 have hcl:T.col.length=n:=by rw [h.col,Qn]
 refine ⟨bs0_bas.1,?_,fun i hi j hj=> ?_,fun i hi=> ?_,by rw [h.bas,Qn],fun i hi=> ?_,fun j=>by rw [h.col];exact rng_nn _ _ _,fun i hi=> ?_,by omega,by omega⟩
 · rw [h.den];unfold Go.Det.den;rw [bs0_bas.2];rfl
 · rw [hcl] at hj;rw [bs0_tt (by omega) (Jx _),h.col,rng_at hj,Nat.zero_add,Int.toNat_natCast,YX hj];unfold Tv.at;by_cases h1:i<rs.length
   · rw [if_pos h1,h.lo h1,lnOf_at hj]
   · rw [if_neg h1,if_pos (by omega),show i=rs.length by omega,h.hi,lnOf_at hj,neg_getD]
 · rw [bs0_tt (by omega) JW];unfold Tv.at rhsQ;rw [hcl];by_cases h1:i<rs.length
   · rw [if_pos h1,h.lo h1,lnOf_last]
   · rw [if_neg h1,show i=rs.length by omega,h.hi,lnOf_last]
 · rw [h.bas,rng_at hi,bs0_lo hi]
 · by_cases h1:i<rs.length
   · rw [h.lo h1,lnOf_len,hcl]
   · rw [show i=rs.length by omega,h.hi,lnOf_len,hcl]
theorem insL_at{m q k:Nat}{l:List Int}(hq:l.length=q+1){j:Nat}:(insL m q k l).getD j 0=if j<q then l.getD j 0 else if j=q then insX m k else l.getD (j - 1) 0:=by
 unfold insL;simp only [List.getD_eq_getElem?_getD];by_cases h1:j<q
 · rw [if_pos h1,List.getElem?_append_left (by rw [List.length_take];omega),List.getElem?_take,if_pos h1]
 · rw [if_neg h1,List.getElem?_append_right (by rw [List.length_take];omega),List.length_take,Nat.min_eq_left (by omega)];by_cases h2:j=q
   · rw [if_pos h2,h2,Nat.sub_self];rfl
   · rw [if_neg h2];obtain ⟨d,rfl⟩:∃d,j=q+1+d:=⟨j - (q+1),by omega⟩;rw [show q+1+d - q=d+1 by omega,List.getElem?_cons_succ,List.getElem?_drop,show q+1+d - 1=q+d by omega]
theorem Beg.ins{T:Tv}(h:Beg n rs c T):View (colA n rs c) (Vok (rs.length+2)) (rs.length+2) rs.length (rhsQ rs) (insT T ((n+rs.length:Nat):Int)) (bs0 n rs.length):=by
 have hl:=h.len
 have hcl:T.col.length=n:=by rw [h.col,Qn]
 have hbl:T.bas.length=rs.length:=by rw [h.bas,Qn]
 have hrl:(insT T ((n+rs.length:Nat):Int)).rows.length=rs.length+2:=by show (insP _ _ _ _).length=_;rw [insP_len];simp [hl]
 have hil:(insT T ((n+rs.length:Nat):Int)).col.length=n+1:=by show (T.col++ [_]).length=_;simp [hcl]
 have hr0:∀i,i<rs.length+2 ->((T.rows++ [List.replicate (T.col.length+1) (0:Int)]).getD i []).length=n+1/\ (T.rows++ [List.replicate (T.col.length+1) (0:Int)]).getD i []=if i<rs.length+1 then T.rows.getD i [] else List.replicate (n+1) 0:=fun i hi=>by
  have e:(T.rows++ [List.replicate (T.col.length+1) (0:Int)]).getD i []=if i<rs.length+1 then T.rows.getD i [] else List.replicate (n+1) 0:=by
   by_cases h1:i<rs.length+1
   · rw [if_pos h1,List.getD_eq_getElem?_getD,List.getElem?_append_left (by omega),<- List.getD_eq_getElem?_getD]
   · rw [if_neg h1,show i=T.rows.length by omega];simp [List.getD_eq_getElem?_getD,hcl]
  refine ⟨?_,e⟩;rw [e];split
  · rw [h.view.row i (by omega),hcl]
  · simp
 have hrow:∀i,i<rs.length+2 ->(insT T ((n+rs.length:Nat):Int)).rows.getD i []=insL rs.length n i ((T.rows++ [List.replicate (T.col.length+1) (0:Int)]).getD i []):=fun i hi=>by
  show (insP _ _ _ _).getD i []=_;unfold insP;rw [Zd _ _ _ (by simp [hl];omega),if_pos (by omega),hbl,hcl]
 have hcol:∀j,(insT T ((n+rs.length:Nat):Int)).col.getD j 0=if j<n then (j:Int) else if j=n then ((n+rs.length:Nat):Int) else 0:=fun j=>by
  show (T.col++ [_]).getD j 0=_;by_cases h1:j<n
  · rw [if_pos h1,List.getD_eq_getElem?_getD,List.getElem?_append_left (by omega),<- List.getD_eq_getElem?_getD,h.col,rng_at h1,Nat.zero_add]
  · rw [if_neg h1];by_cases h2:j=n
    · rw [if_pos h2,h2,<- hcl];simp [List.getD_eq_getElem?_getD]
    · rw [if_neg h2,getD_ge (by simp [hcl];omega)]
 have hat:∀i,i<rs.length+2 ->∀j,(insT T ((n+rs.length:Nat):Int)).at i j=if j<n then (if i<rs.length+1 then T.at i j else 0) else if j=n then insX rs.length i else if j=n+1 then (if i<rs.length+1 then T.at i n else 0) else 0:=fun i hi j=>by
  unfold Tv.at;rw [hrow i hi,insL_at (hr0 i hi).1,(hr0 i hi).2];by_cases h1:j<n
  · rw [if_pos h1,if_pos h1];split
    · rfl
    · simp [List.getD_eq_getElem?_getD,List.getElem?_replicate];split <;>rfl
  · rw [if_neg h1,if_neg h1];by_cases h2:j=n
    · rw [if_pos h2,if_pos h2]
    · rw [if_neg h2,if_neg h2];by_cases h3:j=n+1
      · rw [if_pos h3,h3,Nat.add_sub_cancel];split
        · rfl
        · simp [List.getD_eq_getElem?_getD,List.getElem?_replicate]
      · rw [if_neg h3];split
        · rw [getD_ge (by rw [h.view.row i (by omega),hcl];omega)]
        · rw [getD_ge (by simp;omega)]
 have hV:=h.view;refine ⟨bs0_bas.1,?_,fun i hi j hj=> ?_,fun i hi=> ?_,hbl,fun i hi=> ?_,fun j=> ?_,fun i hi=> ?_,by omega,by omega⟩
 · show T.den=_;exact hV.den
 · rw [hrl] at hi;rw [hil] at hj;rw [bs0_tt hi (Jx _),hat i hi j,hcol j];by_cases h1:j<n
   · rw [if_pos h1,if_pos h1,Int.toNat_natCast];by_cases h2:i<rs.length+1
     · rw [if_pos h2];have:=hV.num i (by omega) j (by omega);rw [bs0_tt (by omega) (Jx _),h.col,rng_at h1,Nat.zero_add,Int.toNat_natCast] at this;exact this
     · rw [if_neg h2,YX h1,if_neg (by omega),if_neg (by omega)]
   · rw [if_neg h1,if_pos (by omega),if_neg h1,if_pos (by omega),Int.toNat_natCast,colA_art];rfl
 · rw [hrl] at hi;rw [hil,bs0_tt hi JW,hat i hi (n+1),if_neg (by omega),if_neg (by omega),if_pos J];by_cases h2:i<rs.length+1
   · rw [if_pos h2];have:=hV.rhs i (by omega);rw [bs0_tt (by omega) JW,hcl] at this;exact this
   · rw [if_neg h2];unfold rhsQ;rw [if_neg (by omega)]
 · show T.bas.getD i 0=_;exact hV.basv i hi
 · rw [hcol j];split
   · omega
   · split <;>omega
 · rw [hrl] at hi;rw [hrow i hi,insL_len (by rw [(hr0 i hi).1];omega),(hr0 i hi).1,hil]
end
theorem wrS_none{T:Tv}:∀{i:Nat},wrS T i<0 ->∀k,k<i ->0<=T.at k T.col.length
 |0,_,k,hk=>by omega
 |i+1,h,k,hk=>by
  simp only [wrS] at h
  by_cases hc:T.at i T.col.length<0/\ (wrS T i<0 \/T.at i T.col.length+ -(T.at (wrS T i).toNat T.col.length)<0)
  · rw [if_pos hc] at h;omega
  · rw [if_neg hc] at h
    by_cases hki:k=i
    · subst hki
      by_cases h5:T.at k T.col.length<0
      · exact absurd ⟨h5, .inl h⟩ hc
      · omega
    · exact wrS_none h k (by omega)
theorem wrS_hit{T:Tv}:∀{i:Nat},0<=wrS T i ->T.at (wrS T i).toNat T.col.length<0/\ ∀k,k<i ->T.at (wrS T i).toNat T.col.length<=T.at k T.col.length
 |0,h=>by simp [wrS] at h
 |i+1,h=>by
  simp only [wrS] at h ⊢
  by_cases hc:T.at i T.col.length<0/\ (wrS T i<0 \/T.at i T.col.length+ -(T.at (wrS T i).toNat T.col.length)<0)
  · rw [if_pos hc,Int.toNat_natCast]
    refine ⟨hc.1,fun k hk=> ?_⟩
    by_cases hki:k=i
    · subst hki;exact Int.le_refl _
    · by_cases h2:wrS T i<0
      · have:=wrS_none h2 k (by omega);omega
      · have h3:=(wrS_hit (T:=T) (i:=i) (by omega)).2 k (by omega)
        rcases hc.2 with h4|h4 <;>omega
  · rw [if_neg hc] at h ⊢
    have ih:=wrS_hit h
    refine ⟨ih.1,fun k hk=> ?_⟩
    by_cases hki:k=i
    · subst hki
      by_cases h5:T.at k T.col.length<0
      · have:¬(T.at k T.col.length+ -(T.at (wrS T k).toNat T.col.length)<0):=fun h6=>hc ⟨h5, .inr h6⟩
        omega
      · omega
    · exact ih.2 k (by omega)
theorem idxI_get{α:Type}{p:α ->Bool}{xs:List α}(z:α)(h:0<=idxI p xs):(idxI p xs).toNat<xs.length/\ p (xs.getD (idxI p xs).toNat z)=true:=by
 unfold idxI at h ⊢;by_cases ha:xs.any p=true
 · rw [if_pos ha,Int.toNat_natCast];have h1:xs.findIdx p<xs.length:=List.findIdx_lt_length_of_exists (by simpa using ha);refine ⟨h1,?_⟩;rw [List.getD_eq_getElem?_getD,List.getElem?_eq_getElem h1];exact List.findIdx_getElem (w:=h1)
 · rw [if_neg ha] at h;omega
theorem idxI_nn{α:Type}{p:α ->Bool}{xs:List α}(z:α){k:Nat}(hk:k<xs.length)(hp:p (xs.getD k z)=true):0<=idxI p xs:=by
 unfold idxI;rw [if_pos (List.any_eq_true.2 ⟨xs.getD k z,XX hk,hp⟩)];omega
structure Ph (n : Nat) (rs : List Rw) (c : List Int) (W : Nat) (T : Tv) (bs : List Nat) : Prop where
  good : Good (colA n rs c) (Vok (rs.length + 2)) (rs.length + 2) rs.length (rhsQ rs) W T bs
  z : bs.getD rs.length 0 = n + rs.length + 1
  w : bs.getD (rs.length + 1) 0 = n + rs.length + 2
section
variable {n : Nat} {rs : List Rw} {c : List Int} {W : Nat} {T : Tv} {bs : List Nat}
theorem Ph.bas(h:Ph n rs c W T bs):Bas (colA n rs c) (Vok (rs.length+2)) (rs.length+2) bs:=h.good.view.bas
theorem Ph.small(h:Ph n rs c W T bs)(hW:n+rs.length<=W):∀d∈bs,d<W+(rs.length+2)+2:=fun d hd=>by
 obtain ⟨i,hi,rfl⟩:=List.getElem_of_mem hd
 rw [h.bas.len] at hi
 have e:bs[i]=bs.getD i 0:=by rw [List.getD_eq_getElem?_getD,List.getElem?_eq_getElem];rfl
 rw [e]
 by_cases h1:i<rs.length
 · have:=h.good.cov.bas i h1;omega
 · by_cases h2:i=rs.length
   · rw [h2,h.z];omega
   · rw [show i=rs.length+1 by omega,h.w];omega
theorem Ph.comp(h:Ph n rs c W T bs){x:Vec}(hx:Vok (rs.length+2) x)(j:Nat):Go.Det.den (colA n rs c) bs*x j=sm (fun k=>tt (colA n rs c) bs k x*colA n rs c (bs.getD k 0) j) (rs.length+2):=by
 have h1:=h.bas.cr x hx j;unfold Go.Det.den tt
 have e:sm (fun k=>(dD (colA n rs c) bs).sign*dT (colA n rs c) bs k x*colA n rs c (bs.getD k 0) j) (rs.length+2)=(dD (colA n rs c) bs).sign*sm (fun k=>dT (colA n rs c) bs k x*colA n rs c (bs.getD k 0) j) (rs.length+2):=by
  rw [<- Y3]
  exact Xl fun k _=>by grind
 rw [e,<- h1];grind
theorem colA_art_w:colA n rs c (n+rs.length) (rs.length+1)=1:=by
 rw [colA_art];show (if rs.length+1<rs.length then (-1:Int) else if rs.length+1=rs.length+1 then 1 else 0)=1;rw [if_neg (by omega),if_pos J]
theorem Ph.w_eq(h:Ph n rs c W T bs)(hW:W<=n+rs.length+1){x:Vec}(hx:Vok (rs.length+2) x):
  Go.Det.den (colA n rs c) bs*x (rs.length+1)=tt (colA n rs c) bs (rs.length+1) x+sm (fun k=>if bs.getD k 0=n+rs.length then tt (colA n rs c) bs k x else 0) rs.length:=by
 rw [h.comp hx];simp only [sm];rw [h.z,h.w,colA_z,colA_w]
 have e:sm (fun k=>tt (colA n rs c) bs k x*colA n rs c (bs.getD k 0) (rs.length+1)) rs.length=sm (fun k=>if bs.getD k 0=n+rs.length then tt (colA n rs c) bs k x else 0) rs.length:=Xl fun k hk=>by
  have hb:=h.good.cov.bas k hk;by_cases h1:bs.getD k 0=n+rs.length
  · rw [if_pos h1,h1,colA_art_w,Int.mul_one]
  · rw [if_neg h1]
    have:colA n rs c (bs.getD k 0) (rs.length+1)=0:=by
     by_cases h2:bs.getD k 0<n
     · rw [YX h2,if_neg (by omega),if_neg (by omega)]
     · obtain ⟨i,hi⟩:∃i,bs.getD k 0=n+i:=⟨bs.getD k 0 - n,by omega⟩;rw [hi,Ze (by omega)];exact if_neg (by omega)
    rw [this,Int.mul_zero]
 rw [e];have e1:Go.Det.unit rs.length (rs.length+1)=0:=if_neg (by omega);have e2:Go.Det.unit (rs.length+1) (rs.length+1)=1:=if_pos J;rw [e1,e2];omega
theorem sm_nonneg{f:Nat ->Int}:∀{m:Nat},(∀k,k<m ->0<=f k) ->0<=sm f m
 |0,_=>Int.le_refl _
 |m+1,h=>by simp only [sm];have:=sm_nonneg (m:=m) fun k hk=>h k (by omega);have:=h m (by omega);omega
theorem sm_zero_of{f:Nat ->Int}:∀{m:Nat},(∀k,k<m ->0<=f k) ->sm f m<=0 ->∀k,k<m ->f k=0
 |0,_,_,k,hk=>by omega
 |m+1,h,hs,k,hk=>by
  simp only [sm] at hs
  have h1:=sm_nonneg (m:=m) fun k hk=>h k (by omega)
  have h2:=h m (by omega)
  by_cases e:k=m
  · subst e;omega
  · exact sm_zero_of (m:=m) (fun k hk=>h k (by omega)) (by omega) k (by omega)
theorem Beg.ph(h:Beg n rs c T)(hL:LpOk n rs c)(hw:wrS T rs.length<0):Ph n rs c (n+rs.length) T (bs0 n rs.length):=by
 have hV:=h.view;have hl:=h.len
 have hcl:T.col.length=n:=by rw [h.col,Qn]
 have hn:=hL.nn;have hm:=hL.mm;refine ⟨⟨hV,⟨fun v hv=> ?_,fun j hj=> ?_,fun i hi=> ?_,fun j i hj hi=> ?_,fun j k hj hk hjk=> ?_⟩,fun i hi=> ?_,h.hl,by omega,by omega⟩,bs0_z n rs.length,bs0_w n rs.length⟩
 · by_cases h1:v<n
   · exact .inr ⟨v,by omega,by rw [h.col,rng_at h1,Nat.zero_add]⟩
   · exact .inl ⟨v - n,by omega,by rw [bs0_lo (by omega)];omega⟩
 · rw [hcl] at hj;rw [h.col,rng_at hj];omega
 · rw [bs0_lo hi];omega
 · rw [hcl] at hj;rw [h.col,rng_at hj,bs0_lo hi];omega
 · rw [hcl] at hj hk;rw [h.col,rng_at hj,rng_at hk];omega
 · rw [<- hV.rhs i (by omega)];exact wrS_none hw i hi
theorem Beg.ph1(h:Beg n rs c T)(hL:LpOk n rs c)(hw:0<=wrS T rs.length):
  Ph n rs c (n+rs.length+1) (pvt (insT T ((n+rs.length:Nat):Int)) (wrS T rs.length).toNat T.col.length) ((bs0 n rs.length).set (wrS T rs.length).toNat (n+rs.length))/\ Gd (insT T ((n+rs.length:Nat):Int)):=by
 have hV:=h.ins;have hV0:=h.view;have hS:=lp_sys hL;have hl:=h.len
 have hcl:T.col.length=n:=by rw [h.col,Qn]
 have hbl:T.bas.length=rs.length:=by rw [h.bas,Qn]
 have hn:=hL.nn;have hm:=hL.mm;have hwb:=wrS_bd T rs.length;have hwh:=wrS_hit hw;obtain ⟨w,hww⟩:∃w:Nat,wrS T rs.length=w:=⟨(wrS T rs.length).toNat,by omega⟩;rw [hww] at hwb hwh ⊢;simp only [Int.toNat_natCast] at hwh ⊢
 have hrl:(insT T ((n+rs.length:Nat):Int)).rows.length=rs.length+2:=by show (insP _ _ _ _).length=_;rw [insP_len];simp [hl]
 have hil:(insT T ((n+rs.length:Nat):Int)).col.length=n+1:=by show (T.col++ [_]).length=_;simp [hcl]
 have hcol:∀j,(insT T ((n+rs.length:Nat):Int)).col.getD j 0=if j<n then (j:Int) else if j=n then ((n+rs.length:Nat):Int) else 0:=fun j=>by
  show (T.col++ [_]).getD j 0=_;by_cases h1:j<n
  · rw [if_pos h1,List.getD_eq_getElem?_getD,List.getElem?_append_left (by omega),<- List.getD_eq_getElem?_getD,h.col,rng_at h1,Nat.zero_add]
  · rw [if_neg h1];by_cases h2:j=n
    · rw [if_pos h2,h2,<- hcl];simp [List.getD_eq_getElem?_getD]
    · rw [if_neg h2,getD_ge (by simp [hcl];omega)]
 have hhl:(insT T ((n+rs.length:Nat):Int)).hl.length=rs.length+2:=by show (T.hl++ [default]).length=_;rw [List.length_append,h.hl,hl];rfl
 have hart:((insT T ((n+rs.length:Nat):Int)).col.getD n 0).toNat=n+rs.length:=by rw [hcol,if_neg (by omega),if_pos J,Int.toNat_natCast]
 have hcov:Cov (n+rs.length+1) rs.length (insT T ((n+rs.length:Nat):Int)) (bs0 n rs.length):=by
  refine ⟨fun v hv=> ?_,fun j hj=> ?_,fun i hi=> ?_,fun j i hj hi=> ?_,fun j k hj hk hjk=> ?_⟩
  · by_cases h1:v<n
    · exact .inr ⟨v,by omega,by rw [hcol,if_pos h1]⟩
    · by_cases h2:v=n+rs.length
      · exact .inr ⟨n,by omega,by rw [hcol,if_neg (by omega),if_pos J,h2]⟩
      · exact .inl ⟨v - n,by omega,by rw [bs0_lo (by omega)];omega⟩
  · rw [hcol];split
    · omega
    · split <;>omega
  · rw [bs0_lo hi];omega
  · rw [hil] at hj;rw [hcol,bs0_lo hi];by_cases h1:j<n
    · rw [if_pos h1];omega
    · rw [if_neg h1,if_pos (by omega)];omega
  · rw [hil] at hj hk;rw [hcol,hcol];by_cases h1:j<n
    · rw [if_pos h1];by_cases h2:k<n
      · rw [if_pos h2];omega
      · rw [if_neg h2,if_pos (by omega)];omega
    · rw [if_neg h1,if_pos (by omega)];by_cases h2:k<n
      · rw [if_pos h2];omega
      · omega
 have a1:∀i,i<rs.length ->(insT T ((n+rs.length:Nat):Int)).at i n= -1:=fun i hi=>by
  rw [hV.num i (by omega) n (by omega),hart,bs0_tt (by omega) (Jx _),colA_art];simp only;rw [if_pos hi]
 have a2:∀i,i<rs.length ->(insT T ((n+rs.length:Nat):Int)).at i (n+1)=T.at i n:=fun i hi=>by
  have e1:=hV.rhs i (by omega);rw [hil] at e1;have e2:=hV0.rhs i (by omega);rw [hcl] at e2;rw [e1,e2]
 have hp:(insT T ((n+rs.length:Nat):Int)).at w n≠0:=by rw [a1 w (by omega)];decide
 have hPV:=hV.pvt hS.hq hS.hA (r:=w) (s:=n) (by omega) (by omega) hp;have hPC:=hcov.pvt hV (r:=w) (s:=n) (by omega) (by omega);rw [hart] at hPV hPC;rw [hcl] at hwh ⊢;refine ⟨⟨⟨hPV,hPC,fun i hi=> ?_,?_,by rw [Xf,hrl];omega,by rw [Zg,hil];omega⟩,?_,?_⟩,hV.gd hS (by rw [hhl,hrl]) (by omega) (by omega)⟩
 · rw [<- hPV.rhs i (by rw [Xf,hrl];omega),Zg,hil];rw [pvt_at (by omega) (by omega) (hV.row i (by omega)) (by omega) (by omega),if_neg (show ¬n+1=n by omega),if_neg (show ¬n+1=n by omega)];rw [a1 w (by omega),a1 i hi,a2 i hi,a2 w (by omega),if_pos (show (-1:Int)<0 by decide)]
   have hden:(insT T ((n+rs.length:Nat):Int)).den=1:=by show T.den=1;exact h.den
   rw [hden];have:=hwh.2 i hi;by_cases h1:i=w
   · rw [if_pos h1];omega
   · rw [if_neg h1,Int.tdiv_one];omega
 · rw [Xf,hrl];exact hhl
 · rw [getD_set' (by rw [bs0_len];omega),if_neg (by omega)];exact bs0_z n rs.length
 · rw [getD_set' (by rw [bs0_len];omega),if_neg (by omega)];exact bs0_w n rs.length
structure End1 (n : Nat) (rs : List Rw) (c : List Int) (T E : Tv) (bs : List Nat) : Prop where
  ph : Ph n rs c (n + rs.length + 1) E bs
  cover : ∀ v, v < n + rs.length + 1 → 0 ≤ tt (colA n rs c) bs (rs.length + 1) (colA n rs c v)
  rows : E.rows.length = rs.length + 2
  col : E.col.length = n + 1
theorem Beg.phase1(h:Beg n rs c T)(hL:LpOk n rs c)(hw:0<=wrS T rs.length):
  ∃E bs s k,RunOk (rs.length+1) E s k (pvt (insT T ((n+rs.length:Nat):Int)) (wrS T rs.length).toNat T.col.length)/\ End1 n rs c T E bs:=by
 have hP:=(h.ph1 hL hw).1;have hl:=h.len
 have hcl:T.col.length=n:=by rw [h.col,Qn]
 have hrl:(pvt (insT T ((n+rs.length:Nat):Int)) (wrS T rs.length).toNat T.col.length).rows.length=rs.length+2:=by
  rw [Xf];show (insP _ _ _ _).length=_;rw [insP_len];simp [hl]
 have hil:(pvt (insT T ((n+rs.length:Nat):Int)) (wrS T rs.length).toNat T.col.length).col.length=n+1:=by
  rw [Zg];show (T.col++ [_]).length=_;simp [hcl]
 obtain ⟨k,E,s,bs,hR,hG,hE,hr,hj⟩:=hP.good.ends (lp_sys hL) (g:=rs.length+1) (by omega) (by rw [hrl];omega) (hP.small (by omega));have hl2:=hR.lens;have hPh:Ph n rs c (n+rs.length+1) E bs:=⟨hG,by rw [hj _ (Nat.le_refl _)];exact hP.z,by rw [hj _ (by omega)];exact hP.w⟩;refine ⟨E,bs,s,k,hR,hPh,?_,by rw [hl2.1,hrl],by rw [hl2.2.2,hil]⟩;rcases hE with ⟨_,h1⟩|⟨e,_,he,h1,h2⟩
 · exact h1
 · exfalso;have hq:=hPh.w_eq (Nat.le_refl _) (Jx (n:=n) (rs:=rs) (c:=c) (E.col.getD e 0).toNat);have hd:=den_pos hPh.bas.ne;have hlt:=hG.cov.col e he;have hnn:=hG.view.colv e
   have hx:0<=colA n rs c (E.col.getD e 0).toNat (rs.length+1):=by
    by_cases h3:(E.col.getD e 0).toNat<n
    · rw [YX h3,if_neg (by omega),if_neg (by omega)];exact Int.le_refl _
    · by_cases h4:(E.col.getD e 0).toNat=n+rs.length
      · rw [h4,colA_art_w];decide
      · obtain ⟨i,hi⟩:∃i,(E.col.getD e 0).toNat=n+i:=⟨(E.col.getD e 0).toNat - n,by omega⟩;rw [hi,Ze (by omega)];show 0<=Go.Det.unit i _
        unfold Go.Det.unit;split <;>decide
   have h5:=Int.mul_nonneg (Int.le_of_lt hd) hx
   have h6:sm (fun k=>if bs.getD k 0=n+rs.length then tt (colA n rs c) bs k (colA n rs c (E.col.getD e 0).toNat) else 0) rs.length<=sm (fun _=>0) rs.length:=sm_le fun k hk=>by
    split
    · exact h2 k hk
    · exact Int.le_refl _
   rw [Z4 (f:=fun _=>0) fun _ _=>rfl] at h6;omega
end
theorem erase_getD{l:List Int}{c j:Nat}:(l.eraseIdx c).getD j 0=if j<c then l.getD j 0 else l.getD (j+1) 0:=by
 simp only [List.getD_eq_getElem?_getD,List.getElem?_eraseIdx]
 split <;>rfl
section
variable {n : Nat} {rs : List Rw} {c : List Int} {W : Nat} {T E : Tv} {bs : List Nat}
theorem Ph.row_ne(h:Ph n rs c (n+rs.length+1) E bs){r:Nat}(hr:r<rs.length)(hb:bs.getD r 0=n+rs.length):∃j,j<E.col.length/\ E.at r j≠0:=by
 refine Classical.byContradiction fun hno=> ?_
 have hz:∀j,j<E.col.length ->E.at r j=0:=fun j hj=>Classical.byContradiction fun h1=>hno ⟨j,hj,h1⟩
 have hV:=h.good.view;have hB:=h.bas
 have hrE:r<E.rows.length:=by have:=hV.rm;omega
 have hu:∀k,k<rs.length+2 ->tt (colA n rs c) bs r (Go.Det.unit k)=0:=fun k hk=>by
  by_cases h1:k<rs.length
  · rw [<- Ze (n:=n) (c:=c) h1];rcases h.good.cov.all (n+k) (by omega) with ⟨i,hi,he⟩|⟨j,hj,he⟩
    · rw [<- he];exact Yu hB.len (by omega) (by omega) (fun e=>by rw [e,hb] at he;omega)
    · have:=hV.num r hrE j hj;rw [hz j hj,he,Int.toNat_natCast] at this;exact this.symm
  · by_cases h2:k=rs.length
    · rw [h2,<- colA_z (n:=n) (c:=c),<- h.z];exact Yu hB.len (by omega) (by omega) (by omega)
    · rw [show k=rs.length+1 by omega,<- colA_w (n:=n) (c:=c),<- h.w];exact Yu hB.len (by omega) (by omega) (by omega)
 have e:colA n rs c (n+rs.length)=comb (colA n rs c (n+rs.length)) Go.Det.unit (rs.length+2):=by
  funext j
  unfold comb;by_cases hj:j<rs.length+2
  · rw [Yl hj fun k _ hk=>by simp [Go.Det.unit,Ne.symm hk]];simp [Go.Det.unit]
  · rw [Jx _ j (by omega),Z4 fun k hk=>by rw [show Go.Det.unit k j=0 from if_neg (by omega),Int.mul_zero]]
 have h3:tt (colA n rs c) bs r (colA n rs c (n+rs.length))=0:=by
  have e2:dT (colA n rs c) bs r (colA n rs c (n+rs.length))=sm (fun k=>colA n rs c (n+rs.length) k*dT (colA n rs c) bs r (Go.Det.unit k)) (rs.length+2):=by
   unfold dT
   conv=>lhs;rw [e]
   exact Y7 (by rw [Z6,hB.len];omega) _ _ _
  unfold tt;rw [e2,<- Y3]
  refine Z4 fun k hk=> ?_
  have:=hu k hk;unfold tt at this
  have:(dD (colA n rs c) bs).sign*(colA n rs c (n+rs.length) k*dT (colA n rs c) bs r (Go.Det.unit k))=colA n rs c (n+rs.length) k*((dD (colA n rs c) bs).sign*dT (colA n rs c) bs r (Go.Det.unit k)):=by grind
  rw [this,‹(dD (colA n rs c) bs).sign*dT (colA n rs c) bs r (Go.Det.unit k)=0›,Int.mul_zero]
 rw [<- hb,tt_own hB.len (by omega)] at h3;have:=den_pos hB.ne;omega
theorem Ph.swap(h:Ph n rs c W T bs)(hL:LpOk n rs c){r s:Nat}(hr:r<rs.length)(hs:s<T.col.length)(hp:T.at r s≠0)(h0:tt (colA n rs c) bs r (rhsQ rs)=0):Ph n rs c W (pvt T r s) (bs.set r (T.col.getD s 0).toNat):=by
 have hS:=lp_sys hL;have hV:=h.good.view;have hB:=h.bas
 have hrT:r<T.rows.length:=by have:=hV.rm;omega
 have hp' :=hp;rw [hV.num r hrT s hs] at hp';have hd:=den_pos hB.ne;refine ⟨⟨hV.pvt hS.hq hS.hA hr hs hp,h.good.cov.pvt hV hr hs,fun i hi=> ?_,by rw [Xf];exact h.good.hl,by rw [Xf];exact h.good.few,by rw [Zg];exact h.good.thin⟩,?_,?_⟩
 · have hsg:=hB.gsgn hp';by_cases hir:i=r
   · subst hir;unfold tt at h0 ⊢;rw [piv_r];rcases Int.mul_eq_zero.1 h0 with h1|h1
     · exact absurd h1 (by have:=sgn_sq hB.ne;intro h2;rw [h2] at this;simp at this)
     · rw [h1,Int.mul_zero];exact Int.le_refl _
   · have hg:=hB.gen (s:=(T.col.getD s 0).toNat) (show r<rs.length+2 by omega) (show i<rs.length+2 by omega) hir hS.hq;rw [h0,Int.zero_mul,Int.sub_zero] at hg;have hf:=h.good.feas i hi
     have e:Go.Det.den (colA n rs c) bs*tt (colA n rs c) (bs.set r (T.col.getD s 0).toNat) i (rhsQ rs)=(tt (colA n rs c) bs r (colA n rs c (T.col.getD s 0).toNat)).natAbs*tt (colA n rs c) bs i (rhsQ rs):=by
      unfold tt at hg hsg ⊢;rcases hsg with ⟨h1,h2⟩|⟨h1,h2⟩
      · rw [h1,hg];congr 1;omega
      · rw [h1,Int.neg_mul,Int.mul_neg,hg,<- Int.neg_mul];congr 1;omega
     have h3:0<=((tt (colA n rs c) bs r (colA n rs c (T.col.getD s 0).toNat)).natAbs:Int)*tt (colA n rs c) bs i (rhsQ rs):=Int.mul_nonneg (by omega) hf;rw [<- e] at h3;rcases (show tt (colA n rs c) (bs.set r (T.col.getD s 0).toNat) i (rhsQ rs)<0 \/0<=tt (colA n rs c) (bs.set r (T.col.getD s 0).toNat) i (rhsQ rs) by omega) with h4|h4
     · have:=Int.mul_neg_of_pos_of_neg hd h4;omega
     · exact h4
 · rw [getD_set' (by rw [hB.len];omega),if_neg (by omega)];exact h.z
 · rw [getD_set' (by rw [hB.len];omega),if_neg (by omega)];exact h.w
theorem Ph.cut(h:Ph n rs c (n+rs.length+1) T bs)(hrl:T.rows.length=rs.length+2)(hna:∀i,i<rs.length ->bs.getD i 0≠n+rs.length){cx:Nat}(hc:cx<T.col.length)(hce:T.col.getD cx 0=((n+rs.length:Nat):Int)):
  Ph n rs c (n+rs.length) {T with rows:=delP cx (T.rows.take (rs.length+1)) (rs.length+1),col:=T.col.eraseIdx cx,hl:=T.hl.take (rs.length+1)} bs:=by
 have hV:=h.good.view;have hC:=h.good.cov
 have hcl:(T.col.eraseIdx cx).length=T.col.length - 1:=by rw [List.length_eraseIdx,if_pos hc]
 have htl:(T.rows.take (rs.length+1)).length=rs.length+1:=by rw [List.length_take];omega
 have hrow:∀i,i<rs.length+1 ->(delP cx (T.rows.take (rs.length+1)) (rs.length+1)).getD i []=(T.rows.getD i []).eraseIdx cx:=fun i hi=>by
  unfold delP;rw [Zd _ _ _ (by omega),if_pos hi,List.getD_eq_getElem?_getD,List.getElem?_take,if_pos hi,<- List.getD_eq_getElem?_getD]
 have hdl:(delP cx (T.rows.take (rs.length+1)) (rs.length+1)).length=rs.length+1:=by rw [delP_len,htl]
 have pl:∀j,(T.col.eraseIdx cx).getD j 0=T.col.getD (if j<cx then j else j+1) 0:=fun j=>by rw [erase_getD];split <;>rfl
 refine ⟨⟨⟨hV.bas,hV.den,fun i hi j hj=> ?_,fun i hi=> ?_,hV.basl,hV.basv,fun j=> ?_,fun i hi=> ?_,by show _<=(delP _ _ _).length;omega,by show (delP _ _ _).length<=_;omega⟩,⟨fun v hv=> ?_,fun j hj=> ?_,fun i hi=> ?_,fun j i hj hi=> ?_,fun j k hj hk hjk=> ?_⟩,h.good.feas,?_,by show (delP _ _ _).length<=_;have:=h.good.few;omega,by show (T.col.eraseIdx cx).length<=_;have:=h.good.thin;omega⟩,h.z,h.w⟩
 · show ((delP cx (T.rows.take (rs.length+1)) (rs.length+1)).getD i []).getD j 0=tt _ _ _ (colA n rs c ((T.col.eraseIdx cx).getD j 0).toNat)
   have hi' :i<rs.length+1:=by rw [<- hdl];exact hi
   have hj' :j<T.col.length - 1:=by rw [<- hcl];exact hj
   rw [hrow i hi',pl,erase_getD];have:=hV.num i (by omega) (if j<cx then j else j+1) (by split <;>omega);rw [<- this];unfold Tv.at
   split <;>rfl
 · show ((delP cx (T.rows.take (rs.length+1)) (rs.length+1)).getD i []).getD (T.col.eraseIdx cx).length 0=_
   have hi' :i<rs.length+1:=by rw [<- hdl];exact hi
   rw [hrow i hi',hcl,erase_getD,if_neg (by omega),show T.col.length - 1+1=T.col.length by omega];exact hV.rhs i (by omega)
 · show 0<=(T.col.eraseIdx cx).getD j 0;rw [pl];exact hV.colv _
 · show ((delP cx (T.rows.take (rs.length+1)) (rs.length+1)).getD i []).length=(T.col.eraseIdx cx).length+1
   have hi' :i<rs.length+1:=by rw [<- hdl];exact hi
   have:=hV.row i (by omega);rw [hrow i hi',hcl,List.length_eraseIdx,if_pos (by omega)];omega
 · rcases hC.all v (by omega) with h1|⟨j,hj,he⟩
   · exact .inl h1
   · have hjc:j≠cx:=fun e=>by rw [e,hce] at he;omega
     by_cases h2:j<cx
     · exact .inr ⟨j,by show j<(T.col.eraseIdx cx).length;omega,by show (T.col.eraseIdx cx).getD j 0=_;rw [pl,if_pos h2];exact he⟩
     · exact .inr ⟨j - 1,by show _<(T.col.eraseIdx cx).length;omega,by show (T.col.eraseIdx cx).getD _ 0=_;rw [pl,if_neg (by omega),show j - 1+1=j by omega];exact he⟩
 · have hj' :j<T.col.length - 1:=by rw [<- hcl];exact hj
   show (T.col.eraseIdx cx).getD j 0<_;rw [pl];have h1:=hC.col (if j<cx then j else j+1) (by split <;>omega);have h2:=hC.inj (if j<cx then j else j+1) cx (by split <;>omega) hc (by split <;>omega);rw [hce] at h2;omega
 · have h1:=hC.bas i hi;have h2:=hna i hi;omega
 · have hj' :j<T.col.length - 1:=by rw [<- hcl];exact hj
   show (T.col.eraseIdx cx).getD j 0≠_;rw [pl];exact hC.dis _ i (by split <;>omega) hi
 · have hj' :j<T.col.length - 1:=by rw [<- hcl];exact hj
   have hk' :k<T.col.length - 1:=by rw [<- hcl];exact hk
   show (T.col.eraseIdx cx).getD j 0≠(T.col.eraseIdx cx).getD k 0;rw [pl,pl];exact hC.inj _ _ (by split <;>omega) (by split <;>omega) (by split <;>split <;>omega)
 · show (T.hl.take (rs.length+1)).length=(delP _ _ _).length;rw [hdl,List.length_take,h.good.hl];omega
inductive Start (n : Nat) (rs : List Rw) (c : List Int) (T E : Tv) : Prop where
  | keep (hw : wrS T rs.length < 0) (h : Ph n rs c (n + rs.length) T (bs0 n rs.length)) (hc : T.col.length = n)
  | none (bs : List Nat) (hw : 0 ≤ wrS T rs.length) (h : End1 n rs c T E bs) (hv : tt (colA n rs c) bs (rs.length + 1) (rhsQ rs) < 0) (ha : E.at (rs.length + 1) (n + 1) < 0)
  | some (bs : List Nat) (hw : 0 ≤ wrS T rs.length) (ha : ¬ E.at (rs.length + 1) (n + 1) < 0) (h : Ph n rs c (n + rs.length) (stE3 E rs.length n ((n + rs.length : Nat) : Int)) bs) (hc : (stE3 E rs.length n ((n + rs.length : Nat) : Int)).col.length = n) (hr : (stE3 E rs.length n ((n + rs.length : Nat) : Int)).rows.length = rs.length + 1)
theorem Beg.start(h:Beg n rs c T)(hL:LpOk n rs c):∃E,(0<=wrS T rs.length ->StartRun T ((n+rs.length:Nat):Int) E)/\ Start n rs c T E:=by
 have hcl:T.col.length=n:=by rw [h.col,Qn]
 have hbl:T.bas.length=rs.length:=by rw [h.bas,Qn]
 by_cases hw:wrS T rs.length<0
 · exact ⟨T,fun h1=>by omega, .keep hw (h.ph hL hw) hcl⟩
 have hw' :0<=wrS T rs.length:=by omega
 obtain ⟨E,bs,s,k,hR,hE⟩:=h.phase1 hL hw';have hP:=hE.ph;have hV:=hP.good.view;have hC:=hP.good.cov;have hB:=hP.bas
 have hval:E.at (rs.length+1) (n+1)=tt (colA n rs c) bs (rs.length+1) (rhsQ rs):=by rw [<- hE.col];exact hV.rhs _ (by rw [hE.rows];omega)
 have hebl:E.bas.length=rs.length:=hV.basl;by_cases hv:E.at (rs.length+1) (n+1)<0
 · refine ⟨E,fun _=>⟨by rw [hbl];exact hw',(h.ph1 hL hw').2,⟨s,k,by rw [hbl];exact hR⟩,?_,?_,?_⟩, .none bs hw' hE (by rw [<- hval];exact hv) hv⟩
   all_goals (intro h1;rw [hbl,hcl] at h1;exact absurd hv h1)
 have hq0:=hP.w_eq (Nat.le_refl _) (JW (rs:=rs));have hq1:rhsQ rs (rs.length+1)=0:=if_neg (by omega);rw [hq1,Int.mul_zero] at hq0
 have hz:=sm_zero_of (f:=fun k=>if bs.getD k 0=n+rs.length then tt (colA n rs c) bs k (rhsQ rs) else 0) (m:=rs.length) (fun k hk=>by
  show 0<=(if bs.getD k 0=n+rs.length then tt (colA n rs c) bs k (rhsQ rs) else 0);split
  · exact hP.good.feas k hk
  · exact Int.le_refl _) (by omega)
 have hr2:(0<=fIx E.bas ((n+rs.length:Nat):Int) ->0<=nzC E n ((n+rs.length:Nat):Int))/\ ∃bs2,Ph n rs c (n+rs.length+1) (stE2 E n ((n+rs.length:Nat):Int)) bs2/\ ∀i,i<rs.length ->bs2.getD i 0≠n+rs.length:=by
  by_cases hf:fIx E.bas ((n+rs.length:Nat):Int)<0
  · refine ⟨fun h1=>by omega,bs,by unfold stE2;rw [if_pos hf];exact hP,fun i hi he=> ?_⟩;have:0<=fIx E.bas ((n+rs.length:Nat):Int):=idxI_nn (k:=i) 0 (by omega) (by rw [hV.basv i hi,he];simp);omega
  · have hg:=idxI_get (p:=fun x=>decide (((n+rs.length:Nat):Int)=x)) (xs:=E.bas) 0 (show 0<=fIx E.bas ((n+rs.length:Nat):Int) by omega);obtain ⟨r,hr⟩:∃r:Nat,fIx E.bas ((n+rs.length:Nat):Int)=r:=⟨(fIx E.bas ((n+rs.length:Nat):Int)).toNat,by omega⟩;rw [show idxI (fun x=>decide (((n+rs.length:Nat):Int)=x)) E.bas=fIx E.bas ((n+rs.length:Nat):Int) from rfl,hr] at hg;simp only [Int.toNat_natCast,decide_eq_true_eq] at hg
    have hrm:r<rs.length:=by omega
    have hbr:bs.getD r 0=n+rs.length:=by have:=hV.basv r hrm;omega
    obtain ⟨j0,hj0,hj1⟩:=hP.row_ne hrm hbr;have hrl:=hV.row r (by rw [hE.rows];omega);rw [hE.col] at hrl
    have hnz:0<=nzC E n ((n+rs.length:Nat):Int):=by
     unfold nzC;rw [hr,Int.toNat_natCast]
     refine idxI_nn (k:=j0) 0 (by rw [List.length_take];have:=hE.col;omega) ?_
     have:((E.rows.getD r []).take (n+1)).getD j0 0=E.at r j0:=by
      rw [List.getD_eq_getElem?_getD,List.getElem?_take,if_pos (by have:=hE.col;omega),<- List.getD_eq_getElem?_getD]
     rw [this];exact decide_eq_true hj1
    refine ⟨fun _=>hnz,?_⟩;have hng:=idxI_get (p:=fun x=>decide (x≠0)) (xs:=(E.rows.getD (fIx E.bas ((n+rs.length:Nat):Int)).toNat []).take (n+1)) 0 hnz;rw [show idxI (fun x=>decide (x≠0)) ((E.rows.getD (fIx E.bas ((n+rs.length:Nat):Int)).toNat []).take (n+1))=nzC E n ((n+rs.length:Nat):Int) from rfl,hr] at hng;obtain ⟨s2,hs2⟩:∃s2:Nat,nzC E n ((n+rs.length:Nat):Int)=s2:=⟨(nzC E n ((n+rs.length:Nat):Int)).toNat,by omega⟩;rw [hs2] at hng;simp only [Int.toNat_natCast,decide_eq_true_eq,List.length_take] at hng
    have hs2n:s2<n+1:=by omega
    have hat:((E.rows.getD r []).take (n+1)).getD s2 0=E.at r s2:=by
     rw [List.getD_eq_getElem?_getD,List.getElem?_take,if_pos hs2n,<- List.getD_eq_getElem?_getD]
    rw [hat] at hng;have h0:(if bs.getD r 0=n+rs.length then tt (colA n rs c) bs r (rhsQ rs) else 0)=0:=hz r hrm;rw [if_pos hbr] at h0;have hsw:=hP.swap hL hrm (s:=s2) (by rw [hE.col];exact hs2n) hng.2 h0;refine ⟨_,by unfold stE2;rw [if_neg hf,hr,hs2,Int.toNat_natCast,Int.toNat_natCast];exact hsw,fun i hi he=> ?_⟩;rw [getD_set' (by rw [hB.len];omega)] at he;by_cases hir:r=i
    · rw [if_pos hir] at he;have:=hC.dis s2 r (by rw [hE.col];exact hs2n) hrm;have h5:=hV.colv s2;rw [hbr] at this;omega
    · rw [if_neg hir] at he;exact hB.ne (Yr (i:=r) (k:=i) (by rw [hB.len];omega) (by rw [hB.len];omega) (Ne.symm hir) (by rw [hbr,he]))
 obtain ⟨hnz,bs2,hP2,hna⟩:=hr2;have hV2:=hP2.good.view
 have e2r:(stE2 E n ((n+rs.length:Nat):Int)).rows.length=rs.length+2:=by
  unfold stE2;split
  · exact hE.rows
  · rw [Xf];exact hE.rows
 have e2c:(stE2 E n ((n+rs.length:Nat):Int)).col.length=n+1:=by
  unfold stE2;split
  · exact hE.col
  · rw [Zg];exact hE.col
 have hout:0<=fIx (stE2 E n ((n+rs.length:Nat):Int)).col ((n+rs.length:Nat):Int):=by
  rcases hP2.good.cov.all (n+rs.length) (by omega) with ⟨i,hi,he⟩|⟨j,hj,he⟩
  · exact absurd he (hna i hi)
  · exact idxI_nn (k:=j) 0 hj (by rw [he];simp)
 have hfit:Fit (stE2 E n ((n+rs.length:Nat):Int)):=⟨hP2.good.hl,hV2.row,by rw [hV2.basl];exact hV2.rm,hP2.good.few,hP2.good.thin⟩;refine ⟨E,fun _=>⟨by rw [hbl];exact hw',(h.ph1 hL hw').2,⟨s,k,by rw [hbl];exact hR⟩,fun _=>by rw [hcl];exact hnz,fun _=>by rw [hcl];exact hfit,fun _=>by rw [hcl];exact hout⟩,?_⟩;have hg:=idxI_get (p:=fun x=>decide (((n+rs.length:Nat):Int)=x)) (xs:=(stE2 E n ((n+rs.length:Nat):Int)).col) 0 hout;rw [show idxI (fun x=>decide (((n+rs.length:Nat):Int)=x)) (stE2 E n ((n+rs.length:Nat):Int)).col=fIx (stE2 E n ((n+rs.length:Nat):Int)).col ((n+rs.length:Nat):Int) from rfl] at hg;have hcut:=hP2.cut e2r hna hg.1 (of_decide_eq_true hg.2).symm
 refine .some bs2 hw' hv hcut ?_ ?_
 · show ((stE2 E n ((n+rs.length:Nat):Int)).col.eraseIdx _).length=n;rw [List.length_eraseIdx,if_pos hg.1,e2c];rfl
 · show (delP _ _ _).length=_;rw [delP_len,List.length_take,e2r];omega
end
theorem sm_app(f:Nat ->Int)(n:Nat):∀m,sm f (n+m)=sm f n+sm (fun k=>f (n+k)) m
 |0=>by simp [sm]
 |m+1=>by
  rw [show n+(m+1)=(n+m)+1 by omega]
  simp only [sm]
  rw [sm_app f n m];omega
theorem sm_neg(f:Nat ->Int)(m:Nat):sm (fun k=> -(f k)) m= -(sm f m):=by
 have:=Y3 (-1) f m;rw [<- Xl (f:=fun k=> -(f k)) (g:=fun k=> -1*f k) fun k _=>by omega] at this;omega
def ca (rs : List Rw) (i j : Nat) : Int := (rs.getD i rw0).cs.getD j 0
def cb (rs : List Rw) (i : Nat) : Int := (rs.getD i rw0).b
section
variable {n : Nat} {rs : List Rw} {c : List Int} {W : Nat} {T : Tv} {bs : List Nat}
def vx (n : Nat) (rs : List Rw) (c : List Int) (bs : List Nat) (x : Vec) (v : Nat) : Int := sm (fun k => if bs.getD k 0 = v then tt (colA n rs c) bs k x else 0) rs.length
theorem vx_row(h:Ph n rs c W T bs){k:Nat}(hk:k<rs.length)(x:Vec):vx n rs c bs x (bs.getD k 0)=tt (colA n rs c) bs k x:=by
 unfold vx;rw [Yl hk fun j hj hjk=> ?_,if_pos J]
 exact if_neg fun e=>h.bas.ne (Yr (i:=k) (k:=j) (by rw [h.bas.len];omega) (by rw [h.bas.len];omega) hjk e.symm)
theorem vx_out{v:Nat}(hv:∀k,k<rs.length ->bs.getD k 0≠v)(x:Vec):vx n rs c bs x v=0:=Z4 fun k hk=>if_neg (hv k hk)
theorem vx_nn(x:Vec)(hx:∀k,k<rs.length ->0<=tt (colA n rs c) bs k x)(v:Nat):0<=vx n rs c bs x v:=sm_nonneg fun k hk=>by
 split
 · exact hx k hk
 · exact Int.le_refl _
theorem Ph.rowsum(h:Ph n rs c (n+rs.length) T bs){x:Vec}(hx:Vok (rs.length+2) x){i:Nat}(hi:i<=rs.length):
  Go.Det.den (colA n rs c) bs*x i=sm (fun v=>colA n rs c v i*vx n rs c bs x v) (n+rs.length)+(if i=rs.length then tt (colA n rs c) bs rs.length x else 0):=by
 have e1:sm (fun v=>colA n rs c v i*vx n rs c bs x v) (n+rs.length)=sm (fun k=>tt (colA n rs c) bs k x*colA n rs c (bs.getD k 0) i) rs.length:=by
  have e2:∀v,colA n rs c v i*vx n rs c bs x v=sm (fun k=>colA n rs c v i*(if bs.getD k 0=v then tt (colA n rs c) bs k x else 0)) rs.length:=fun v=>by unfold vx;rw [Y3]
  rw [Xl (g:=fun v=>sm (fun k=>colA n rs c v i*(if bs.getD k 0=v then tt (colA n rs c) bs k x else 0)) rs.length) fun v _=>e2 v];rw [sm_swap (fun k v=>colA n rs c v i*(if bs.getD k 0=v then tt (colA n rs c) bs k x else 0)) rs.length (n+rs.length)]
  refine Xl fun k hk=> ?_
  have hb:=h.good.cov.bas k hk;rw [Yl hb fun v _ hv=>by rw [if_neg (Ne.symm hv),Int.mul_zero],if_pos J,Int.mul_comm]
 rw [h.comp hx,e1];simp only [sm];rw [h.z,h.w,colA_z,colA_w];have u2:Go.Det.unit (rs.length+1) i=0:=if_neg (by omega);rw [u2,Int.mul_zero,Int.add_zero];by_cases hi2:i=rs.length
 · rw [if_pos hi2,hi2,show Go.Det.unit rs.length rs.length=1 from if_pos J,Int.mul_one]
 · rw [if_neg hi2,show Go.Det.unit rs.length i=0 from if_neg hi2,Int.mul_zero]
theorem low_sum(i:Nat)(hi:i<rs.length)(y:Nat ->Int):sm (fun v=>colA n rs c v i*y v) (n+rs.length)=sm (fun j=>ca rs i j*y j) n+y (n+i):=by
 rw [sm_app]
 congr 1
 · exact Xl fun v hv=>by rw [YX hv,if_pos hi];rfl
 · rw [Yl hi fun k hk hki=>by rw [Ze hk,show Go.Det.unit k i=0 from if_neg (Ne.symm hki),Int.zero_mul],Ze hi,show Go.Det.unit i i=1 from if_pos J,Int.one_mul]
theorem goal_sum(y:Nat ->Int):sm (fun v=>colA n rs c v rs.length*y v) (n+rs.length)= -(sm (fun j=>c.getD j 0*y j) n):=by
 rw [sm_app,Z4 (f:=fun k=>colA n rs c (n+k) rs.length*y (n+k)) fun k hk=>by rw [Ze hk,show Go.Det.unit k rs.length=0 from if_neg (by omega),Int.zero_mul],Int.add_zero,<- sm_neg]
 exact Xl fun v hv=>by rw [YX hv,if_neg (by omega),if_pos J];grind
structure Feas (n : Nat) (rs : List Rw) (D : Int) (X : Nat → Int) : Prop where
  den : 0 < D
  nn : ∀ v, v < n → 0 ≤ X v
  row : ∀ i, i < rs.length → sm (fun j => ca rs i j * X j) n ≤ D * cb rs i
theorem Ph.point(h:Ph n rs c (n+rs.length) T bs):Feas n rs (Go.Det.den (colA n rs c) bs) (vx n rs c bs (rhsQ rs))/\ sm (fun j=>c.getD j 0*vx n rs c bs (rhsQ rs) j) n=tt (colA n rs c) bs rs.length (rhsQ rs):=by
 have hnn:=vx_nn (n:=n) (rs:=rs) (c:=c) (bs:=bs) (rhsQ rs) h.good.feas;refine ⟨⟨den_pos h.bas.ne,fun v _=>hnn v,fun i hi=> ?_⟩,?_⟩
 · have h1:=h.rowsum (JW (rs:=rs)) (i:=i) (by omega);rw [low_sum i hi,if_neg (by omega)] at h1;have h2:=hnn (n+i);have h3:rhsQ rs i=cb rs i:=if_pos hi;rw [h3] at h1;omega
 · have h1:=h.rowsum (JW (rs:=rs)) (i:=rs.length) (Nat.le_refl _);rw [goal_sum,if_pos J,show rhsQ rs rs.length=0 from if_neg (by omega),Int.mul_zero] at h1;omega
theorem Ph.func(h:Ph n rs c W T bs){g:Nat}(hg:g<rs.length+2){x:Vec}(hx:Vok (rs.length+2) x):tt (colA n rs c) bs g x=sm (fun k=>x k*tt (colA n rs c) bs g (Go.Det.unit k)) (rs.length+2):=by
 have e:x=comb x Go.Det.unit (rs.length+2):=by
  funext j
  unfold comb;by_cases hj:j<rs.length+2
  · rw [Yl hj fun k _ hk=>by simp [Go.Det.unit,Ne.symm hk]];simp [Go.Det.unit]
  · rw [hx j (by omega),Z4 fun k hk=>by rw [show Go.Det.unit k j=0 from if_neg (by omega),Int.mul_zero]]
 have e2:dT (colA n rs c) bs g x=sm (fun k=>x k*dT (colA n rs c) bs g (Go.Det.unit k)) (rs.length+2):=by
  unfold dT
  conv=>lhs;rw [e]
  exact Y7 (by rw [Z6,h.bas.len];omega) _ _ _
 unfold tt;rw [e2,<- Y3]
 exact Xl fun k _=>by grind
def yx (n : Nat) (rs : List Rw) (c : List Int) (bs : List Nat) (g i : Nat) : Int := tt (colA n rs c) bs g (colA n rs c (n + i))
theorem Ph.dual_sum(h:Ph n rs c W T bs){g:Nat}(hg:g=rs.length \/g=rs.length+1){x:Vec}(hx:Vok (rs.length+2) x)(hx1:x (rs.length+1)=0):
  tt (colA n rs c) bs g x=sm (fun i=>x i*yx n rs c bs g i) rs.length+(if g=rs.length then x rs.length*Go.Det.den (colA n rs c) bs else 0):=by
 rw [h.func (by omega) hx];simp only [sm];rw [hx1,Int.zero_mul,Int.add_zero]
 congr 1
 · exact Xl fun k hk=>by rw [<- Ze (n:=n) (c:=c) hk];rfl
 · rw [<- colA_z (n:=n) (c:=c),<- h.z];rcases hg with rfl|rfl
   · rw [if_pos J,tt_own h.bas.len (by omega)]
   · rw [if_neg (by omega),Yu h.bas.len (by omega) (by omega) (by omega),Int.mul_zero]
theorem colA_w0{v:Nat}(hv:v<n+rs.length):colA n rs c v (rs.length+1)=0:=by
 by_cases h1:v<n
 · rw [YX h1,if_neg (by omega),if_neg (by omega)]
 · obtain ⟨i,rfl⟩:∃i,v=n+i:=⟨v - n,by omega⟩;rw [Ze (by omega)];exact if_neg (by omega)
structure Dual (n : Nat) (rs : List Rw) (c : List Int) (D : Int) (Y : Nat → Int) : Prop where
  den : 0 < D
  nn : ∀ i, i < rs.length → 0 ≤ Y i
  col : ∀ j, j < n → D * c.getD j 0 ≤ sm (fun i => ca rs i j * Y i) rs.length
theorem Ph.dual(h:Ph n rs c W T bs)(hc:∀v,v<n+rs.length ->0<=tt (colA n rs c) bs rs.length (colA n rs c v)):
  Dual n rs c (Go.Det.den (colA n rs c) bs) (yx n rs c bs rs.length)/\ sm (fun i=>cb rs i*yx n rs c bs rs.length i) rs.length=tt (colA n rs c) bs rs.length (rhsQ rs):=by
 refine ⟨⟨den_pos h.bas.ne,fun i hi=>hc (n+i) (by omega),fun j hj=> ?_⟩,?_⟩
 · have h1:=h.dual_sum (.inl J) (Jx (n:=n) (rs:=rs) (c:=c) j) (colA_w0 (by omega));have h2:=hc j (by omega);rw [h1,if_pos J,YX hj,if_neg (by omega),if_pos J] at h2
   have e:sm (fun i=>colA n rs c j i*yx n rs c bs rs.length i) rs.length=sm (fun i=>ca rs i j*yx n rs c bs rs.length i) rs.length:=Xl fun i hi=>by rw [YX hj,if_pos hi];rfl
   rw [e] at h2
   have: -c.getD j 0*Go.Det.den (colA n rs c) bs= -(Go.Det.den (colA n rs c) bs*c.getD j 0):=by grind
   omega
 · have h1:=h.dual_sum (.inl J) (JW (rs:=rs)) (show rhsQ rs (rs.length+1)=0 from if_neg (by omega));rw [h1,if_pos J,show rhsQ rs rs.length=0 from if_neg (by omega),Int.zero_mul,Int.add_zero]
   exact Xl fun i hi=>by rw [show rhsQ rs i=cb rs i from if_pos hi]
structure Refu (n : Nat) (rs : List Rw) (D : Int) (Y : Nat → Int) : Prop where
  den : 0 < D
  nn : ∀ i, i < rs.length → 0 ≤ Y i
  col : ∀ j, j < n → 0 ≤ sm (fun i => ca rs i j * Y i) rs.length
  neg : sm (fun i => cb rs i * Y i) rs.length < 0
theorem End1.refu{E:Tv}(h:End1 n rs c T E bs)(hv:tt (colA n rs c) bs (rs.length+1) (rhsQ rs)<0):Refu n rs (Go.Det.den (colA n rs c) bs) (yx n rs c bs (rs.length+1)):=by
 refine ⟨den_pos h.ph.bas.ne,fun i hi=>h.cover (n+i) (by omega),fun j hj=> ?_,?_⟩
 · have h1:=h.ph.dual_sum (.inr J) (Jx (n:=n) (rs:=rs) (c:=c) j) (colA_w0 (by omega));have h2:=h.cover j (by omega);rw [h1,if_neg (by omega),Int.add_zero] at h2;rw [Xl (g:=fun i=>ca rs i j*yx n rs c bs (rs.length+1) i) fun i hi=>by rw [YX hj,if_pos hi];rfl] at h2;exact h2
 · have h1:=h.ph.dual_sum (.inr J) (JW (rs:=rs)) (show rhsQ rs (rs.length+1)=0 from if_neg (by omega));rw [if_neg (by omega),Int.add_zero] at h1;rw [h1,Xl (g:=fun i=>cb rs i*yx n rs c bs (rs.length+1) i) fun i hi=>by rw [show rhsQ rs i=cb rs i from if_pos hi]] at hv;exact hv
structure Ray (n : Nat) (rs : List Rw) (c : List Int) (D : Int) (Z : Nat → Int) : Prop where
  den : 0 < D
  nn : ∀ v, v < n → 0 ≤ Z v
  row : ∀ i, i < rs.length → sm (fun j => ca rs i j * Z j) n ≤ 0
  goal : 0 < sm (fun j => c.getD j 0 * Z j) n
def zx (n : Nat) (rs : List Rw) (c : List Int) (bs : List Nat) (s v : Nat) : Int := (if v = s then Go.Det.den (colA n rs c) bs else 0) - vx n rs c bs (colA n rs c s) v
theorem Ph.ray(h:Ph n rs c (n+rs.length) T bs){s:Nat}(hs:s<n+rs.length)(hb:∀k,k<rs.length ->bs.getD k 0≠s)(hg:tt (colA n rs c) bs rs.length (colA n rs c s)<0)(hl:∀k,k<rs.length ->tt (colA n rs c) bs k (colA n rs c s)<=0):
  Ray n rs c (Go.Det.den (colA n rs c) bs) (zx n rs c bs s):=by
 have hd:=den_pos h.bas.ne
 have hv0:∀v,vx n rs c bs (colA n rs c s) v<=0:=fun v=>by
  have:sm (fun k=>if bs.getD k 0=v then tt (colA n rs c) bs k (colA n rs c s) else 0) rs.length<=sm (fun _=>0) rs.length:=sm_le fun k hk=>by
   split
   · exact hl k hk
   · exact Int.le_refl _
  rw [Z4 (f:=fun _=>0) fun _ _=>rfl] at this;exact this
 have hnn:∀v,0<=zx n rs c bs s v:=fun v=>by
  unfold zx;have:=hv0 v
  split <;>omega
 have hsum:∀i,sm (fun v=>colA n rs c v i*zx n rs c bs s v) (n+rs.length)=Go.Det.den (colA n rs c) bs*colA n rs c s i - sm (fun v=>colA n rs c v i*vx n rs c bs (colA n rs c s) v) (n+rs.length):=fun i=>by
  have e:sm (fun v=>colA n rs c v i*zx n rs c bs s v) (n+rs.length)=sm (fun v=>(if v=s then colA n rs c v i*Go.Det.den (colA n rs c) bs else 0)+(-1)*(colA n rs c v i*vx n rs c bs (colA n rs c s) v)) (n+rs.length):=Xl fun v _=>by
   unfold zx
   split <;>grind
  rw [e,sm_add,Y3,Yl hs fun v _ hv=>if_neg hv,if_pos J,Int.mul_comm];omega
 refine ⟨hd,fun v _=>hnn v,fun i hi=> ?_,?_⟩
 · have h1:=h.rowsum (Jx (n:=n) (rs:=rs) (c:=c) s) (i:=i) (by omega);rw [if_neg (by omega),Int.add_zero] at h1;have h2:=hsum i;rw [h1,Int.sub_self,low_sum i hi] at h2;have:=hnn (n+i);omega
 · have h1:=h.rowsum (Jx (n:=n) (rs:=rs) (c:=c) s) (i:=rs.length) (Nat.le_refl _);rw [if_pos J] at h1;have h2:=hsum rs.length;rw [goal_sum] at h2;omega
theorem Ph.pt_at(h:Ph n rs c (n+rs.length) T bs){v:Nat}(hv:v<n):(ptS T n T.bas.length).getD v 0=shq (vx n rs c bs (rhsQ rs) v) (Go.Det.den (colA n rs c) bs):=by
 have hV:=h.good.view;rw [hV.basl]
 have key:∀q,q<=rs.length ->(ptS T n q).getD v 0=shq (sm (fun k=>if bs.getD k 0=v then tt (colA n rs c) bs k (rhsQ rs) else 0) q) (Go.Det.den (colA n rs c) bs):=by
  intro q hq
  induction q with
  |zero=>simp only [ptS,sm,Ys];simp [List.getD_eq_getElem?_getD,List.getElem?_replicate,hv]
  |succ q ih=>
   have ih:=ih (by omega);have hbq:=hV.basv q (by omega);have hl:=ptS_len T n q;simp only [ptS,sm];by_cases h1:bs.getD q 0=v
   · rw [if_pos (by rw [hbq,h1];omega),hbq,h1,Int.toNat_natCast,Z2 (by omega),if_pos J,if_pos J,hV.den];rw [Z4 fun k hk=>if_neg fun e=>h.bas.ne (Yr (i:=q) (k:=k) (by rw [h.bas.len];omega) (by rw [h.bas.len];omega) (by omega) (by rw [h1,e]))];rw [Int.zero_add,hV.rhs q (by have:=hV.rm;omega)]
   · rw [if_neg h1,Int.add_zero,<- ih];split
     · rw [hbq,Int.toNat_natCast,Z2 (by rw [hl];omega),if_neg h1]
     · rfl
 exact key rs.length (Nat.le_refl _)
theorem Ph.du_at(h:Ph n rs c W T bs){g i:Nat}(hW:n+rs.length<=W)(hg:rs.length<=g)(hgT:g<T.rows.length)(hi:i<rs.length):(duS T n rs.length g T.col.length).getD i 0=shq (yx n rs c bs g i) (Go.Det.den (colA n rs c) bs):=by
 have hV:=h.good.view;have hC:=h.good.cov;have hl:=duS_len T n rs.length g
 have hgM:g<rs.length+2:=by have:=hV.rM;omega
 have none:∀q,q<=T.col.length ->(∀j,j<q ->T.col.getD j 0≠((n+i:Nat):Int)) ->(duS T n rs.length g q).getD i 0=0:=by
  intro q hq hn
  induction q with
  |zero=>simp only [duS];simp [List.getD_eq_getElem?_getD,List.getElem?_replicate,hi]
  |succ q ih=>
   have ih:=ih (by omega) (fun j hj=>hn j (by omega));simp only [duS];split
   · rw [Z2 (by rw [hl];omega),if_neg (by have:=hn q (by omega);omega)];exact ih
   · exact ih
 rcases hC.all (n+i) (by omega) with ⟨k,hk,he⟩|⟨j,hj,he⟩
 · have hy:yx n rs c bs g i=0:=by
    unfold yx;rw [<- he];exact Yu h.bas.len hgM (by omega) (by omega)
   rw [hy,Ys];refine none _ (Nat.le_refl _) (fun j hj e=> ?_);have:=hC.dis j k hj hk;omega
 · have hy:yx n rs c bs g i=T.at g j:=by
    rw [hV.num g hgT j hj,he,Int.toNat_natCast];rfl
   have key:∀q,q<=T.col.length ->j<q ->(duS T n rs.length g q).getD i 0=shq (T.at g j) T.den:=by
    intro q hq hjq
    induction q with
    |zero=>omega
    |succ q ih=>
     simp only [duS];by_cases h1:j=q
     · subst h1;rw [if_pos (by omega),Z2 (by rw [hl];omega),if_pos (by omega)]
     · have ih:=ih (by omega) (by omega);split
       · rw [Z2 (by rw [hl];omega),if_neg (by have:=hC.inj j q hj (by omega) h1;omega)];exact ih
       · exact ih
   rw [key _ (Nat.le_refl _) hj,hy,hV.den]
theorem Ph.ra_at(h:Ph n rs c (n+rs.length) T bs){e s v:Nat}(he:e<T.col.length)(hs:T.col.getD e 0=(s:Int))(hv:v<n):(raS T n e T.bas.length).getD v 0=shq (zx n rs c bs s v) (Go.Det.den (colA n rs c) bs):=by
 have hV:=h.good.view;have hC:=h.good.cov;rw [hV.basl]
 have hnb:∀k,k<rs.length ->bs.getD k 0≠s:=fun k hk e2=>by have:=hC.dis e k he hk;omega
 have key:∀q,q<=rs.length ->(raS T n e q).getD v 0=shq ((if v=s then Go.Det.den (colA n rs c) bs else 0) - sm (fun k=>if bs.getD k 0=v then tt (colA n rs c) bs k (colA n rs c s) else 0) q) (Go.Det.den (colA n rs c) bs):=by
  intro q hq
  induction q with
  |zero=>
   simp only [raS,sm,Int.sub_zero];rw [hs];by_cases h1:v=s
   · subst h1;rw [if_pos (by omega),Int.toNat_natCast,Z2 (by simp;omega),if_pos J,if_pos J,hV.den]
   · rw [if_neg h1,Ys];split
     · rw [Int.toNat_natCast,Z2 (by simp;omega),if_neg (Ne.symm h1)];simp [List.getD_eq_getElem?_getD,List.getElem?_replicate,hv]
     · simp [List.getD_eq_getElem?_getD,List.getElem?_replicate,hv]
  |succ q ih=>
   have ih:=ih (by omega);have hbq:=hV.basv q (by omega);have hl:=raS_len T n e q;simp only [raS,sm];by_cases h1:bs.getD q 0=v
   · have hvs:v≠s:=fun e2=>hnb q (by omega) (by rw [h1,e2])
     rw [if_pos (by rw [hbq,h1];omega),hbq,h1,Int.toNat_natCast,Z2 (by omega),if_pos J,if_pos J,if_neg hvs,hV.den];rw [Z4 fun k hk=>if_neg fun e2=>h.bas.ne (Yr (i:=q) (k:=k) (by rw [h.bas.len];omega) (by rw [h.bas.len];omega) (by omega) (by rw [h1,e2]))];rw [hV.num q (by have:=hV.rm;omega) e he,hs,Int.toNat_natCast]
     congr 1;omega
   · rw [if_neg h1,Int.add_zero,<- ih];split
     · rw [hbq,Int.toNat_natCast,Z2 (by rw [hl];omega),if_neg h1]
     · rfl
 exact key rs.length (Nat.le_refl _)
end
end Go.Proofs.YtfimckpnnbibcaaGreat
namespace Go.Own
def seqR : Code → Code
  | .seq _ b => b
  | c => c
def bodyOf (f : Func) : Code := match f.body with
  | some c => c
  | none => .skip
end Go.Own
namespace Go.Proofs.YtfimckpnnbibcaaGreat
open Go.Own Go.Limbs Go.Proofs.Tryz
attribute [local irreducible] St Ops Go.Own.Fin Ok OkM
theorem ints_flat(xs:List Int):(xs.map fun x=>[intC x]).flatten=ints xs:=by
 induction xs with
 |nil=>rfl
 |cons x xs ih=>
  have e:ints (x::xs)=intC x::ints xs:=rfl;rw [e,<- ih];rfl
theorem getD_take'{α:Type}{l:List α}{i q:Nat}{d:α}(h:i<q):(l.take q).getD i d=l.getD i d:=by
 simp [List.getD_eq_getElem?_getD,List.getElem?_take,h]
theorem fIx_bd(xs:List Int)(v:Int): -1<=fIx xs v/\ fIx xs v<xs.length:=idxI_bd _ _
theorem nzC_bd{E:Tv}{last:Nat}{art:Int}: -1<=nzC E last art/\ nzC E last art<(last+1:Nat):=by
 have:=idxI_bd (fun x=>decide (x≠0)) ((E.rows.getD (fIx E.bas art).toNat []).take (last+1));unfold nzC;rw [List.length_take] at this;omega
theorem stE2_lens(E:Tv)(last:Nat)(art:Int):(stE2 E last art).rows.length=E.rows.length/\ (stE2 E last art).bas.length=E.bas.length/\ (stE2 E last art).col.length=E.col.length:=by
 unfold stE2;split
 · exact ⟨rfl,rfl,rfl⟩
 · exact ⟨Xf _ _ _,pvt_bas _ _ _,Zg _ _ _⟩
theorem set3_B{e0 e1 e2 e3 e3' :Ent}{Lr:BL}:∀j,bget ((0,e0)::(1,e1)::(2,e2)::(3,e3')::Lr) j=bget ((3,e3')::bdel ((0,e0)::(1,e1)::(2,e2)::(3,e3)::Lr) 3) j:=fun j=>by
 by_cases h3:3=j
 · subst h3;rw [QU];rfl
 · rw [QX _ _ h3,XU _ (Ne.symm h3)]
   match j,h3 with
   |0,_=>rfl
   |1,_=>rfl
   |2,_=>rfl
   |3,h=>exact absurd rfl h
   |j+4,_=>rfl
theorem start_tail(T E E2:Tv)(art:Int)(g1 c1 g3 c3:Nat)(hlx:List Value)(S:BSet)(w:World)(ρ0:Nat ->Value)(hbor:∀gb,(lentM prog 220 S w (tabB T) [0] ρ0).bor gb ->S gb)
  (hout:stOut T E art=stE3 E T.bas.length T.col.length art) (hres:stRes T E=true) (hE3d:stE3 E T.bas.length T.col.length art={E2 with rows:=delP (fIx E2.col art).toNat (E2.rows.take (T.bas.length+1)) (T.bas.length+1),col:=E2.col.eraseIdx (fIx E2.col art).toNat,hl:=E2.hl.take (T.bas.length+1)})
  (hRo:0<=fIx E2.col art) (hr2:∀i,i<T.bas.length+2 ->(E2.rows.getD i []).length=T.col.length+2) (hn2:E2.rows.length=T.bas.length+2) (hc2:E2.col.length=T.col.length+1)
  (hhx:hlx.length=T.bas.length+2) (hlen:T.hl.length=T.bas.length+1) (hc1:T.hl.length+1<=c1) (hc3:T.col.length+1<=c3) (hw1:T.bas.length<=90) (hw2:T.col.length<=90):
  St (lentM prog 220 S w (tabB T) [0] ρ0) [(0, .own 0),(1, .ct (intC art)),(5, .ct (intC T.bas.length)),(6, .ct (intC T.col.length))]
   ((0, .box 182 [.ex (kh g1 0 (T.hl.length+1) c1), .ex T.hB, .ex (kh g3 0 (T.col.length+1) c3),boolC (decide (E2.den<0)),natC E2.den.natAbs])::(1, .rowx (kh g1 0 (T.hl.length+1) c1) 179 1 (hlx.map CT.ex))::(2, .rowx T.hB 3 1 (ints E2.bas))::(3, .rowx (kh g3 0 (T.col.length+1) c3) 3 1 (ints E2.col))::linesB 10 hlx E2.rows)
   (seqR (seqR (seqR (seqR (seqR (seqR (seqR (seqR (seqR (seqR (seqR (seqR (seqR (bodyOf Tryz.f91))))))))))))))
   (bodyPost prog Tryz.f91 (postM S w ρ0 (tabB T) [0] (fun H:Tv=>H.hl.length=(stOut T E art).rows.length) (fun _=> .ct (boolC (stRes T E))) (fun H=>tabB ((stOut T E art).wh H)))):=by
 have bC:=fIx_bd E2.col art;have hIc:Ok prog 148 [intsC E2.col,intC art] (intC (fIx E2.col art)):=Index_ints E2.col art (by omega);obtain ⟨cx,hcx⟩:∃cx:Nat,fIx E2.col art=cx:=⟨(fIx E2.col art).toNat,by omega⟩;rw [hcx] at hIc bC;rw [hcx,Int.toNat_natCast] at hE3d;refine St.den (Qj 7 J (Ops.callRO 3 (gT J) hIc J J (fun a ρ w hI=> ?_) J J ?_))
 · have h1:=hI.readX (i:=3) (el:=3) (n:=1) (v:=kh g3 0 (T.col.length+1) c3) (es:=E2.col.map fun x=>[intC x]) (by rw [ints_flat];rfl) (by simp) (by decide) hbor;have h2:a.eval (.tmp 174)=kh g3 0 (T.col.length+1) c3:=hI.evx J;exact ⟨by rw [h2];exact h1,hI.evx J,trivial⟩
 refine QZ 12 J (by omega) ?_;refine Jy (T.bas.length+1) J J J (by omega) sMat (by omega) J ?_;refine Ops.shrink 1 (T.bas.length+1) J (by simp [hhx,hlen]) (by decide) (by omega) ?_;refine QZ 15 J (by omega) ?_;have hdc:=(Delete_ints g3 (T.col.length+1) c3 E2.col cx (by omega) (by omega) hc3 (by omega)).nm 3 (fun _ _=> .inl ⟨_,rfl⟩);refine Ops.call1 3 (gT J) hdc J J J hbor J (fun p hp=> ?_) (fun q j hq=> ?_) (fun _ _=> ?_)
 · obtain ⟨k,hk,rfl⟩:=List.mem_map.1 hp
   obtain rfl:k=0:=by simpa using hk
   exact ⟨by simp,rfl⟩
 · rcases hq with hq|⟨o,hq⟩ <;>simp [Sl.ren] at hq
 refine Ops.keep [(0, .own 0),(5, .ct (intC T.bas.length)),(16, .ct (intC cx)),(187, .own 0),(195, .ct (.ex (kh g3 0 (T.col.length+1 - 1) c3)))] ⟨rfl,rfl,rfl,rfl,rfl,trivial⟩ ?_
 have htk:(hlx.map CT.ex).take ((T.bas.length+1)*1)=(hlx.take (T.bas.length+1)).map CT.ex:=by rw [Nat.mul_one,List.map_take]
 refine Ops.reB (B' :=(0, .box 182 [.ex (kh g1 0 (T.bas.length+1) c1), .ex T.hB, .ex (kh g3 0 (T.col.length+1) c3),boolC (decide (E2.den<0)),natC E2.den.natAbs])::(1, .rowx (kh g1 0 (T.bas.length+1) c1) 179 1 ((hlx.take (T.bas.length+1)).map CT.ex))::(2, .rowx T.hB 3 1 (ints E2.bas))::(3, .rowx (kh g3 0 (T.col.length+1 - 1) c3) 3 1 (ints (E2.col.eraseIdx cx)))::linesB 10 hlx E2.rows) (fun j=>by rw [<- htk];exact set3_B j) ?_;refine Qq 12 J (ZU 1 (T.bas.length+1) J J J (by decide) (by simp [hhx]) sMat.und J ?_);refine Qq 4 J ?_
 have hyt:(hlx.take (T.bas.length+1)).length=T.bas.length+1:=by rw [List.length_take];omega
 have hrt:(E2.rows.take (T.bas.length+1)).length=T.bas.length+1:=by rw [List.length_take];omega
 refine QY (α:=Nat × List Value) (fun x=>x.1<=T.bas.length+1/\ x.2.length=T.bas.length+1)
  (fun x=>[(0, .own 0),(5, .ct (intC T.bas.length)),(16, .ct (intC cx)),(201, .ct (.ex (kh g1 0 (T.bas.length+1) c1))),(202, .ct (intC ((T.bas.length+1:Nat):Int))),(203, .ct (intC x.1))])
  (fun x=>(0, .box 182 [.ex (kh g1 0 (T.bas.length+1) c1), .ex T.hB, .ex (kh g3 0 T.col.length c3),boolC (decide (E2.den<0)),natC E2.den.natAbs])::(1, .rowx (kh g1 0 (T.bas.length+1) c1) 179 1 (x.2.map CT.ex))::(2, .rowx T.hB 3 1 (ints E2.bas))::(3, .rowx (kh g3 0 T.col.length c3) 3 1 (ints (E2.col.eraseIdx cx)))::linesB 10 x.2 (delP cx (E2.rows.take (T.bas.length+1)) x.1))
  (fun x=>T.bas.length+1 - x.1) (0,hlx.take (T.bas.length+1)) ⟨Nat.zero_le _,hyt⟩ (by exact Q1 (T.bas.length+1+10) (Jv (by dsimp only;rw [delP_zero];exact drop_B (by omega) (by omega)) ⟨rfl,rfl,rfl,rfl,rfl,rfl,trivial⟩)) ?_
 rintro ⟨i,hly⟩ ⟨hi,hhy⟩
 dsimp only at hi hhy ⊢;have hdl2:=delP_len cx (E2.rows.take (T.bas.length+1)) i;rw [hrt] at hdl2;refine Qj 6 J ?_;refine Qy J (fun h7=> ?_) (fun h7=> ?_)
 · have ki:(i:Int).toNat*1=i:=by omega
   have hi2:i<T.bas.length+1:=by omega
   have hat:=delP_at cx (E2.rows.take (T.bas.length+1)) i (by omega);have hset:=delP_set cx (E2.rows.take (T.bas.length+1)) i (by omega);rw [getD_take' hi2] at hat hset;have hln:=hr2 i (by omega);generalize hline:E2.rows.getD i []=line at*;have hlg:=Qs (k:=10) (hl:=hly) (zs:=delP cx (E2.rows.take (T.bas.length+1)) i) (i:=i) (by omega) (by omega);rw [hat] at hlg;generalize hcur:delP cx (E2.rows.take (T.bas.length+1)) i=cur at*;refine Qj 7 J (Q5 1 (T.bas.length+1) J J J (by simp [hhy]) J sMat (by omega) (by omega) J ?_);rw [ki]
   refine QK J J J J (Yw (by omega)) lWhs J ?_;refine Ops.hand (i+10) (T.col.length+2) (by exact hlg) (by rw [XV,hln]) (by omega) (by decide) (fun gb cc hh hcc hccm=> ?_);rw [hh] at hlg;rw [hh];refine Qq 4 J ?_;have hdl:=(Delete_whs gb (T.col.length+2) cc line cx (by omega) (by omega) hcc (by omega)).nm (i+10) (fun _ _=> .inl ⟨_,rfl⟩);refine Yx mixed [9,11] 0xa0a0a0806b0a4369a0a0806b0a69430807060504020100 J (by kernel_rfl) (fun K hK=> ?_)
   refine (fun (cont:Go.Own.Fin _ [(0, .own 0),(5, .ct (intC T.bas.length)),(16, .ct (intC cx)),(201, .ct (.ex (kh g1 0 (T.bas.length+1) c1))),(202, .ct (intC ((T.bas.length+1:Nat):Int))),(203, .ct (intC i)),(17, .ct (intC i))]
    (bset ((i+10, .rowx (kh gb 0 (T.col.length+2 - 1) cc) 178 2 (whs (line.eraseIdx cx)))::bdel ((0, .box 182 [.ex (kh g1 0 (T.bas.length+1) c1), .ex T.hB, .ex (kh g3 0 T.col.length c3),boolC (decide (E2.den<0)),natC E2.den.natAbs])::(1, .rowx (kh g1 0 (T.bas.length+1) c1) 179 1 (hly.map CT.ex))::(2, .rowx T.hB 3 1 (ints E2.bas))::(3, .rowx (kh g3 0 T.col.length c3) 3 1 (ints (E2.col.eraseIdx cx)))::linesB 10 hly cur) (i+10)) 1 (.rowx (kh g1 0 (T.bas.length+1) c1) 179 1 ((hly.map CT.ex).set i (.ex (kh gb 0 (T.col.length+2 - 1) cc))))) K)=> ?_) (hK _ _ ?_)
   rotate_left
   · clear hK K;refine Fin.Ro 6 J (by omega) ?_
     refine Qk (i+1,hly.set i (kh gb 0 (T.col.length+2 - 1) cc)) (by dsimp only;omega) ⟨by dsimp only;omega,by dsimp only;rw [List.length_set];exact hhy⟩ (by exact (Jv (by
      dsimp only
      rw [<- hset,List.map_set];exact upd_B (by omega) (by omega)) ⟨rfl,rfl,rfl,rfl,rfl,by simp only [Int.natCast_add];rfl,trivial⟩))
   clear hK;refine Fin.qRo 8 J (by omega) ?_;refine Ql ?_ ?_
   · refine Q2 2 J (YJ ?_);refine Ops.call1 (i+10) (gT J) hdl J J J hbor (by exact hlg) (fun p hp=> ?_) (fun q j hq=> ?_) (fun _ _=> ?_);rotate_left;rotate_left
     · refine Qz (X7 (Q5 1 (T.bas.length+1) J J J (by simp [hhy]) J sMat (by omega) (by omega) J ?_));rw [ki];refine Qz (Q0 (Qa J J J J J zWhs (by simp [Ent.cs,hhy];omega) (Qz ?_)) Qu);exact Qb (ZW cont ⟨rfl,rfl,rfl,rfl,rfl,rfl,rfl,trivial⟩)
     · obtain ⟨k,hk,rfl⟩:=List.mem_map.1 hp
       obtain rfl:k=0:=by simpa using hk
       exact ⟨by simp,rfl⟩
     · rcases hq with hq|⟨o,hq⟩ <;>simp [Sl.ren] at hq
   · refine YJ ?_;refine Ops.call1 (i+10) (gT J) hdl J J J hbor (by exact hlg) (fun p hp=> ?_) (fun q j hq=> ?_) (fun _ _=> ?_);rotate_left;rotate_left
     · refine Qz (Ql ?_ Qu);refine Q2 2 J (X7 (Q5 1 (T.bas.length+1) J J J (by simp [hhy]) J sMat (by omega) (by omega) J ?_));rw [ki];refine Qz (Q0 (Qa J J J J J zWhs (by simp [Ent.cs,hhy];omega) (Qz ?_)) Qu);exact Qb (ZW cont ⟨rfl,rfl,rfl,rfl,rfl,rfl,rfl,trivial⟩)
     · obtain ⟨k,hk,rfl⟩:=List.mem_map.1 hp
       obtain rfl:k=0:=by simpa using hk
       exact ⟨by simp,rfl⟩
     · rcases hq with hq|⟨o,hq⟩ <;>simp [Sl.ren] at hq
 have hi' :i=T.bas.length+1:=by omega
 subst hi';refine Qj 8 J ?_;refine Yn ⟨kh g1 0 (T.bas.length+1) c1,T.hB,kh g3 0 T.col.length c3,hly,[],[],[],0⟩ [_] rfl (Q4 J Q3) (by rw [hres];rfl) (fun j=>by rw [hout,hE3d];rfl) (by rw [hout,hE3d];show hly.length=_;rw [hhy];show _=(delP cx _ _).length;rw [delP_len,hrt])
end Go.Proofs.YtfimckpnnbibcaaGreat
namespace Go.Proofs.YtfimckpnnbibcaaGreat
open Go.Limbs Go.Own Go.Proofs.Tryz
attribute [local irreducible] Go.Own.Fin Ok OkM Ops St
theorem start_ok(T E:Tv)(art:Int)(ha1: -1152921504606846976<=art)(ha2:art<=1152921504606846976)(hF:Fit T)(hm:T.rows.length=T.bas.length+1)(hS:Shrt T)(hfull:∀h∈T.hl,∃gb,h=kh gb 0 (T.col.length+1) (T.col.length+1))(hrun:0<=wrS T T.bas.length ->StartRun T art E)(hw1:T.rows.length<=90)(hw2:T.col.length<=90):
  OkM prog 91 [.own 0, .ct (intC art)] (tabB T) [0] (fun H:Tv=>H.hl.length=(stOut T E art).rows.length) (fun _=> .ct (boolC (stRes T E))) (fun H=>tabB ((stOut T E art).wh H)):=by
 have hhl:=hF.hl;have hof0:=of_ok 0 (by decide) (by decide);have hof1:=of_ok 1 (by decide) (by decide);have hofm:=of_ok (-1) (by decide) (by decide)
 have kl2:(T.col.length:Int).toNat*2=T.col.length*2:=by omega
 refine OkM.enter func91 J _ ntmps91 J (tab_fx T) ?_
 intro S w ρ0 hbor
 have hfix:∀p∈(lentM prog 220 S w (tabB T) [0] ρ0).fix,(bget [] p.1).isSome=true \/p.1∈ [0]:=fun p hp=>by
  obtain ⟨i,hi,rfl⟩:=List.mem_map.1 hp;exact .inr hi
 simp only [tabB];refine Qj 6 J (XY 12 0x800b09280a0423070605020100 J ?_);refine Qq 7 J (ZU 2 T.bas.length J J J (by decide) (by simp) sInts.und J ?_);refine Qq 2 J (ZU 3 T.col.length J J J (by decide) (by simp) sInts.und J ?_);refine Qq 16 J ?_
 refine QY (α:=Nat) (fun i=>i<=T.bas.length)
  (fun i=>[(0, .own 0),(1, .ct (intC art)),(5, .ct (intC T.bas.length)),(6, .ct (intC T.col.length)),(7, .ct (intC (wrS T i))),(29, .ct (intC T.bas.length)),(30, .ct (intC i))])
  (fun _=>tabB T) (fun i=>T.bas.length - i) 0 (Nat.zero_le _) (by exact Qx J) ?_
 intro i hi;dsimp only at hi ⊢;have wb:=wrS_bd T i
 have ws:wrS T (i+1)=if T.at i T.col.length<0/\ (wrS T i<0 \/T.at i T.col.length+ -(T.at (wrS T i).toNat T.col.length)<0) then (i:Int) else wrS T i:=rfl
 generalize hwr:wrS T i=wr at*;simp only [tabB];refine Qj 6 J ?_;refine Qy J (fun h=> ?_) (fun h=> ?_)
 · have hi2:i<T.rows.length:=by omega
   have hrow:=hF.row i hi2
   have ki:(i:Int).toNat*1=i:=by omega
   have sb:=hS i T.col.length;refine Qj 17 J (Q5 1 T.rows.length J J J (by simp [hhl]) J sMat (by omega) (by omega) J ?_);rw [ki]
   refine QK J J J J (Yw (by omega)) lWhs J ?_;refine Qq 1 J (Q5 (i+10) (T.col.length+1) J J (Qs (by omega) hi2) (by rw [XV,hrow]) J sWhs (by omega) (by omega) J ?_);rw [kl2];refine ldWh J J J (Qs (by omega) hi2) J (by omega) lWh J ?_
   generalize hb:T.at i T.col.length=b at*;rw [show (T.rows.getD i []).getD T.col.length 0=b from hb]
   refine Xh 4 J J zvWh J (by exact Zo 10 _ _ 4 (by decide)) J ?_;refine Qq 4 J ?_;refine YU mixed 24 0x8017161554535231102e0d2b270f0c0a090806050403024120 J (by kernel_rfl) (fun K hK=> ?_);refine (fun (cont:∀c:Bool,(c=true↔(b<0/\ (wr<0 \/b+ -(T.at wr.toNat T.col.length)<0))) ->Go.Own.Fin _ [(66, .ct (boolC c)),(0, .own 0),(1, .ct (intC art)),(5, .ct (intC T.bas.length)),(6, .ct (intC T.col.length)),(7, .ct (intC wr)),(8, .ct (intC i)),(29, .ct (intC T.bas.length)),(30, .ct (intC i))] ((4, .box 178 (whCs b))::tabB T) K)=> ?_) (fun c hc=>hK _ _ ?_);rotate_left
   · clear hK K;simp only [tabB];refine Xs 1 J (Xx J (fun h2=> ?_) (fun h2=> ?_))
     · have hP:=hc.1 h2;refine Xz 10 J (by omega) ?_;refine Qk (i+1) (by omega) (by omega) (by exact Q1 4 (QW (by exact del4) ⟨rfl,rfl,rfl,rfl,by rw [ws,if_pos hP];rfl,rfl,by simp only [Int.natCast_add];rfl,trivial⟩))
     · have hP:¬(b<0/\ (wr<0 \/b+ -(T.at wr.toNat T.col.length)<0)):=fun hp=>by have:=hc.2 hp;rw [h2] at this;cases this
       refine Xz 7 J (by omega) ?_;refine Qk (i+1) (by omega) (by omega) (by exact Q1 4 (QW (by exact del4) ⟨rfl,rfl,rfl,rfl,by rw [ws,if_neg hP];rfl,rfl,by simp only [Int.natCast_add];rfl,trivial⟩))
   clear hK;refine Q2 1 J (Qv (gT J) (sign_ok b) J (Q2 2 J (QQ 46 J (fun h1=> ?_) (fun h1=> ?_))))
   · have hb0:b<0:=sgn_lt.1 h1;refine Q2 3 J (QQ 49 J (fun h2=> ?_) (fun h2=> ?_))
     · refine Q2 17 J ?_;exact Qz (ZW (cont true ⟨fun _=>⟨hb0, .inl h2⟩,fun _=>rfl⟩) ⟨rfl,rfl,rfl,rfl,rfl,rfl,rfl,rfl,rfl,trivial⟩)
     · obtain ⟨q,rfl⟩:∃q:Nat,wr=q:=⟨wr.toNat,by omega⟩
       have hq2:q<T.rows.length:=by omega
       have hrowq:=hF.row q hq2
       have kq:(q:Int).toNat*1=q:=by omega
       have sq:=hS q T.col.length;rw [Int.toNat_natCast] at cont;generalize hb2:T.at q T.col.length=b2 at*;refine Q2 7 J (Q5 1 T.rows.length J J J (by simp [hhl]) J sMat (by omega) (by omega) J ?_);rw [kq]
       refine QK J J J J (Yw (by omega)) lWhs J ?_
       refine Q5 (q+10) (T.col.length+1) J J (Qs (by omega) hq2) (by rw [XV,hrowq]) J sWhs (by omega) (by omega) J ?_
       rw [kl2]
       refine ldWh J J J (Qs (by omega) hq2) J (by omega) lWh J ?_
       rw [show (T.rows.getD q []).getD T.col.length 0=b2 from hb2];refine Qv (gT J) (minus_ok b2) J (Qv (gT J) (plus_ok b (-b2) (by omega) (Nat.le_trans (neg_short sq) (by decide))) J ?_);refine Qv (gT J) (sign_ok _) J (Q2 4 J (ZW (cont (decide ((b+ -b2).sign<0)) ⟨fun hd=>⟨hb0, .inr (sgn_lt.1 (of_decide_eq_true hd))⟩,fun hd=>decide_eq_true (sgn_lt.2 (hd.2.resolve_left h2))⟩) ⟨rfl,rfl,rfl,rfl,rfl,rfl,rfl,rfl,rfl,trivial⟩))
   · refine Q2 20 J ?_;exact Qz (ZW (cont false ⟨fun hd=>by (cases hd),fun hd=>absurd (sgn_lt.2 hd.1) h1⟩) ⟨rfl,rfl,rfl,rfl,rfl,rfl,rfl,rfl,rfl,trivial⟩)
 have hi' :i=T.bas.length:=by omega
 subst hi';simp only [tabB];refine Qj 9 J ?_;refine Qy J (fun h2=> ?_) (fun h2=> ?_)
 · have e1:stOut T E art=T:=by unfold stOut;rw [hwr,if_pos h2]
   have e2:stRes T E=true:=by unfold stRes;rw [hwr,decide_eq_true h2];rfl
   refine Qj 6 J ?_;refine Yn T [_] rfl (Q4 J Q3) (by rw [e2] <;>rfl) (fun j=>by rw [e1] <;>rfl) (by rw [e1];exact hhl)
 obtain ⟨w0,rfl⟩:∃q:Nat,wr=q:=⟨wr.toNat,by omega⟩;have R:=hrun (by omega);have hG1:=R.gd;obtain ⟨sE,kE,hE⟩:=R.run;rw [hwr,Int.toNat_natCast] at hE
 have hrl2:(T.rows++ [List.replicate (T.col.length+1) (0:Int)]).length=T.rows.length+1:=by simp
 refine Xz 6 J (by omega) ?_;refine Ops.makeX (T.hl.length+10) (T.col.length+1) J J J (by omega) sWhs (by omega) (by omega) J (by exact lines_ge (.inl (Nat.le_refl _))) J (fun gbz=> ?_);refine Ops.weakX (T.hl.length+10) (whs (List.replicate (T.col.length+1) 0)) (QU ..) (whs_zero (T.col.length+1)) ?_
 rw [Zh];refine Qq 11 J (Qo J J sMat J J J (Qp 78 1 J J (QJ T.hl.length ((T.hl++ [kh gbz 0 (T.col.length+1) (T.col.length+1)]).map CT.ex) J J J J sMat (by simp) J (by omega) (by omega) (by simp) J ?_)));refine Qe 81 1 (T.hl.length+1) J J (by simp) (by omega) (by decide) (fun g1 c1 hc1 hc1m=> ?_);refine Qq 12 J ?_
 have hfull2:∀k,k<(T.hl++ [kh gbz 0 (T.col.length+1) (T.col.length+1)]).length ->∃gb,(T.hl++ [kh gbz 0 (T.col.length+1) (T.col.length+1)]).getD k default=kh gb 0 (T.col.length+1) (T.col.length+1):=fun k hk=>by
  have hmem:=XX (z:=default) hk;rcases List.mem_append.1 hmem with h3|h3
  · exact hfull _ h3
  · exact ⟨gbz,by simpa using h3⟩
 refine ZU 1 (T.hl.length+1) J J J (by decide) (by simp) sMat.und J ?_;refine Qq 4 J ?_
 refine QY (α:=Nat × List Value) (fun x=>x.1<=T.hl.length+1/\ x.2.length=T.hl.length+1/\ ∀k,x.1<=k ->k<x.2.length ->∃gb,x.2.getD k default=kh gb 0 (T.col.length+1) (T.col.length+1))
  (fun x=>[(0, .own 0),(1, .ct (intC art)),(5, .ct (intC T.bas.length)),(6, .ct (intC T.col.length)),(7, .ct (intC w0)),(87, .ct (.ex (kh g1 0 (T.hl.length+1) c1))),(88, .ct (intC ((T.hl.length+1:Nat):Int))),(89, .ct (intC x.1))])
  (fun x=>(0, .box 182 [.ex (kh g1 0 (T.hl.length+1) c1), .ex T.hB, .ex T.hC,boolC (decide (T.den<0)),natC T.den.natAbs])::(1, .rowx (kh g1 0 (T.hl.length+1) c1) 179 1 (x.2.map CT.ex))::(2, .rowx T.hB 3 1 (ints T.bas))::(3, .rowx T.hC 3 1 (ints T.col))::linesB 10 x.2 (insP T.bas.length T.col.length (T.rows++ [List.replicate (T.col.length+1) 0]) x.1))
  (fun x=>T.hl.length+1 - x.1) (0,T.hl++ [kh gbz 0 (T.col.length+1) (T.col.length+1)]) ⟨Nat.zero_le _,by simp,fun k _ hk=>hfull2 k hk⟩ (by exact Jv (by dsimp only;rw [insP_zero];exact step_B2 hhl) ⟨rfl,rfl,rfl,rfl,rfl,rfl,rfl,rfl,trivial⟩) ?_
 rintro ⟨i,hlx⟩ ⟨hi,hhx,hfx⟩
 dsimp only at hi hhx hfx ⊢;have hil:=insP_len T.bas.length T.col.length (T.rows++ [List.replicate (T.col.length+1) 0]) i;refine Qj 6 J ?_;refine Qy J (fun h3=> ?_) (fun h3=> ?_)
 · have hi2:i<(T.rows++ [List.replicate (T.col.length+1) (0:Int)]).length:=by omega
   have ki:(i:Int).toNat*1=i:=by omega
   obtain ⟨gbi,hgi⟩:=hfx i (Nat.le_refl _) (by omega);have hat:=insP_at T.bas.length T.col.length (T.rows++ [List.replicate (T.col.length+1) 0]) i hi2;have hset:=insP_set T.bas.length T.col.length (T.rows++ [List.replicate (T.col.length+1) 0]) i hi2
   have hln:((T.rows++ [List.replicate (T.col.length+1) (0:Int)]).getD i []).length=T.col.length+1:=by
    rcases Nat.lt_or_ge i T.rows.length with h4|h4
    · rw [List.getD_eq_getElem?_getD,List.getElem?_append_left h4,<- List.getD_eq_getElem?_getD];exact hF.row i h4
    · have:i=T.rows.length:=by omega
      subst this;simp [List.getD_eq_getElem?_getD]
   have hsetl:insL T.bas.length T.col.length i ((T.rows++ [List.replicate (T.col.length+1) (0:Int)]).getD i [])=((T.rows++ [List.replicate (T.col.length+1) (0:Int)]).getD i []).take T.col.length++insX T.bas.length i::((T.rows++ [List.replicate (T.col.length+1) (0:Int)]).getD i []).drop T.col.length:=rfl;generalize hline:(T.rows++ [List.replicate (T.col.length+1) (0:Int)]).getD i []=line at*;have hlg:=Qs (k:=10) (hl:=hlx) (zs:=insP T.bas.length T.col.length (T.rows++ [List.replicate (T.col.length+1) 0]) i) (i:=i) (by omega) (by omega);rw [hat,hgi] at hlg;generalize hcur:insP T.bas.length T.col.length (T.rows++ [List.replicate (T.col.length+1) 0]) i=cur at*;refine Qj 7 J (Q5 1 (T.hl.length+1) J J J (by simp [hhx]) J sMat (by omega) (by omega) J ?_);rw [ki]
   refine QK J J J J (Yw (by omega)) lWhs J ?_
   rw [hgi];refine Qq 6 J (Qv (gT J) hof0 J (Xh 4 J J zvWh J (by exact Zo 10 _ _ 4 (by decide)) J ?_));refine Qq 11 J ?_
   refine X4 (α:=Unit) (fun _=>True) (fun _=>[(0, .own 0),(1, .ct (intC art)),(5, .ct (intC T.bas.length)),(6, .ct (intC T.col.length)),(7, .ct (intC w0)),(11, .ct (intC i)),(12, .ct (.ex (kh gbi 0 (T.col.length+1) (T.col.length+1)))),(13, .own 4),(87, .ct (.ex (kh g1 0 (T.hl.length+1) c1))),(88, .ct (intC ((T.hl.length+1:Nat):Int))),(89, .ct (intC i))])
    (fun _=>(4, .box 178 (whCs (insX T.bas.length i)))::(0, .box 182 [.ex (kh g1 0 (T.hl.length+1) c1), .ex T.hB, .ex T.hC,boolC (decide (T.den<0)),natC T.den.natAbs])::(1, .rowx (kh g1 0 (T.hl.length+1) c1) 179 1 (hlx.map CT.ex))::(2, .rowx T.hB 3 1 (ints T.bas))::(3, .rowx T.hC 3 1 (ints T.col))::linesB 10 hlx cur) (fun _ _=> ?_) (fun KK hN=> ?_)
   rotate_left
   · refine Qy J (fun h4=> ?_) (fun h4=> ?_)
     · have ex:insX T.bas.length i= -1:=by unfold insX;rw [if_pos (by omega)]
       refine Qj 1 J (Qv (gT J) hofm J (Qq 2 J ?_));exact Q7 hN () trivial (by exact QW (by rw [ex] <;>rfl) ⟨rfl,rfl,rfl,rfl,rfl,rfl,rfl,rfl,rfl,rfl,rfl,trivial⟩)
     · refine Xz 8 J (by omega) ?_;refine Qy J (fun h5=> ?_) (fun h5=> ?_)
       · have ex:insX T.bas.length i=1:=by unfold insX;rw [if_neg (by omega),if_pos (by omega)]
         refine Qj 1 J (Qv (gT J) hof1 J (Qq 2 J ?_));exact Q7 hN () trivial (by exact QW (by rw [ex] <;>rfl) ⟨rfl,rfl,rfl,rfl,rfl,rfl,rfl,rfl,rfl,rfl,rfl,trivial⟩)
       · have ex:insX T.bas.length i=0:=by unfold insX;rw [if_neg (by omega),if_neg (by omega)]
         refine Qj 1 J ?_
         exact Q7 hN () trivial (by exact QW (by rw [ex] <;>rfl) ⟨rfl,rfl,rfl,rfl,rfl,rfl,rfl,rfl,rfl,rfl,rfl,trivial⟩)
   generalize hxx:insX T.bas.length i=xx at*;have hins:=(Insert_ok gbi (T.col.length+1) line T.col.length xx hln (by omega) (by omega)).nm (i+10) (fun _ _=> .inr J);refine Yx mixed [9,11] 0xa0a0a0a0806b0a4369a0a0806b0a694348a0a0a0806b0a69484327060504020100 J (by kernel_rfl) (fun K hK=> ?_)
   refine (fun (cont:∀x:Nat × Nat,(T.col.length+2<=x.2/\ x.2<=maxLen) ->Go.Own.Fin _ [(0, .own 0),(1, .ct (intC art)),(5, .ct (intC T.bas.length)),(6, .ct (intC T.col.length)),(7, .ct (intC w0)),(87, .ct (.ex (kh g1 0 (T.hl.length+1) c1))),(88, .ct (intC ((T.hl.length+1:Nat):Int))),(89, .ct (intC i))]
    (bset ((i+10, .rowx (kh x.1 0 (T.col.length+2) x.2) 178 2 (whs (line.take T.col.length++xx::line.drop T.col.length)))::bdel ((4, .box 178 (whCs xx))::(0, .box 182 [.ex (kh g1 0 (T.hl.length+1) c1), .ex T.hB, .ex T.hC,boolC (decide (T.den<0)),natC T.den.natAbs])::(1, .rowx (kh g1 0 (T.hl.length+1) c1) 179 1 (hlx.map CT.ex))::(2, .rowx T.hB 3 1 (ints T.bas))::(3, .rowx T.hC 3 1 (ints T.col))::linesB 10 hlx cur) (i+10)) 1 (.rowx (kh g1 0 (T.hl.length+1) c1) 179 1 ((hlx.map CT.ex).set i (.ex (kh x.1 0 (T.col.length+2) x.2))))) K)=> ?_) (fun x hx=>hK _ _ ?_)
   rotate_left
   · obtain ⟨g2,c2⟩:=x;clear hK K;refine Fin.Ro 6 J (by omega) ?_
     refine Qk (i+1,hlx.set i (kh g2 0 (T.col.length+2) c2)) (by dsimp only;omega) ⟨by dsimp only;omega,by dsimp only;rw [List.length_set];exact hhx,fun k hk1 hk2=> ?_⟩ (by exact Q1 4 (Jv (by
      dsimp only
      rw [<- hset,hsetl,List.map_set];exact upd_B4 (by omega) (by omega)) ⟨rfl,rfl,rfl,rfl,rfl,rfl,rfl,by simp only [Int.natCast_add];rfl,trivial⟩))
     dsimp only at hk1 hk2 ⊢;rw [List.length_set] at hk2;obtain ⟨gb,hgb⟩:=hfx k (by omega) hk2;exact ⟨gb,by rw [List.getD_eq_getElem?_getD,List.getElem?_set_ne (by omega),<- List.getD_eq_getElem?_getD];exact hgb⟩
   clear hK;refine Xw 7 J (Ql ?_ ?_)
   · refine Q2 2 J (Fin.qm1 (Zv (n:=2) J J sWhs J J (by decide) J ?_));refine Qz (YJ ?_);refine Ops.call1 (i+10) (gT J) hins J J J hbor (by exact hlg) (fun p hp=> ?_) (fun q j hq=> ?_) (fun _ _=> ?_);rotate_left;rotate_left
     · refine Qe 113 (i+10) (T.col.length+2) J (QU ..) (by rw [XV,List.length_append,List.length_cons,List.length_take,List.length_drop];omega) (by omega) (by decide) (fun g2 c2 hc2 hc2m=> ?_);rw [Zh];refine Qz (X7 (Q5 1 (T.hl.length+1) J J J (by simp [hhx]) J sMat (by omega) (by omega) J ?_));rw [ki];refine Qz (Q0 (Qa J J J J J zWhs (by simp [Ent.cs,hhx];omega) (Qz ?_)) Qu);exact Qb (ZW (cont (g2,c2) ⟨hc2,hc2m⟩) ⟨rfl,rfl,rfl,rfl,rfl,rfl,rfl,rfl,trivial⟩)
     · obtain ⟨k,hk,rfl⟩:=List.mem_map.1 hp
       obtain rfl:k=0:=by simpa using hk
       exact ⟨by simp,rfl⟩
     · rcases hq with hq|⟨o,hq⟩ <;>simp [Sl.ren] at hq;exact hq.symm
   · refine Fin.qm1 (Zv (n:=2) J J sWhs J J (by decide) J ?_);refine Qz (Ql ?_ ?_)
     · refine Q2 2 J (YJ ?_);refine Ops.call1 (i+10) (gT J) hins J J J hbor (by exact hlg) (fun p hp=> ?_) (fun q j hq=> ?_) (fun _ _=> ?_);rotate_left;rotate_left
       · refine Qe 113 (i+10) (T.col.length+2) J (QU ..) (by rw [XV,List.length_append,List.length_cons,List.length_take,List.length_drop];omega) (by omega) (by decide) (fun g2 c2 hc2 hc2m=> ?_);rw [Zh];refine Qz (X7 (Q5 1 (T.hl.length+1) J J J (by simp [hhx]) J sMat (by omega) (by omega) J ?_));rw [ki];refine Qz (Q0 (Qa J J J J J zWhs (by simp [Ent.cs,hhx];omega) (Qz ?_)) Qu);exact Qb (ZW (cont (g2,c2) ⟨hc2,hc2m⟩) ⟨rfl,rfl,rfl,rfl,rfl,rfl,rfl,rfl,trivial⟩)
       · obtain ⟨k,hk,rfl⟩:=List.mem_map.1 hp
         obtain rfl:k=0:=by simpa using hk
         exact ⟨by simp,rfl⟩
       · rcases hq with hq|⟨o,hq⟩ <;>simp [Sl.ren] at hq;exact hq.symm
     · refine YJ ?_;refine Ops.call1 (i+10) (gT J) hins J J J hbor (by exact hlg) (fun p hp=> ?_) (fun q j hq=> ?_) (fun _ _=> ?_);rotate_left;rotate_left
       · refine Qe 113 (i+10) (T.col.length+2) J (QU ..) (by rw [XV,List.length_append,List.length_cons,List.length_take,List.length_drop];omega) (by omega) (by decide) (fun g2 c2 hc2 hc2m=> ?_);rw [Zh];refine Qz (Ql ?_ Qu);refine Q2 2 J (X7 (Q5 1 (T.hl.length+1) J J J (by simp [hhx]) J sMat (by omega) (by omega) J ?_));rw [ki];refine Qz (Q0 (Qa J J J J J zWhs (by simp [Ent.cs,hhx];omega) (Qz ?_)) Qu);exact Qb (ZW (cont (g2,c2) ⟨hc2,hc2m⟩) ⟨rfl,rfl,rfl,rfl,rfl,rfl,rfl,rfl,trivial⟩)
       · obtain ⟨k,hk,rfl⟩:=List.mem_map.1 hp
         obtain rfl:k=0:=by simpa using hk
         exact ⟨by simp,rfl⟩
       · rcases hq with hq|⟨o,hq⟩ <;>simp [Sl.ren] at hq;exact hq.symm
 have hi' :i=T.hl.length+1:=by omega
 subst hi'
 have hcurE:insP T.bas.length T.col.length (T.rows++ [List.replicate (T.col.length+1) 0]) (T.hl.length+1)=(insT T art).rows:=by rw [hhl];rfl
 rw [hcurE];rw [hcurE] at hil;refine Qj 10 J (Qo J J sInts J J J (Qp 120 3 J J (QJ T.col.length (ints (T.col++ [art])) J J J J sInts (by simp) J (by omega) (by omega) (by rw [Xd] <;>rfl) J ?_)));refine Qe 123 3 (T.col.length+1) J J (by simp) (by omega) (by decide) (fun g3 c3 hc3 hc3m=> ?_);refine Qq 10 J ?_;obtain ⟨H1,hH1⟩:∃H1:Tv,H1=⟨kh g1 0 (T.hl.length+1) c1,T.hB,kh g3 0 (T.col.length+1) c3,hlx,[],[],[],0⟩:=⟨_,rfl⟩
 have hH1l:H1.hl.length=(insT T art).rows.length:=by rw [hH1,hil,hhx];simp [hhl]
 have l1:(insT T art).rows.length=T.rows.length+1:=by rw [hil];simp
 have l3:(insT T art).col.length=T.col.length+1:=by simp [insT]
 have lE:=hE.lens;rw [Xf,pvt_bas,Zg,l1,l3,show (insT T art).bas=T.bas from rfl] at lE;obtain ⟨lE1,lE2,lE3⟩:=lE;have hGE:=hE.last;have hGE1:=hGE.wh (H:=H1) (by rw [hH1l,l1,lE1]);have hG1w:=hG1.wh hH1l;have hpv:=pivot_ok ((insT T art).wh H1) hG1w.fit hG1w.short hG1w.den hG1w.dens w0 T.col.length (by show w0<T.bas.length;omega) (by show T.col.length<(insT T art).col.length;rw [l3];omega);have hEw:=hE.wh (H:=H1) (by rw [Xf];exact hH1l);rw [<- pvt_wh] at hEw;have hmx:=maximize_ok (pvt ((insT T art).wh H1) w0 T.col.length) (E.wh H1) (T.bas.length+1) sE kE hEw (by rw [Xf];show _<(insT T art).rows.length;rw [l1];omega)
 have hTeq:(insT T art).wh H1=⟨kh g1 0 (T.hl.length+1) c1,T.hB,kh g3 0 (T.col.length+1) c3,hlx,(insT T art).rows,T.bas,T.col++ [art],T.den⟩:=by rw [hH1];rfl
 refine X3 [] (gT J) hpv J J J hbor (by rw [hTeq] <;>rfl) J hfix (fun _ _=> ?_);refine QZ 7 J (by omega) ?_;refine X3 [] (gT J) hmx J J J hbor J J hfix (fun _ _=> ?_);have hRd:(E.wh H1).rows=E.rows:=rfl;have hBd:(E.wh H1).bas=E.bas:=rfl
 have km1:((T.bas.length:Int)+1).toNat*1=T.bas.length+1:=by omega
 have kl3:((T.col.length:Int)+1).toNat*2=(T.col.length+1)*2:=by omega
 have lH:H1.hl.length=T.rows.length+1:=by rw [hH1l,l1]
 have hwn:¬wrS T T.bas.length<0:=by rw [hwr];omega
 have hrE:=hGE.fit.row;rw [lE1,lE3] at hrE;have hrE1:=hrE (T.bas.length+1) (by omega);refine QZ 11 J (by omega) ?_;refine Q5 1 (T.rows.length+1) J J J (by rw [List.length_map];show H1.hl.length=_;omega) J sMat (by omega) (by omega) J ?_
 rw [km1]
 refine QK J J J J (Yw (by show _<H1.hl.length;omega)) lWhs J ?_;refine QZ 2 J (by omega) ?_;refine Q5 (T.bas.length+1+10) (T.col.length+2) J J (Qs (by show _<H1.hl.length;omega) (by show _<E.rows.length;omega)) (by rw [XV];show (E.rows.getD (T.bas.length+1) []).length*2=_;rw [hrE1]) J sWhs (by omega) (by omega) J ?_
 rw [kl3]
 refine ldWh J J J (Qs (by show _<H1.hl.length;omega) (by show _<E.rows.length;omega)) J (by show _<(E.rows.getD (T.bas.length+1) []).length;omega) lWh J ?_;refine Qv (gT J) (sign_ok (E.at (T.bas.length+1) (T.col.length+1))) J ?_
 have hRp:=R.piv;have hRf:=R.fit2;have hRo:=R.out
 have hout:stOut T E art=if E.at (T.bas.length+1) (T.col.length+1)<0 then E else stE3 E T.bas.length T.col.length art:=by unfold stOut;rw [if_neg hwn]
 have hres:stRes T E= !decide (E.at (T.bas.length+1) (T.col.length+1)<0):=by unfold stRes;rw [decide_eq_false hwn,Bool.false_or]
 generalize E.at (T.bas.length+1) (T.col.length+1)=vE at*;refine Qq 3 J ?_;refine Qy J (fun h4=> ?_) (fun h4=> ?_)
 · have h5:=sgn_lt.1 h4;rw [if_pos h5] at hout;rw [decide_eq_true h5] at hres;refine Qj 6 J ?_;refine Yn H1 [_] rfl (Q4 J Q3) (by rw [hres] <;>rfl) (fun j=>by rw [hout] <;>rfl) (by rw [hout,lH,lE1])
 have h5:¬vE<0:=fun h=>h4 (sgn_lt.2 h)
 rw [if_neg h5] at hout;rw [decide_eq_false h5] at hres;have hRp:=hRp h5;have hRf:=hRf h5;have hRo:=hRo h5;have hIx:Ok prog 148 [intsC E.bas,intC art] (intC (fIx E.bas art)):=Index_ints E.bas art (by omega);have bIx:=fIx_bd E.bas art;have bnz:=nzC_bd (E:=E) (last:=T.col.length) (art:=art);have hnzd:nzC E T.col.length art=idxI (fun x=>decide (x≠0)) ((E.rows.getD (fIx E.bas art).toNat []).take (T.col.length+1)):=rfl
 have hE2d:stE2 E T.col.length art=if fIx E.bas art<0 then E else pvt E (fIx E.bas art).toNat (nzC E T.col.length art).toNat:=rfl
 refine Qj 10 J (Ops.callRO 2 (gT J) hIx J J (fun a ρ w hI=> ?_) J J ?_)
 · have h1:=hI.readX (i:=2) (el:=3) (n:=1) (v:=H1.hB) (es:=E.bas.map fun x=>[intC x]) (by rw [ints_flat] <;>rfl) (by simp) (by decide) hbor;have h2:a.eval (.tmp 151)=H1.hB:=hI.evx J;exact ⟨by rw [h2];exact h1,hI.evx J,trivial⟩
 generalize fIx E.bas art=rx at*;refine Qq 9 J ?_;have lE2' :=stE2_lens E T.col.length art;have hE3d:stE3 E T.bas.length T.col.length art={stE2 E T.col.length art with rows:=delP (fIx (stE2 E T.col.length art).col art).toNat ((stE2 E T.col.length art).rows.take (T.bas.length+1)) (T.bas.length+1),col:=(stE2 E T.col.length art).col.eraseIdx (fIx (stE2 E T.col.length art).col art).toNat,hl:=(stE2 E T.col.length art).hl.take (T.bas.length+1)}:=rfl;generalize hE2:stE2 E T.col.length art=E2 at*
 refine X4 (α:=Unit) (fun _=>True) (fun _=>[(0, .own 0),(1, .ct (intC art)),(5, .ct (intC T.bas.length)),(6, .ct (intC T.col.length))])
  (fun _=>(0, .box 182 [.ex (kh g1 0 (T.hl.length+1) c1), .ex T.hB, .ex (kh g3 0 (T.col.length+1) c3),boolC (decide (E2.den<0)),natC E2.den.natAbs])::(1, .rowx (kh g1 0 (T.hl.length+1) c1) 179 1 (hlx.map CT.ex))::(2, .rowx T.hB 3 1 (ints E2.bas))::(3, .rowx (kh g3 0 (T.col.length+1) c3) 3 1 (ints E2.col))::linesB 10 hlx E2.rows) (fun _ _=> ?_) (fun KK hN=> ?_)
 rotate_left
 · refine Qy J (fun h6=> ?_) (fun h6=> ?_)
   · obtain ⟨q,rfl⟩:∃q:Nat,rx=q:=⟨rx.toNat,by omega⟩;have hnz:=hRp h6;rw [Int.toNat_natCast] at hnzd;rw [if_neg (by omega),Int.toNat_natCast] at hE2d
     have hq2:q<T.rows.length+1:=by omega
     have hrq:=hrE q (by omega)
     have kq:(q:Int).toNat*1=q:=by omega
     obtain ⟨s2,hs2⟩:∃s2:Nat,nzC E T.col.length art=s2:=⟨(nzC E T.col.length art).toNat,by omega⟩;rw [hs2] at hnzd bnz;rw [hs2,Int.toNat_natCast] at hE2d;have hpv2:=pivot_ok (E.wh H1) hGE1.fit hGE1.short hGE1.den hGE1.dens q s2 (by show q<E.bas.length;omega) (by show s2<E.col.length;omega);have hlg:bget (tabB (E.wh H1)) (q+10)=some (.rowx ((E.wh H1).hl.getD q default) 178 2 (whs (E.rows.getD q []))):=Qs (by show q<H1.hl.length;omega) (by show q<E.rows.length;omega);refine Qj 7 J (Q5 1 (T.rows.length+1) J J J (by rw [List.length_map];show H1.hl.length=_;omega) J sMat (by omega) (by omega) J ?_);rw [kq]
     refine QK J J J J (Yw (by show _<H1.hl.length;omega)) lWhs J ?_;refine Ops.hand (q+10) (T.col.length+2) (by exact hlg) (by rw [XV,hrq]) (by omega) (by decide) (fun gb cc hh hcc hccm=> ?_);rw [hh] at hlg;rw [hh];refine QZ 2 J (by omega) ?_;refine Jy (T.col.length+1) J J J (by omega) sWhs (by omega) J ?_
     refine Ops.callRO (q+10) (u:= .int .i64 (s2:Int)) (gT J) (by
      have:=IndexFunc_whs ((E.rows.getD q []).take (T.col.length+1)) 150 (fun x=>decide (x≠0)) gostart1 (fun x _=>start1_ok x) (by rw [List.length_take];omega);rw [<- hnzd] at this
      exact this) J (by exact hlg) (fun a ρ w hI=> ?_) J J ?_
     · have h1:=hI.readK (i:=q+10) (es:=(E.rows.getD q []).map whCs) (T.col.length+1) (by exact hlg) (by rw [List.length_map,hrq]) (by simp) (by decide) (by omega) (by omega) hbor;rw [<- List.map_take] at h1;have h2:a.eval (.tmp 165)=kh gb 0 (T.col.length+1) cc:=hI.evx J;exact ⟨by rw [h2];exact h1,hI.evx J,trivial⟩
     refine Qq 7 J (X3 [] (gT J) hpv2 J J J hbor J J hfix (fun _ _=> ?_));refine Qz ?_
     exact Q7 hN () trivial (by exact QW (by rw [hE2d,hH1] <;>rfl) ⟨rfl,rfl,rfl,rfl,trivial⟩)
   · rw [if_pos (by omega)] at hE2d
     refine Qj 1 J ?_
     exact Q7 hN () trivial (by exact QW (by rw [hE2d,hH1] <;>rfl) ⟨rfl,rfl,rfl,rfl,trivial⟩)
 have hr2:=hRf.row;rw [lE2'.1,lE2'.2.2,lE1,lE3] at hr2;exact start_tail T E E2 art g1 c1 g3 c3 hlx S w ρ0 hbor hout (by rw [hres] <;>rfl) hE3d hRo (fun i hi=>by rw [hr2 i (by omega)]) (by omega) (by omega) (by omega) (by omega) hc1 hc3 (by omega) (by omega)
open Go.Det
theorem wrS_wh(T H:Tv):∀i,wrS (T.wh H) i=wrS T i
 |0=>rfl
 |i+1=>by simp only [wrS,wrS_wh T H i];rfl
theorem ptS_wh(T H:Tv)(n:Nat):∀i,ptS (T.wh H) n i=ptS T n i
 |0=>rfl
 |i+1=>by simp only [ptS,ptS_wh T H n i];rfl
theorem duS_wh(T H:Tv)(n m gi:Nat):∀i,duS (T.wh H) n m gi i=duS T n m gi i
 |0=>rfl
 |i+1=>by simp only [duS,duS_wh T H n m gi i];rfl
theorem raS_wh(T H:Tv)(n s:Nat):∀i,raS (T.wh H) n s i=raS T n s i
 |0=>rfl
 |i+1=>by simp only [raS,raS_wh T H n s i];rfl
theorem Fit.wh{T H:Tv}(F:Fit T)(h:H.hl.length=T.rows.length):Fit (T.wh H):=⟨h,F.row,F.bas,F.few,F.thin⟩
theorem stE2_wh(E H:Tv)(last:Nat)(art:Int):stE2 (E.wh H) last art=(stE2 E last art).wh H:=by
 unfold stE2;show (if fIx E.bas art<0 then E.wh H else pvt (E.wh H) (fIx E.bas art).toNat (nzC E last art).toNat)=_;split
 · rfl
 · rfl
theorem stE3_wh(E H H1:Tv)(m last:Nat)(art:Int):(stE3 (E.wh H) m last art).wh H1=(stE3 E m last art).wh H1:=by
 unfold stE3;simp only [stE2_wh];rfl
theorem stRes_wh(T E H H' :Tv):stRes (T.wh H) (E.wh H')=stRes T E:=by
 unfold stRes;rw [show (T.wh H).bas=T.bas from rfl,wrS_wh];rfl
theorem stOut_wh(T E H H' H1:Tv)(art:Int):(stOut (T.wh H) (E.wh H') art).wh H1=(stOut T E art).wh H1:=by
 unfold stOut;rw [show (T.wh H).bas=T.bas from rfl,wrS_wh,show (T.wh H).col=T.col from rfl,show (E.wh H').at (T.bas.length+1) (T.col.length+1)=E.at (T.bas.length+1) (T.col.length+1) from rfl];split
 · rfl
 · split
   · rfl
   · exact stE3_wh E H' H1 _ _ art
theorem stOut_rows(T E H H' :Tv)(art:Int):(stOut (T.wh H) (E.wh H') art).rows.length=(stOut T E art).rows.length:=by
 have:=congrArg (fun X:Tv=>X.rows.length) (stOut_wh T E H H' T art);exact this
theorem StartRun.wh{T E:Tv}{art:Int}(h:StartRun T art E)(H:Tv)(hl:H.hl.length=T.rows.length):StartRun (T.wh H) art (E.wh {H with hl:=H.hl++ [default]}):=by
 have e1:(insT (T.wh H) art)=(insT T art).wh {H with hl:=H.hl++ [default]}:=rfl
 have hl1:({H with hl:=H.hl++ [default]}:Tv).hl.length=(insT T art).rows.length:=by
  show (H.hl++ [default]).length=(insP _ _ _ _).length;rw [insP_len];simp [hl]
 obtain ⟨s,k,hr⟩:=h.run;have lE:=hr.lens;rw [Xf] at lE;refine ⟨by rw [show (T.wh H).bas=T.bas from rfl,wrS_wh];exact h.worst,by rw [e1];exact h.gd.wh hl1,⟨s,k,?_⟩,h.piv,fun h1=> ?_,fun h1=> ?_⟩
 · rw [show (T.wh H).bas=T.bas from rfl,wrS_wh,e1];exact hr.wh (by rw [Xf];exact hl1)
 · rw [stE2_wh]
   refine (h.fit2 h1).wh ?_
   rw [(stE2_lens E _ art).1,lE.1];exact hl1
 · rw [stE2_wh];exact h.out h1
structure Oc where
  kind : Int
  value : Fr
  point : List Fr
  ray : List Fr
  dual : List Fr
def frz0 : Fr := ⟨false, 0, 0⟩
def ocOf (n m : Nat) (T E F : Tv) (s : Int) : Oc :=
  if stRes T E = false then ⟨3, frz0, [], [], (duS E n m (m + 1) E.col.length).map ofQ⟩
  else if 0 ≤ s then ⟨2, frz0, (ptS F n F.bas.length).map ofQ, (raS F n s.toNat F.bas.length).map ofQ, []⟩
  else ⟨1, ofQ (shq (F.at m F.col.length) F.den), (ptS F n F.bas.length).map ofQ, [], (duS F n m m F.col.length).map ofQ⟩
structure SolRun (n : Nat) (rs : List Rw) (c : List Int) (T E F : Tv) (s : Int) : Prop where
  beg : Beg n rs c T
  start : 0 ≤ wrS T rs.length → StartRun T ((n + rs.length : Nat) : Int) E
  eg : stRes T E = false → Gd E ∧ E.rows.length = rs.length + 2 ∧ ∀ i, 0 ≤ E.col.getD i 0
  run : stRes T E = true → ∃ k, RunOk rs.length F s k (stOut T E ((n + rs.length : Nat) : Int))
  fr : stRes T E = true → F.rows.length = rs.length + 1 ∧ (∀ i, 0 ≤ F.col.getD i 0) ∧ (∀ i, 0 ≤ F.bas.getD i 0) ∧ s < F.col.length ∧ -1 ≤ s
def ptl (n : Nat) (X : Nat → Int) (D : Int) : List Fr := (List.range n).map fun v => ofQ (shq (X v) D)
theorem list_range{α:Type}{l:List α}{n:Nat}{f:Nat ->α}{z:α}(hl:l.length=n)(h:∀v,v<n ->l.getD v z=f v):l=(List.range n).map f:=by
 subst hl;rw [<- Y8 l z];rw [List.length_map,List.length_range]
 exact List.map_congr_left fun v hv=>h v (by simpa using hv)
def Kt (m : Nat) : Nat := (m + 2) * (4503599627370496 * (fact (m + 2) * 1048576 ^ (m + 2)))
inductive Sol (n : Nat) (rs : List Rw) (c : List Int) : Oc → Prop
  | opt (D : Int) (X Y : Nat → Int) (val : Int) (hX : Feas n rs D X) (hv : sm (fun j => c.getD j 0 * X j) n = val) (hY : Dual n rs c D Y) (hw : sm (fun i => cb rs i * Y i) rs.length = val)
      (b1 : D.natAbs ≤ Kt rs.length) (b2 : ∀ v, v < n → (X v).natAbs ≤ Kt rs.length) (b3 : ∀ i, i < rs.length → (Y i).natAbs ≤ Kt rs.length) (b4 : val.natAbs ≤ Kt rs.length) : Sol n rs c ⟨1, ofQ (shq val D), ptl n X D, [], ptl rs.length Y D⟩
  | unb (D : Int) (X Z : Nat → Int) (hX : Feas n rs D X) (hZ : Ray n rs c D Z)
      (b1 : D.natAbs ≤ Kt rs.length) (b2 : ∀ v, v < n → (X v).natAbs ≤ Kt rs.length) (b3 : ∀ v, v < n → (Z v).natAbs ≤ Kt rs.length) : Sol n rs c ⟨2, frz0, ptl n X D, ptl n Z D, []⟩
  | emp (D : Int) (Y : Nat → Int) (hY : Refu n rs D Y) (b1 : D.natAbs ≤ Kt rs.length) (b3 : ∀ i, i < rs.length → (Y i).natAbs ≤ Kt rs.length) : Sol n rs c ⟨3, frz0, [], [], ptl rs.length Y D⟩
section
variable {n : Nat} {rs : List Rw} {c : List Int} {W : Nat} {T : Tv} {bs : List Nat}
theorem dT_Kt(h:LpOk n rs c){i:Nat}{x:Vec}(hl:bs.length=rs.length+2)(hi:i<rs.length+2)(hx2:x=rhsQ rs \/∃v,x=colA n rs c v):(dT (colA n rs c) bs i x).natAbs<=Kt rs.length:=by
 have dtb:∀l:List Vec,l.length=rs.length+2 ->(∀x∈l,∀i,(x i).natAbs<=1048576) ->(dt l).natAbs<=fact (rs.length+2)*1048576 ^ (rs.length+2):=fun l hl hA=>by
  have h1:=dt_bd l hA
  rwa [hl] at h1
 unfold Kt;rcases hx2 with rfl|⟨v,rfl⟩
 · have e:rhsQ rs=comb (rhsQ rs) Go.Det.unit (rs.length+2):=by
    funext j
    unfold comb;by_cases hj:j<rs.length+2
    · rw [Yl hj fun k _ hk=>by simp [Go.Det.unit,Ne.symm hk]];simp [Go.Det.unit]
    · rw [JW j (by omega),Z4 fun k hk=>by rw [show Go.Det.unit k j=0 from if_neg (by omega),Int.mul_zero]]
   have e2:dT (colA n rs c) bs i (rhsQ rs)=sm (fun k=>rhsQ rs k*dt ((cols (colA n rs c) bs).set i (Go.Det.unit k))) (rs.length+2):=by
    unfold dT
    conv=>lhs;rw [e]
    exact Y7 (by rw [Z6];omega) _ _ _
   rw [e2]
   refine sm_natAbs fun k _=> ?_
   rw [Int.natAbs_mul]
   refine Nat.mul_le_mul ?_ (dtb _ (by rw [List.length_set,Z6];exact hl) fun x hx i=> ?_)
   · unfold rhsQ;split
     · rename_i h2;exact h.bb _ (rs_mem h2)
     · decide
   · rcases mem_set_or hx with h3|h3
     · exact cols_bd h h3 i
     · rw [h3];unfold Go.Det.unit;split <;>decide
 · refine Nat.le_trans (dtb _ (by rw [List.length_set,Z6];exact hl) fun x hx i=> ?_) ?_
   · rcases mem_set_or hx with h3|h3
     · exact cols_bd h h3 i
     · rw [h3];exact colA_bd h v i
   · exact Nat.le_trans (Nat.le_mul_of_pos_left _ (by decide)) (Nat.le_mul_of_pos_left _ (by omega))
theorem sgn_le1(d:Int):d.sign.natAbs<=1:=by rw [Int.natAbs_sign];split <;>omega
theorem tt_Kt(h:LpOk n rs c){i:Nat}{x:Vec}(hl:bs.length=rs.length+2)(hi:i<rs.length+2)(hx2:x=rhsQ rs \/∃v,x=colA n rs c v):(tt (colA n rs c) bs i x).natAbs<=Kt rs.length:=by
 unfold tt;rw [Int.natAbs_mul];have h1:=Nat.mul_le_mul (sgn_le1 (dD (colA n rs c) bs)) (dT_Kt h hl hi hx2);omega
theorem den_Kt(h:LpOk n rs c)(hP:Ph n rs c W T bs):(Go.Det.den (colA n rs c) bs).natAbs<=Kt rs.length:=by
 have:=tt_Kt h (i:=rs.length) hP.bas.len (by omega) (.inr ⟨bs.getD rs.length 0,rfl⟩)
 rwa [tt_own hP.bas.len (by omega)] at this
theorem vx_Kt(h:LpOk n rs c)(hP:Ph n rs c W T bs){x:Vec}(hx2:x=rhsQ rs \/∃v,x=colA n rs c v)(v:Nat):(vx n rs c bs x v).natAbs<=Kt rs.length:=by
 by_cases hb:∃k,k<rs.length/\ bs.getD k 0=v
 · obtain ⟨k,hk,rfl⟩:=hb;rw [vx_row hP hk];exact tt_Kt h hP.bas.len (by omega) hx2
 · rw [vx_out fun k hk e=>hb ⟨k,hk,e⟩];exact Nat.zero_le _
theorem lp_sol(hL:LpOk n rs c):∃T E F s,SolRun n rs c T E F s/\ Sol n rs c (ocOf n rs.length T E F s):=by
 have hS:=lp_sys hL
 let T:Tv:=⟨.slice none 0 0, .slice none 0 0, .slice none 0 0,List.replicate (rs.length+1) default,(rs.map fun r=>lnOf n r.cs r.b)++ [lnOf n (c.map fun x=> -x) 0],rng n rs.length,rng 0 n,1⟩
 have hB:Beg n rs c T:=⟨rfl,rfl,rfl,rfl,by show (List.replicate _ _).length=_;simp [T]⟩
 have hbl:T.bas.length=rs.length:=by rw [hB.bas,Qn]
 have hcl:T.col.length=n:=by rw [hB.col,Qn]
 obtain ⟨E,hst,hE⟩:=hB.start hL;generalize T=T at*
 have second:∀P bs,Ph n rs c (n+rs.length) P bs ->P.rows.length=rs.length+1 ->P.col.length=n ->stOut T E ((n+rs.length:Nat):Int)=P ->stRes T E=true ->
   ∃F s,SolRun n rs c T E F s/\ Sol n rs c (ocOf n rs.length T E F s):=by
  intro P bs hP hPr hPc hout hres;obtain ⟨k,F,s,bf,hR,hG,hEn,hr,hj⟩:=hP.good.ends hS (g:=rs.length) (Nat.le_refl _) (by rw [hPr];omega) (hP.small (Nat.le_refl _));have hF:Ph n rs c (n+rs.length) F bf:=⟨hG,by rw [hj _ (Nat.le_refl _)];exact hP.z,by rw [hj _ (by omega)];exact hP.w⟩;have hV:=hG.view;have hlen:=hR.lens;have hcol:∀i,0<=F.col.getD i 0:=hV.colv
  have hbas:∀i,0<=F.bas.getD i 0:=fun i=>by
   by_cases h1:i<rs.length
   · rw [hV.basv i h1];omega
   · rw [getD_ge (by rw [hV.basl];omega)];exact Int.le_refl _
  have hpt:(ptS F n F.bas.length).map ofQ=ptl n (vx n rs c bf (rhsQ rs)) (Go.Det.den (colA n rs c) bf):=by
   rw [list_range (ptS_len F n _) (fun v hv=>hF.pt_at hv),List.map_map];rfl
  have hpo:=hF.point;have hdK:=den_Kt hL hF
  have hvK:=fun v=>vx_Kt hL hF (.inl J) v
  rcases hEn with ⟨hs,h1⟩|⟨e,hs,he,h1,h2⟩
  · refine ⟨F,s,⟨hB,hst,fun h=>(by rw [hres] at h;cases h),fun _=>⟨k,by rw [hout];exact hR⟩,fun _=>⟨by rw [hr,hPr],hcol,hbas,by rw [hs];omega,by rw [hs];decide⟩⟩,?_⟩;have hdu:=hF.dual h1
    have e1:ocOf n rs.length T E F s=⟨1,ofQ (shq (F.at rs.length F.col.length) F.den),(ptS F n F.bas.length).map ofQ,[],(duS F n rs.length rs.length F.col.length).map ofQ⟩:=by
     unfold ocOf;rw [if_neg (by rw [hres];decide),if_neg (by rw [hs];decide)]
    have hdl:(duS F n rs.length rs.length F.col.length).map ofQ=ptl rs.length (yx n rs c bf rs.length) (Go.Det.den (colA n rs c) bf):=by
     rw [list_range (duS_len F n rs.length rs.length _) (fun i hi=>hF.du_at (Nat.le_refl _) (Nat.le_refl _) (by rw [hr,hPr];omega) hi),List.map_map];rfl
    rw [e1,hpt,hdl,hV.rhs rs.length (by rw [hr,hPr];omega),hV.den];exact .opt _ _ _ _ hpo.1 hpo.2 hdu.1 hdu.2 hdK (fun v _=>hvK v) (fun i _=>tt_Kt hL hF.bas.len (by omega) (.inr ⟨_,rfl⟩)) (tt_Kt hL hF.bas.len (by omega) (.inl J))
  · refine ⟨F,s,⟨hB,hst,fun h=>(by rw [hres] at h;cases h),fun _=>⟨k,by rw [hout];exact hR⟩,fun _=>⟨by rw [hr,hPr],hcol,hbas,by rw [hs];omega,by rw [hs];omega⟩⟩,?_⟩;have hcW:=hG.cov.col e he;have hcn:=hcol e;obtain ⟨v0,hv0⟩:∃v0:Nat,F.col.getD e 0=v0:=⟨(F.col.getD e 0).toNat,by omega⟩;rw [hv0,Int.toNat_natCast] at h1 h2
    have hnb:∀k,k<rs.length ->bf.getD k 0≠v0:=fun k hk e2=>by have:=hG.cov.dis e k he hk;omega
    have hra:=hF.ray (s:=v0) (by omega) hnb h1 h2
    have e1:ocOf n rs.length T E F s=⟨2,frz0,(ptS F n F.bas.length).map ofQ,(raS F n e F.bas.length).map ofQ,[]⟩:=by
     unfold ocOf;rw [if_neg (by rw [hres];decide),if_pos (by omega),hs,Int.toNat_natCast]
    have hrl:(raS F n e F.bas.length).map ofQ=ptl n (zx n rs c bf v0) (Go.Det.den (colA n rs c) bf):=by
     rw [list_range (raS_len F n e _) (fun v hv=>hF.ra_at he hv0 hv),List.map_map];rfl
    rw [e1,hpt,hrl];refine .unb _ _ _ hpo.1 hra hdK (fun v _=>hvK v) (fun v _=> ?_);have hb:=vx_Kt hL hF (x:=colA n rs c v0) (.inr ⟨_,rfl⟩) v;unfold zx;by_cases h3:v=v0
    · rw [if_pos h3,h3,vx_out hnb,Int.sub_zero];exact hdK
    · rw [if_neg h3];omega
 cases hE with
 |keep hw h hc=>
  have hout:stOut T E ((n+rs.length:Nat):Int)=T:=by unfold stOut;rw [hbl,if_pos hw]
  have hres:stRes T E=true:=by unfold stRes;rw [hbl,decide_eq_true hw];rfl
  obtain ⟨F,s,h1,h2⟩:=second T _ h hB.len hc hout hres;exact ⟨T,E,F,s,h1,h2⟩
 |none bs hw h hv ha=>
  have hres:stRes T E=false:=by unfold stRes;rw [hbl,hcl,decide_eq_false (by omega),decide_eq_true ha];rfl
  have hP:=h.ph;have hV:=hP.good.view
  have e1:ocOf n rs.length T E E 0=⟨3,frz0,[],[],(duS E n rs.length (rs.length+1) E.col.length).map ofQ⟩:=by
   unfold ocOf;rw [if_pos hres]
  have hdl:(duS E n rs.length (rs.length+1) E.col.length).map ofQ=ptl rs.length (yx n rs c bs (rs.length+1)) (Go.Det.den (colA n rs c) bs):=by
   rw [list_range (duS_len E n rs.length (rs.length+1) _) (fun i hi=>hP.du_at (by omega) (by omega) (by rw [h.rows];omega) hi),List.map_map];rfl
  refine ⟨T,E,E,0,⟨hB,hst,fun _=>⟨hV.gd hS hP.good.hl hP.good.few hP.good.thin,h.rows,hV.colv⟩,fun h1=>(by rw [hres] at h1;cases h1),fun h1=>(by rw [hres] at h1;cases h1)⟩,?_⟩;rw [e1,hdl];exact .emp _ _ (h.refu hv) (den_Kt hL hP) (fun i _=>tt_Kt hL hP.bas.len (by omega) (.inr ⟨_,rfl⟩))
 |some bs hw ha h hc hr=>
  have hout:stOut T E ((n+rs.length:Nat):Int)=stE3 E rs.length n ((n+rs.length:Nat):Int):=by unfold stOut;rw [hbl,hcl,if_neg (by omega),if_neg ha]
  have hres:stRes T E=true:=by unfold stRes;rw [hbl,hcl,decide_eq_false ha];simp
  obtain ⟨F,s,h1,h2⟩:=second _ _ h hr hc hout hres;exact ⟨T,E,F,s,h1,h2⟩
theorem sm_mul_r(f:Nat ->Int)(c:Int)(n:Nat):sm (fun k=>f k*c) n=sm f n*c:=by
 rw [Xl (g:=fun k=>c*f k) fun k _=>Int.mul_comm _ _,Y3,Int.mul_comm]
theorem comb_swap(rs:List Rw)(X Y:Nat ->Int)(n:Nat):sm (fun j=>sm (fun i=>ca rs i j*Y i) rs.length*X j) n=sm (fun i=>Y i*sm (fun j=>ca rs i j*X j) n) rs.length:=by
 rw [Xl (g:=fun j=>sm (fun i=>ca rs i j*Y i*X j) rs.length) fun j _=>(sm_mul_r _ _ _).symm];rw [sm_swap (fun i j=>ca rs i j*Y i*X j) rs.length n]
 exact Xl fun i _=>by
  rw [<- Y3]
  exact Xl fun j _=>by grind
theorem weak{D D' :Int}{X Y:Nat ->Int}(hX:Feas n rs D X)(hY:Dual n rs c D' Y):D' *sm (fun j=>c.getD j 0*X j) n<=D*sm (fun i=>cb rs i*Y i) rs.length:=by
 have h1:D' *sm (fun j=>c.getD j 0*X j) n<=sm (fun j=>sm (fun i=>ca rs i j*Y i) rs.length*X j) n:=by
  rw [<- Y3]
  refine sm_le fun j hj=> ?_
  have:=Int.mul_le_mul_of_nonneg_right (hY.col j hj) (hX.nn j hj);rw [<- Int.mul_assoc];exact this
 rw [comb_swap] at h1
 refine Int.le_trans h1 ?_
 rw [<- Y3]
 refine sm_le fun i hi=> ?_
 have:=Int.mul_le_mul_of_nonneg_left (hX.row i hi) (hY.nn i hi)
 have e:Y i*(D*cb rs i)=D*(cb rs i*Y i):=by grind
 rw [<- e];exact this
theorem no_refu{D D' :Int}{X Y:Nat ->Int}(hX:Feas n rs D X)(hY:Refu n rs D' Y):False:=by
 have h1:0<=sm (fun j=>sm (fun i=>ca rs i j*Y i) rs.length*X j) n:=sm_nonneg fun j hj=>Int.mul_nonneg (hY.col j hj) (hX.nn j hj)
 rw [comb_swap] at h1
 have h2:sm (fun i=>Y i*sm (fun j=>ca rs i j*X j) n) rs.length<=D*sm (fun i=>cb rs i*Y i) rs.length:=by
  rw [<- Y3]
  refine sm_le fun i hi=> ?_
  have:=Int.mul_le_mul_of_nonneg_left (hX.row i hi) (hY.nn i hi)
  have e:Y i*(D*cb rs i)=D*(cb rs i*Y i):=by grind
  rw [<- e];exact this
 have h3:=Int.mul_neg_of_pos_of_neg hX.den hY.neg;omega
theorem no_ray{D D' :Int}{Z Y:Nat ->Int}(hZ:Ray n rs c D Z)(hY:Dual n rs c D' Y):False:=by
 have h1:D' *sm (fun j=>c.getD j 0*Z j) n<=sm (fun j=>sm (fun i=>ca rs i j*Y i) rs.length*Z j) n:=by
  rw [<- Y3]
  refine sm_le fun j hj=> ?_
  have:=Int.mul_le_mul_of_nonneg_right (hY.col j hj) (hZ.nn j hj);rw [<- Int.mul_assoc];exact this
 rw [comb_swap] at h1
 have h2:sm (fun i=>Y i*sm (fun j=>ca rs i j*Z j) n) rs.length<=sm (fun _=>0) rs.length:=sm_le fun i hi=>Int.mul_nonpos_of_nonneg_of_nonpos (hY.nn i hi) (hZ.row i hi)
 rw [Z4 (f:=fun _=>0) fun _ _=>rfl] at h2;have h3:=Int.mul_pos hY.den hZ.goal;omega
end
theorem zvOut:(prog.info? 75).map (·.zero)=some (some (.agg #[.int .i64 0, .bool false, .slice none 0 0, .slice none 0 0, .slice none 0 0, .slice none 0 0, .slice none 0 0])):=by kernel_rfl
theorem lOut:LdN prog 75 7:=LdN.of _ underlying75 rfl (by kernel_rfl)
theorem szOut:(prog.info? 75).map (·.size)=some 7:=by kernel_rfl
theorem bOut:bInfo prog 75=some (.agg #[.int .i64 0, .bool false, .slice none 0 0, .slice none 0 0, .slice none 0 0, .slice none 0 0, .slice none 0 0],[(0,some 1),(1,some 3),(4,some 1),(5,some 1),(6,some 1)]):=by kernel_rfl
abbrev ocCs (O : Oc) : List CT := [intC O.kind, boolC O.value.neg, natC O.value.num, natC O.value.den, fracsC O.point, fracsC O.ray, fracsC O.dual]
abbrev ocC (O : Oc) : CT := .agg (ocCs O)
def oc0 : Oc := ⟨0, frz0, [], [], []⟩
theorem stOut_none{T E:Tv}{art:Int}(h:stRes T E=false):stOut T E art=E:=by
 unfold stRes at h;rw [Bool.or_eq_false_iff] at h;have h1:=of_decide_eq_false h.1
 have h2:E.at (T.bas.length+1) (T.col.length+1)<0:=by
  have:=h.2
  simpa using this
 unfold stOut;rw [if_neg h1,if_pos h2]
theorem lp_rw{n:Nat}{rs:List Rw}{c:List Int}(h:LpOk n rs c):(∀r∈rs,OkRw n r)/\ Okc c:=by
 have big:∀z:Int,z.natAbs<=4503599627370496 -> -1152921504606846976<=z/\ z<=1152921504606846976:=fun z hz=>by omega
 have ok:∀xs:List Int,(∀i,(xs.getD i 0).natAbs<=1048576) ->Okc xs:=fun xs hx x hm=>by
  obtain ⟨i,hi,rfl⟩:=List.getElem_of_mem hm;have:=hx i;rw [List.getD_eq_getElem?_getD,List.getElem?_eq_getElem hi] at this;exact big _ (Nat.le_trans this (by decide))
 exact ⟨fun r hr=>⟨h.rl r hr,ok _ (h.rb r hr),(big _ (h.bb r hr)).1,(big _ (h.bb r hr)).2⟩,ok _ h.cb⟩
theorem wh_of{T T0:Tv}(h1:T.rows=T0.rows)(h2:T.bas=T0.bas)(h3:T.col=T0.col)(h4:T.den=T0.den):T=T0.wh T:=by
 cases T;cases T0;simp only at h1 h2 h3 h4;subst h1;subst h2;subst h3;subst h4;rfl
def kpB (j : Nat) : Bool := Nat.ble 4 j && Nat.blt j 10
theorem Solve_ok(n:Nat)(rs:List Rw)(c:List Int)(hL:LpOk n rs c)(hv:validR n rs=true)(hc:okCoeffs n c=true){T0 E F:Tv}{s:Int}(R:SolRun n rs c T0 E F s):Ok prog 47 [intC n,rowsC rs,intsC c] (.tup [ocC (ocOf n rs.length T0 E F s),intC 0]):=by
 have hn:=hL.nn;have hm:=hL.mm;have hV:=LValid_ok n rs (by omega) (fun r hr=>by have:=hL.rl r hr;omega);have hC:=validCoeffs_ok n c (by have:=hL.cl;omega);rw [hv] at hV;rw [hc] at hC;have hB:=begin_ok n rs c (by omega) (by omega) (lp_rw hL).1 (lp_rw hL).2 hL.cl;have hGd:=R.beg.view.gd (lp_sys hL) R.beg.hl (by rw [R.beg.len];omega) (by rw [R.beg.col,Qn];omega);have hT0l:=R.beg.len
 have hT0c:T0.col.length=n:=by rw [R.beg.col,Qn]
 have hT0b:T0.bas.length=rs.length:=by rw [R.beg.bas,Qn]
 refine Ok.enter func47 J _ ntmps47 J ?_
 intro S w;refine Xc (XJ ?_);refine Xh 4 J J zvOut J J J (Xa J J J (Qz (Qt (Xc (Xc ?_)))));refine XJ (Qg J J J (Qg J J J (Zy (gT J) hV J J J J (Ops.inot J J J (Qg J J J (Qg J J J (Qg J J J (Zy (gT J) hC J J J J (Ops.inot J J J (Ops.pickF J J J J (Qz (Qt (St.condF J (St.skip (Qt (Xc ?_))))))))))))))));refine XJ (Qg J J J (Ops.lenF J J sRows.und (List.length_map ..) J (Xa J J J (Qz (Qt (Xc ?_))))));refine XJ (Qg J J J (Qg J J J (Qg J J J (Ops.callM [(4,_)] kpB (gT J) hB J J J (fun gb hg=>hg.elim) (fun _=>rfl) (fun j hj=> ?_) (fun j hj=> ?_) (fun p hp=>absurd hp (by simp)) (fun q j hq=> ?_) (fun T hT=> ?_)))))
 · have hj4:j=4:=by
    by_cases h4:4=j
    · exact h4.symm
    · rw [QX _ _ h4] at hj;cases hj
   subst hj4;exact ⟨rfl,fun q=>tab_none (by decide) (by decide)⟩
 · unfold kpB at hj;rw [Bool.and_eq_true] at hj
   exact .inr fun q=>tab_none (Nat.le_of_ble_eq_true hj.1) (Nat.le_of_ble_eq_true hj.2)
 · rcases hq with hq|⟨o,hq⟩ <;>cases hq;rfl
 obtain ⟨H,rfl⟩:∃H:Tv,T=T0.wh H:=⟨T,wh_of (hT.rows.trans R.beg.rows.symm) (hT.bas.trans R.beg.bas.symm) (hT.col.trans R.beg.col.symm) (hT.den.trans R.beg.den.symm)⟩
 have hHl:H.hl.length=T0.rows.length:=by have:=hT.hl;rw [hT0l];exact this
 have hst:=start_ok (T0.wh H) (E.wh {H with hl:=H.hl++ [default]}) ((n+rs.length:Nat):Int) (by omega) (by omega) (hGd.fit.wh hHl) (by show T0.rows.length=T0.bas.length+1;omega) (hGd.wh hHl).short (fun h hh=>by
  obtain ⟨gb,hg⟩:=hT.lines h hh
  exact ⟨gb,by rw [hg];show Value.slice _ (n+1) (n+1)=kh gb 0 (T0.col.length+1) (T0.col.length+1);rw [hT0c]⟩) (fun hw=>by
   rw [show (T0.wh H).bas=T0.bas from rfl,wrS_wh,hT0b] at hw
   exact (R.start hw).wh H hHl) (by show T0.rows.length<=90;omega) (by show T0.col.length<=90;omega)
 rw [stRes_wh] at hst
 refine Ops.reB (B' :=[(4,_)]++tabB (T0.wh H)) (fun j=>tab_swap J _ j) ?_
 refine Xa J J J (Qz (Qt (Xc (Xc ?_))));refine XJ (Qg J J J (Qg J J J (Qg J J J (Qh (iadd (by omega) (by omega)) J J J J ?_))));rw [show (n:Int)+(rs.length:Int)=((n+rs.length:Nat):Int) from (Int.natCast_add ..).symm];refine X3 [(4,_)] (gT J) hst J J J (fun gb hg=>hg.elim) J J (fun p hp=>absurd hp (by simp)) (fun H1 hH1=> ?_);rw [stOut_wh];rw [stOut_rows] at hH1;have hE:=R.eg;have hRu:=R.run;have hFr:=R.fr
 have hoc:ocOf n rs.length T0 E F s=if stRes T0 E=false then ⟨3,frz0,[],[],(duS E n rs.length (rs.length+1) E.col.length).map ofQ⟩ else if 0<=s then ⟨2,frz0,(ptS F n F.bas.length).map ofQ,(raS F n s.toNat F.bas.length).map ofQ,[]⟩ else ⟨1,ofQ (shq (F.at rs.length F.col.length) F.den),(ptS F n F.bas.length).map ofQ,[],(duS F n rs.length rs.length F.col.length).map ofQ⟩:=rfl
 generalize hP:stOut T0 E ((n+rs.length:Nat):Int)=P at*;clear hst hV hC hB hGd hT
 cases hres:stRes T0 E with
 |false=>
  rw [if_pos hres] at hoc;obtain ⟨hGE,hEr,hEc⟩:=hE hres;rw [stOut_none hres] at hP;subst hP;have hdu:=dual_ok (E.wh H1) (hGE.wh hH1) n rs.length (rs.length+1) (by omega) (by omega) (by show _<E.rows.length;omega) hEc;rw [duS_wh] at hdu;refine Ops.inot J J J (Qz (Qt (St.condT J (Xc ?_))));refine XJ (Qg J J J (Qg J J J (Qg J J J (Qg J J J (Qh (iadd (by omega) (by omega)) J J J J ?_)))));refine X3 [(4,_)] (gT J) hdu J J J (fun gb hg=>hg.elim) J J (fun p hp=>absurd hp (by simp)) (fun _ _=> ?_);refine Yf J bOut J (.one J J J J (.one J J J J .nil)) J (Zu 7 J J J J J szOut J J (Xa J J J (Qz (Qt (St.ret (Zl ?_))))))
  have hw:argW [.ex (.int .i64 3), .ex (.bool false), .ex (.slice none 0 0), .ex (.slice none 0 0), .ex (.slice none 0 0), .ex (.slice none 0 0),fracsC ((duS E n rs.length (rs.length+1) E.col.length).map ofQ)] (ocCs (ocOf n rs.length T0 E F s)):=by
   rw [hoc];exact ⟨Zx,Zx,w_nat0,w_nat0,Zp,Zp,Zx,trivial⟩
  refine X5 [_,_] rfl (Xv (w_agg hw) (Qi J J lOut J (Q4 J Q3))) J J
 |true=>
  rw [if_neg (by rw [hres];decide)] at hoc;obtain ⟨k,hk⟩:=hRu hres;obtain ⟨hF1,hF2,hF3,hF4,hF5⟩:=hFr hres;have hlen:=hk.lens;have hGF:=hk.last;have hG1:=hGF.wh (H:=H1) (by rw [hH1,hlen.1]);have hmx:=maximize_ok (P.wh H1) (F.wh H1) rs.length s k (hk.wh hH1) (by show _<P.rows.length;omega);refine Ops.inot J J J (Qz (Qt (St.condF J (St.skip (Qt (Xc (Xc ?_)))))));refine XJ (Qg J J J (Qg J J J (X3 [(4,_)] (gT J) hmx J J J (fun gb hg=>hg.elim) J J (fun p hp=>absurd hp (by simp)) (fun _ _=> ?_))));have hpt:=point_ok (F.wh H1) hG1 n (by omega) hF3;rw [ptS_wh] at hpt;refine Xa J J J (Qz (Qt (Xc ?_)));refine XJ (Qg J J J (Qh igeq J J J J (Qz (Qt ?_))));refine Qy J (fun h0=> ?_) (fun h0=> ?_)
  · rw [if_pos h0] at hoc;obtain ⟨e,rfl⟩:∃e:Nat,s=e:=⟨s.toNat,by omega⟩;rw [Int.toNat_natCast] at hoc;have hra:=ray_ok (F.wh H1) hG1 n e (by omega) (by show e<F.col.length;omega) hF3 hF2;rw [raS_wh] at hra;refine Xc (XJ ?_);refine Qg J J J (Qg J J J (X3 [(4,_)] (gT J) hpt J J J (fun gb hg=>hg.elim) J J (fun p hp=>absurd hp (by simp)) (fun _ _=> ?_)));refine Qg J J J (Qg J J J (Qg J J J (X3 [(4,_)] (gT J) hra J J J (fun gb hg=>hg.elim) J J (fun p hp=>absurd hp (by simp)) (fun _ _=> ?_))));refine Yf J bOut J (.one J J J J (.one J J J J (.one J J J J .nil))) J (Zu 7 J J J J J szOut J J (Xa J J J (Qz (Qt (St.ret (Zl ?_))))))
    have hw:argW [.ex (.int .i64 2), .ex (.bool false), .ex (.slice none 0 0), .ex (.slice none 0 0),fracsC ((ptS F n F.bas.length).map ofQ),fracsC ((raS F n e F.bas.length).map ofQ), .ex (.slice none 0 0)] (ocCs (ocOf n rs.length T0 E F e)):=by
     rw [hoc];exact ⟨Zx,Zx,w_nat0,w_nat0,Zx,Zx,Zp,trivial⟩
    refine X5 [_,_] rfl (Xv (w_agg hw) (Qi J J lOut J (Q4 J Q3))) J J
  · rw [if_neg h0] at hoc;have hdu:=dual_ok (F.wh H1) hG1 n rs.length rs.length (by omega) (by omega) (by show _<F.rows.length;omega) hF2;rw [duS_wh] at hdu;have ssh:=hGF.short rs.length F.col.length;have hsh:=share_ok (F.wh H1) (F.at rs.length F.col.length) (by omega) hG1.den (Nat.le_trans hG1.dens (by decide))
    have km:(rs.length:Int).toNat*1=rs.length:=by omega
    have kc:(F.col.length:Int).toNat*2=F.col.length*2:=by omega
    have hrow:=hGF.fit.row rs.length (by omega);have hthin:=hGF.fit.thin;refine St.skip (Qt (Xc ?_));refine St.drawQ mixed [15,18,23,25] (.p 0 (.p 1 (.p 2 (.p 3 (.p 5 (.p 8 (.p 9 (.p 10 (.p 16 (.p 17 (.p 19 (.p 20 (.p 21 (.p 22 (.f 4 (.p 6 (.f 7 (.f 11 (.p 12 (.p 13 (.f 14 (.a 15 (.a 18 (.a 23 (.p 24 (.a 25 (.p 26 .done) .non)) .non) .non) .non)))))))))))))))))))))) (by kernel_rfl) (fun K hK=> ?_);refine X7 (Qg J J J (Qz (X7 (Qg J J J (Qz (X7 (Ops.nilCheckO J J J J (Qz (X7 (Z1 J J J fT0 J (Qz (X7 (Qg J J J (Qz (X7 (Qg J J J (Qz (X7 (Ops.nilCheckO J J J J (Qz (X7 (Z1 J J J fT2 J (Qz (X7 (Qg J J J (Qz (X7 (Qg J J J (Qz (X7 (Qg J J J (Qz (X7 (Qg J J J (Qz (X7 (Qg J J J (Qz (X7 (Qg J J J (Qz (Xt (QK J J J J J lMat J (Qz (X7 (Q5 1 (rs.length+1) J J J (by rw [List.length_map];show H1.hl.length=_;rw [hH1,<- hlen.1];omega) J sMat (by omega) (by omega) J ?_))))))))))))))))))))))))))))))))))))))))))))));rw [km];refine Qz (Xt (QK J J J J (Yw (by show _<H1.hl.length;rw [hH1,<- hlen.1];omega)) lWhs J ?_));refine Qz (Xt (QK J J J J J lInts J (Qz (X7 (ZU 3 F.col.length J J J (by decide) (by show (ints F.col).length=_;simp) sInts.und J ?_)))))
    refine Qz (X7 (Q5 (rs.length+10) (F.col.length+1) J J (Qs (by show _<H1.hl.length;rw [hH1,<- hlen.1];omega) (by show _<F.rows.length;omega)) (by rw [XV];show (F.rows.getD rs.length []).length*2=_;rw [hrow]) J sWhs (by omega) (by omega) J ?_));rw [kc];refine Qz (Xt (ldWh J J J (Qs (by show _<H1.hl.length;rw [hH1,<- hlen.1];omega) (by show _<F.rows.length;omega)) J (by show _<(F.rows.getD rs.length []).length;omega) lWh J ?_));refine Qz (Q0 ?_ Qu);refine X3 [(4,_)] (gT J) hsh J J J (fun gb hg=>hg.elim) J J (fun p hp=>absurd hp (by simp)) (fun _ _=> ?_);refine Qz (Q0 ?_ Qu);refine X3 [(4,_)] (gT J) hpt J J J (fun gb hg=>hg.elim) J J (fun p hp=>absurd hp (by simp)) (fun _ _=> ?_);refine Qz (Q0 ?_ Qu);refine X3 [(4,_)] (gT J) hdu J J J (fun gb hg=>hg.elim) J J (fun p hp=>absurd hp (by simp)) (fun _ _=> ?_);refine Qz (X7 (Yf J bOut J (.one J J J J (.agg J J J J (.one J J J J (.one J J J J .nil)))) J (Qz (Q0 ?_ Qu))));refine Zu 7 J J J J J szOut J J (Qz (X7 (Xa J J J (Qz (Qb (hK _ _ ?_))))));clear hK K;refine Qt (St.ret ?_)
    have hw:argW ([.ex (.int .i64 1)]++frCs (ofQ (shq (F.at rs.length F.col.length) F.den))++ [fracsC ((ptS F n F.bas.length).map ofQ), .ex (.slice none 0 0),fracsC ((duS F n rs.length rs.length F.col.length).map ofQ)]) (ocCs (ocOf n rs.length T0 E F s)):=by
     rw [hoc];exact ⟨Zx,Zx,Zx,Zx,Zx,Zp,Zx,trivial⟩
    refine X5 [_,_] rfl (Xv (w_agg hw) (Qi J J lOut J (Q4 J Q3))) J J
section
variable {n : Nat} {rs : List Rw} {c : List Int}
def rsum (n : Nat) (cs : List Int) (X : Nat → Int) : Int := sm (fun j => cs.getD j 0 * X j) n
theorem rws_at{r:Rw}(h:r∈rs):∃a,a<rs.length/\ rs.getD a rw0=r:=by
 obtain ⟨a,ha,e⟩:=List.getElem_of_mem h;exact ⟨a,ha,by rw [List.getD_eq_getElem?_getD,List.getElem?_eq_getElem ha];exact e⟩
theorem sm_ind(f:Nat ->Int){a m:Nat}(h:a<m):sm (fun i=>f i*(if i=a then 1 else 0)) m=f a:=by
 rw [Yl h (fun k _ hk=>by rw [if_neg hk,Int.mul_zero]),if_pos J,Int.mul_one]
theorem dual_one{r1:Rw}(h1:r1∈rs)(hc:∀j,j<n ->c.getD j 0<=r1.cs.getD j 0):∃Y,Dual n rs c 1 Y/\ sm (fun i=>cb rs i*Y i) rs.length=r1.b:=by
 obtain ⟨a,ha,ea⟩:=rws_at h1;refine ⟨fun i=>if i=a then 1 else 0,⟨by decide,fun i _=>by split <;>decide,fun j hj=> ?_⟩,?_⟩
 · rw [sm_ind (fun i=>ca rs i j) ha,Int.one_mul];show _<=(rs.getD a rw0).cs.getD j 0;rw [ea];exact hc j hj
 · rw [sm_ind (fun i=>cb rs i) ha];show (rs.getD a rw0).b=_;rw [ea]
end
structure Btw (A B : Int) (f : Fr) : Prop where
  den : 0 < f.den
  lo : A * f.den ≤ sg f.neg f.num
  hi : sg f.neg f.num ≤ B * f.den
theorem mkRat_rel(val:Int){d:Nat}(hd:0<d):val*(mkRat val d).den=(mkRat val d).num*d:=
 (Rat.mkRat_eq_iff (n₁:=val) (d₁:=d) (n₂:=(mkRat val d).num) (d₂:=(mkRat val d).den) (by omega) (mkRat val d).den_nz).1 (Rat.mkRat_self _).symm
theorem btw_of{A B val D:Int}(hD:0<D)(h1:A*D<=val)(h2:val<=B*D):Btw A B (ofQ (shq val D)):=by
 obtain ⟨d,rfl⟩:∃d:Nat,D=d:=⟨D.toNat,by omega⟩
 have e:shq val (d:Int)=mkRat val d:=by unfold shq;rw [Int.natAbs_natCast]
 rw [e];have h:=mkRat_rel val (d:=d) (by omega);have hp:=(mkRat val d).den_pos;have hs:=ofQ_sg (mkRat val d);have hd:(ofQ (mkRat val d)).den=(mkRat val d).den:=rfl;refine ⟨hp,?_,?_⟩
 · rw [hs,hd];generalize (mkRat val d).den=q at*;generalize (mkRat val d).num=p at*
   refine Int.le_of_mul_le_mul_right ?_ hD
   rw [<- h];have:=Int.mul_le_mul_of_nonneg_right h1 (show 0<=(q:Int) by omega);rw [show A*(q:Int)*d=A*d*q by grind];exact this
 · rw [hs,hd];generalize (mkRat val d).den=q at*;generalize (mkRat val d).num=p at*
   refine Int.le_of_mul_le_mul_right ?_ hD
   rw [<- h];have:=Int.mul_le_mul_of_nonneg_right h2 (show 0<=(q:Int) by omega);rw [show B*(q:Int)*d=B*d*q by grind];exact this
theorem flV_btw{A B:Int}{f:Fr}(h:Btw A B f)(hA: -1152921504606846976<=A)(hB:B<=1152921504606846976):A<=flV f/\ flV f<=B:=by
 have hz:=floor_sg f.neg f.num f.den h.den;have h1:A<=sg f.neg f.num/(f.den:Int):=Int.le_ediv_of_mul_le (by have:=h.den;omega) h.lo;have h2:sg f.neg f.num/(f.den:Int)<=B:=Int.ediv_le_of_le_mul (by have:=h.den;omega) h.hi;rw [<- hz] at h1 h2;have h3:=natAbs_sg f.neg (rnd f.num f.den f.neg);unfold flV;rw [if_pos (by omega)];exact ⟨h1,h2⟩
theorem Kt_mono{m:Nat}(h:m<=64):Kt m<=Kt 64:=by
 unfold Kt;exact Nat.mul_le_mul (by omega) (Nat.mul_le_mul_left _ (Nat.mul_le_mul (fact_mono (by omega)) (Nat.pow_le_pow_right (by decide) (by omega))))
theorem Kt_len{m:Nat}(h:m<=64){x:Nat}(hx:x<=Kt m):(limbs x).length<=100:=Q6 (Nat.lt_of_le_of_lt (Nat.le_trans hx (Kt_mono h)) (by decide+kernel))
theorem sol_btw{n:Nat}{rs:List Rw}{c:List Int}{O:Oc}(h:Sol n rs c O)(hm:rs.length<=64){X Y:Nat ->Int}(hX:Feas n rs 1 X)(hY:Dual n rs c 1 Y):
  O.kind=1/\ Btw (rsum n c X) (sm (fun i=>cb rs i*Y i) rs.length) O.value:=by
 cases h with
 |opt D X' Y' val hX' hv hY' hw b1 b2 b3 b4=>
  refine ⟨rfl,btw_of hX'.den ?_ ?_⟩
  · have:=weak hX hY';rw [hw,Int.one_mul] at this;rw [Int.mul_comm];exact this
  · have:=weak hX' hY;rw [hv,Int.one_mul] at this;rw [Int.mul_comm];exact this
 |unb D X' Z hX' hZ=>exact (no_ray hZ hY).elim
 |emp D Y' hY' =>exact (no_refu hX hY').elim
theorem sol_len{n:Nat}{rs:List Rw}{c:List Int}{O:Oc}(h:Sol n rs c O)(hm:rs.length<=64):(limbs O.value.num).length<=100/\ (limbs O.value.den).length<=100/\ (O.kind=1 ->0<O.value.den):=by
 have h0:(limbs 0).length<=100:=by rw [limbs_zero];exact Nat.zero_le _
 cases h with
 |opt D X' Y' val hX' hv hY' hw b1 b2 b3 b4=>
  have hD:=hX'.den;have hr:=redF_q (decide (val<0)) val.natAbs D.natAbs (by omega);rw [sg_natAbs] at hr;have e:ofQ (shq val D)=redF (decide (val<0)) val.natAbs D.natAbs:=hr.symm;refine ⟨?_,?_,fun _=>(shq val D).den_pos⟩
  · show (limbs (ofQ (shq val D)).num).length<=100;rw [e];exact Nat.le_trans (Qm (Nat.div_le_self _ _)) (Kt_len hm b4)
  · show (limbs (ofQ (shq val D)).den).length<=100;rw [e];exact Nat.le_trans (Qm (Nat.div_le_self _ _)) (Kt_len hm b1)
 |unb=>exact ⟨h0,h0,fun h=>by cases h⟩
 |emp=>exact ⟨h0,h0,fun h=>by cases h⟩
theorem lpOf{n:Int}{rs:List Rw}{c:List Int}(hv:validR n rs=true)(hc:okCoeffs n c=true):∃N:Nat,n=N/\ LpOk N rs c:=by
 obtain ⟨v1,v2,v3,v4⟩:=Jw hv;obtain ⟨N,rfl⟩:∃N:Nat,n=N:=⟨n.toNat,by omega⟩
 have bdd:∀xs:List Int,(∀y∈xs,y.natAbs<=1048576) ->∀i,(xs.getD i 0).natAbs<=1048576:=fun xs hx i=>by
  rcases Nat.lt_or_ge i xs.length with h|h
  · exact hx _ (XX h)
  · rw [getD_ge h];decide
 unfold okCoeffs at hc;rw [Bool.and_eq_true] at hc;have h1:=of_decide_eq_true hc.1
 have h2:∀y∈c,y.natAbs<=1048576:=fun y hy=>by
  have h3:c.any badC=false:=by simpa using hc.2
  have h4:=List.any_eq_false.1 h3 y hy;unfold badC at h4;simp only [Bool.or_eq_true,decide_eq_true_eq,not_or] at h4;omega
 exact ⟨N,rfl,⟨by omega,v3,by omega,bdd c h2,fun r hr=>by have:=(v4 r hr).1;omega,fun r hr=>bdd _ (v4 r hr).2.1,fun r hr=>(v4 r hr).2.2⟩⟩
theorem mkR_le{a b:Int}{d e:Nat}(hd:0<d)(he:0<e)(h:a*e<=b*d):mkRat a d<=mkRat b e:=by
 cases ep:mkRat a d with
 |mk' pn pd z1 c1=>
  cases eq:mkRat b e with
  |mk' qn qd z2 c2=>
   obtain ⟨m,hm,e1,e2⟩:=Rat.mkRat_num_den (by omega) ep;obtain ⟨k,hk,e3,e4⟩:=Rat.mkRat_num_den (by omega) eq;rw [Rat.le_iff];dsimp only;subst e1 e2 e3 e4;rw [Int.natCast_mul,Int.natCast_mul] at h
   have hmk:(0:Int)<(m:Int)*k:=by exact_mod_cast Nat.mul_pos (Nat.pos_of_ne_zero hm) (Nat.pos_of_ne_zero hk)
   refine Int.le_of_mul_le_mul_left ?_ hmk
   rw [show (m:Int)*k*(pn*qd)=pn*m*(qd*k) by grind,show (m:Int)*k*(qn*pd)=qn*k*(pd*m) by grind];exact h
theorem shq_mul(a k D:Int):shq (k*a) D=shq a D*(k:Rat):=by
 unfold shq;rw [<- Rat.mkRat_one k,Rat.mkRat_mul_mkRat,Nat.mul_one,Int.mul_comm]
theorem shq_add(a b D:Int):shq (a+b) D=shq a D+shq b D:=by
 unfold shq;rcases Nat.eq_zero_or_pos D.natAbs with h|h
 · rw [h,Rat.mkRat_zero,Rat.mkRat_zero,Rat.mkRat_zero,Rat.add_zero]
 · rw [Rat.mkRat_add_mkRat _ _ (by omega) (by omega),<- Int.add_mul,Rat.mkRat_mul_right (by omega)]
theorem ptl_at{n:Nat}{X:Nat ->Int}{D:Int}{k:Nat}(h:k<n):(ptl n X D).getD k fr0=ofQ (shq (X k) D):=by
 unfold ptl;simp [List.getD_eq_getElem?_getD,List.getElem?_map,h]
theorem ptl_len(n:Nat)(X:Nat ->Int)(D:Int):(ptl n X D).length=n:=by simp [ptl]
theorem psum_ptl(c:List Int)(n:Nat)(X:Nat ->Int)(D:Int):∀k,k<=n ->psum c (ptl n X D) k=shq (sm (fun j=>c.getD j 0*X j) k) D
 |0,_=>by simp [psum,sm,Ys]
 |k+1,h=>by
  simp only [psum,sm]
  rw [psum_ptl c n X D k (by omega),ptl_at (by omega),Ym,shq_add,shq_mul,Rat.mul_comm]
theorem sm_tail(f:Nat ->Int){m n:Nat}(h:m<=n)(hz:∀k,m<=k ->f k=0):sm f n=sm f m:=by
 obtain ⟨k,rfl⟩:=Nat.le.dest h;rw [sm_app,Z4 (f:=fun j=>f (m+j)) fun j _=>hz _ (by omega),Int.add_zero]
theorem vsum_ptl(c:List Int)(n:Nat)(X:Nat ->Int)(D:Int)(h:c.length<=n):vsum c (ptl n X D)=shq (sm (fun j=>c.getD j 0*X j) n) D:=by
 unfold vsum;rw [ptl_len,Nat.min_eq_left h,psum_ptl c n X D _ h,sm_tail _ h fun k hk=>by rw [getD_ge hk,Int.zero_mul]]
theorem cmpQ_neg{p q:Rat}:cmpQ p q<0↔p<q:=by
 rw [Rat.lt_iff];unfold cmpQ;rw [Int.sign_neg_iff];omega
theorem cmpQ_le_iff{p q:Rat}:cmpQ p q<=0↔p<=q:=by
 rw [Rat.le_iff];unfold cmpQ;rw [Int.sign_nonpos_iff];omega
theorem cmpQ_self(p:Rat):cmpQ p p=0:=by unfold cmpQ;rw [Int.sub_self];rfl
theorem shq_le_int{a D b:Int}(hD:0<D)(h:a<=D*b):shq a D<=(b:Rat):=by
 rw [<- Rat.mkRat_one b];unfold shq;exact mkR_le (by omega) (by omega) (by rw [show ((D.natAbs:Nat):Int)=D by omega];have:=Int.mul_comm b D;omega)
theorem int_le_shq{a D b:Int}(hD:0<D)(h:D*b<=a):(b:Rat)<=shq a D:=by
 rw [<- Rat.mkRat_one b];unfold shq;exact mkR_le (by omega) (by omega) (by rw [show ((D.natAbs:Nat):Int)=D by omega];have:=Int.mul_comm b D;omega)
theorem shq_num_sign{a D:Int}(hD:0<D):(0<=a ->0<=(shq a D).num)/\ (a<0 ->(shq a D).num<0)/\ (0<a ->0<(shq a D).num):=by
 have key:∃m:Nat,m≠0/\ a=(shq a D).num*m:=by
  unfold shq
  cases e:mkRat a D.natAbs with
  |mk' p d z c=>
   obtain ⟨m,hm,e1,e2⟩:=Rat.mkRat_num_den (by omega) e;exact ⟨m,hm,e1⟩
 obtain ⟨m,hm,e⟩:=key
 have hm' :(0:Int)<m:=by omega
 generalize (shq a D).num=q at e;subst e;refine ⟨fun h=> ?_,fun h=> ?_,fun h=> ?_⟩
 · exact Int.not_lt.1 fun h1=>by have:=Int.mul_neg_of_neg_of_pos h1 hm';omega
 · exact Int.not_le.1 fun h1=>by have:=Int.mul_nonneg h1 (Int.le_of_lt hm');omega
 · exact Int.not_le.1 fun h1=>by have:=Int.mul_nonneg (Int.neg_nonneg_of_nonpos h1) (Int.le_of_lt hm');rw [Int.neg_mul] at this;omega
end Go.Proofs.YtfimckpnnbibcaaGreat
