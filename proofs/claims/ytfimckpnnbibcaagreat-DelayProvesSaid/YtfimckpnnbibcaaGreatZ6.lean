/- The proof that DelayProves holds for every input, without conditions: part 6 of 7. -/
import Derived.Test.YtfimckpnnbibcaaGreatZ5
import Derived.ProofKit
import Derived.OpenShut
import Derived.ShutString
import Derived.ChangeOld
import Derived.DataElems
set_option maxHeartbeats 32000000
set_option maxRecDepth 100000
namespace Go.Proofs.YtfimckpnnbibcaaGreat
open Go.Limbs Go.Own Go.Proofs.Tryz
attribute [local irreducible] Go.Own.Fin Ok OkM Ops St
theorem low8_lt:∀{E:BL} {j:Nat} {e:Ent},low8 E=true ->bget E j=some e ->j<8
 |(i,f)::E,j,e,hE,h=>by
  simp only [low8,Bool.and_eq_true] at hE
  by_cases hij:i=j
  · subst hij;exact Nat.le_of_ble_eq_true hE.1
  · rw [QX _ _ hij] at h;exact low8_lt hE.2 h
theorem te_none{hr hb:Value}{rows:List (List Rat)}{bas:List Int}{j:Nat}(h:j<8):bget (tEnt hr rows hb bas) j=none:=by
 rw [QX _ _ (by omega),QX _ _ (by omega)];rfl
theorem te_swap{E:BL}(hE:low8 E=true)(hr hb:Value)(rows:List (List Rat))(bas:List Int)(j:Nat):bget (E++tEnt hr rows hb bas) j=bget (tEnt hr rows hb bas++E) j:=by
 rw [Xg,Xg]
 cases h:bget E j with
 |none=>cases bget (tEnt hr rows hb bas) j <;>rfl
 |some e=>rw [te_none (low8_lt hE h)];rfl
section
variable {X : Ctx} {L : AL} {B : BL} {ops : Array Oper} {K : Act → World → Prop} {r : Pl} {k : Kd}
  {d : Nat} {t t2 t' : TypeId} {pos : String} {af : Array Edge} {g : Option (Nat × Bool)}
theorem YV{f:FuncId}{args:List Operand}{tys:Array TypeId}{As:List Sl}{hr hb:Value}{rows:List (List Rat)}{bas:List Int}{α:Type}{J:α ->Prop}{R:α ->CT}{rows' :α ->List (List Rat)}{bas' :α ->List Int}(E:BL)(hgo:InGo X.P f)(hok:OkM X.P f As (tEnt hr rows hb bas) [] J (fun q=> .ct (R q)) (fun q=>tEnt hr (rows' q) hb (bas' q)))(hg:gd ops L g=some true)(hargs:evS L args=some As)(hn:Nat.blt d X.n=true)
  (hbor:∀gb,X.bor gb ->X.S0 gb) (hB:B=E++tEnt hr rows hb bas) (hE:low8 E=true) (hfix:X.fix=[])
  (h:∀q,J q ->Ops X ops r ((d, .ct (R q))::keepL (fun j=>Nat.blt j 8) L) (E++tEnt hr (rows' q) hb (bas' q)) K):Ops X ops (.cons ⟨some d, .call {callee:= .value (.func f),args:=args.toArray,argTypes:=tys},t,pos,af,g⟩ .any r) L B K:=by
 subst hB;refine Ops.callM E (fun j=>Nat.blt j 8) hgo hok hg hargs hn hbor (te_swap hE hr hb rows bas) (fun j hj=> ?_) (fun j hj=> .inr fun q=>te_none (Nat.le_of_ble_eq_true hj)) (fun p hp=>by rw [hfix] at hp;cases hp) (fun q j h=> ?_) (fun q hq=> ?_)
 · obtain ⟨e,he⟩:=Option.isSome_iff_exists.1 hj;have:=low8_lt hE he;exact ⟨te_none this,fun q=>te_none this⟩
 · rcases h with h|⟨_,h⟩ <;>cases h
 · exact Ops.reB (fun j=>te_swap hE hr hb (rows' q) (bas' q) j) (h q hq)
end
theorem div_lens{p q:Rat}(hq:q≠0):(limbs (ofQ (p/q)).num).length<=(limbs (ofQ p).num).length+(limbs (ofQ q).den).length/\ (limbs (ofQ (p/q)).den).length<=(limbs (ofQ p).den).length+(limbs (ofQ q).num).length:=by
 have hn:0<(ofQ q).num:=by
  show 0<q.num.natAbs
  have:q.num≠0:=fun e=>hq (Rat.num_eq_zero.1 e)
  omega
 have h:=redF_mul (ofQ p) ⟨(ofQ q).neg,(ofQ q).den,(ofQ q).num⟩ (Zj p) hn;rw [Ym,qv_inv hq,<- Rat.div_def] at h;rw [<- h];have h2:=redF_den ((ofQ p).neg !=(ofQ q).neg) ((ofQ p).num*(ofQ q).den) ((ofQ p).den*(ofQ q).num) (Nat.mul_pos (Zj p) hn);exact ⟨div_len XZ,Nat.le_trans (Qm h2.2) XZ⟩
structure TSt where
  rows : List (List Rat)
  goal : List Rat
  bas : List Int
def TSt.at (X : TSt) (i j : Nat) : Rat := (X.rows.getD i []).getD j 0
structure Tok (W : Nat) (X : TSt) : Prop where
  few : X.rows.length ≤ 100
  thin : W ≤ 200
  w : ∀ k, k < X.rows.length → (X.rows.getD k []).length = W
  g : X.goal.length = W
  b : X.bas.length = X.rows.length
  q : ∀ k, k < X.rows.length → ∀ x ∈ X.rows.getD k [], Q9 x
  qg : ∀ x ∈ X.goal, Q9 x
def ratR (X : TSt) (j e i : Nat) : Rat := X.at i e / X.at i j
def levR (X : TSt) (j e : Nat) : Nat → Int
  | 0 => -1
  | i + 1 => if ¬ 0 < (X.at i j).num then levR X j e i else if levR X j e i < 0 then i else
      if cmpQ (ratR X j e i) (ratR X j e (levR X j e i).toNat) < 0 ∨ (cmpQ (ratR X j e i) (ratR X j e (levR X j e i).toNat) = 0 ∧ X.bas.getD i 0 < X.bas.getD (levR X j e i).toNat 0) then i else levR X j e i
theorem levR_bd(X:TSt)(j e:Nat):∀i, -1<=levR X j e i/\ levR X j e i<i/\ (0<=levR X j e i ->0<(X.at (levR X j e i).toNat j).num)
 |0=>by simp [levR]
 |i+1=>by
  have ih:=levR_bd X j e i
  simp only [levR]
  split
  · exact ⟨ih.1,by omega,ih.2.2⟩
  · rename_i h
    have h:0<(X.at i j).num:=Classical.not_not.1 h
    split
    · exact ⟨by omega,by omega,fun _=>by rw [Int.toNat_natCast];exact h⟩
    · split
      · exact ⟨by omega,by omega,fun _=>by rw [Int.toNat_natCast];exact h⟩
      · exact ⟨ih.1,by omega,ih.2.2⟩
structure Ent1 (X : TSt) (C e : Nat) : Prop where
  lt : e < C
  neg : (X.goal.getD e 0).num < 0
  least : ∀ j, j < e → ¬ (X.goal.getD j 0).num < 0
theorem Ent1.uniq{X:TSt}{C e e' :Nat}(h:Ent1 X C e)(h' :Ent1 X C e'):e=e' :=by
 rcases Nat.lt_trichotomy e e' with h1|h1|h1
 · exact absurd h.neg (h'.least e h1)
 · exact h1
 · exact absurd h'.neg (h.least e' h1)
def ImpRun (W C en : Nat) (F : TSt) (s : Int) : Nat → TSt → Prop
  | 0, X => Tok W X ∧ X = F ∧ ((s = -1 ∧ ∀ j, j < C → ¬ (X.goal.getD j 0).num < 0) ∨ ∃ e : Nat, s = e ∧ Ent1 X C e ∧ levR X e en X.rows.length < 0)
  | k + 1, X => Tok W X ∧ ∃ (e : Nat) (X' : TSt), Ent1 X C e ∧ 0 ≤ levR X e en X.rows.length ∧ Piv W X.rows X'.rows X.goal X'.goal (levR X e en X.rows.length).toNat e ∧ X'.bas = X.bas.set (levR X e en X.rows.length).toNat e ∧ ImpRun W C en F s k X'
theorem ImpRun.none{W C en:Nat}{F:TSt}{s:Int}{k:Nat}{X:TSt}(h:ImpRun W C en F s k X)(hn:∀j,j<C ->¬(X.goal.getD j 0).num<0):X=F/\ s= -1:=by
 cases k with
 |zero=>
  obtain ⟨_,rfl,⟨rfl,_⟩|⟨e,_,he,_⟩⟩:=h
  · exact ⟨rfl,rfl⟩
  · exact absurd he.neg (hn e he.lt)
 |succ k=>
  obtain ⟨_,e,X',he,_⟩:=h;exact absurd he.neg (hn e he.lt)
theorem ImpRun.some{W C en:Nat}{F:TSt}{s:Int}{k:Nat}{X:TSt}(h:ImpRun W C en F s k X){e:Nat}(he:Ent1 X C e):
  (levR X e en X.rows.length<0 ->X=F/\ s=e)/\ (0<=levR X e en X.rows.length ->∃k' X',k=k' +1/\ Piv W X.rows X'.rows X.goal X'.goal (levR X e en X.rows.length).toNat e/\ X'.bas=X.bas.set (levR X e en X.rows.length).toNat e/\ ImpRun W C en F s k' X'):=by
 cases k with
 |zero=>
  obtain ⟨_,rfl,⟨rfl,hn⟩|⟨e',rfl,he',hl⟩⟩:=h
  · exact absurd he.neg (hn e he.lt)
  · obtain rfl:=he.uniq he';exact ⟨fun _=>⟨rfl,rfl⟩,fun h0=>by omega⟩
 |succ k=>
  obtain ⟨_,e',X',he',hl,h1,h2,h3⟩:=h;obtain rfl:=he.uniq he';exact ⟨fun h0=>by omega,fun _=>⟨k,X',rfl,h1,h2,h3⟩⟩
theorem ImpRun.tok{W C en:Nat}{F:TSt}{s:Int}{k:Nat}{X:TSt}(h:ImpRun W C en F s k X):Tok W X:=by
 cases k with
 |zero=>exact h.1
 |succ k=>exact h.1
def bstC (X : TSt) (j e : Nat) (a : Int) : List CT := if a < 0 then [.ex (.bool false), .ex (.slice none 0 0), .ex (.slice none 0 0)] else frCs (ofQ (ratR X j e a.toNat))
theorem improve34_ok(n m W C:Nat)(X0 F:TSt)(s:Int)(k0:Nat)(hR:ImpRun W C (n+m+1) F s k0 X0)(hW:W=n+m+2)(hC:C<=W)(ar ab:Option Addr)(lr cr lb cb:Nat):
  OkM prog 65 [.ct (taC n m (.slice ar lr cr) X0.goal (.slice ab lb cb)), .ct (intC C)] (tEnt (.slice ar lr cr) X0.rows (.slice ab lb cb) X0.bas) [] (fun _:Unit=>True)
   (fun _=> .ct (.tup [taC n m (.slice ar lr cr) F.goal (.slice ab lb cb),intC s])) (fun _=>tEnt (.slice ar lr cr) F.rows (.slice ab lb cb) F.bas):=by
 refine OkM.enter func65 J _ ntmps65 J (fun i hi=>absurd hi (by simp)) ?_
 intro S w ρ0 hbor;refine Qj 8 J ?_
 refine QY (α:=Nat × TSt) (fun x=>ImpRun W C (n+m+1) F s x.1 x.2)
  (fun _=>[(1, .ct (intC C)),(2, .own 0),(4, .own 1)])
  (fun x=>(1, .box 144 [.ex (.int .i64 0), .ex (.int .i64 0), .ex (.slice none 0 0), .ex (.slice none 0 0), .ex (.slice none 0 0)])::(0, .box 144 (taCs n m (.slice ar lr cr) x.2.goal (.slice ab lb cb)))::tEnt (.slice ar lr cr) x.2.rows (.slice ab lb cb) x.2.bas) (fun x=>x.1) (k0,X0) hR (by exact Qx J) ?_
 rintro ⟨k,X⟩ hk
 dsimp only at hk ⊢;have hT:=hk.tok;have few:=hT.few;have thin:=hT.thin;have hg:=hT.g;refine Qj 7 J ?_
 refine X4 (α:=Nat) (fun e=>(e=C/\ ∀j,j<C ->¬(X.goal.getD j 0).num<0) \/Ent1 X C e) (fun e=>[(1, .ct (intC C)),(2, .own 0),(4, .own 1),(6, .ct (intC e))])
  (fun _=>(1, .box 144 [.ex (.int .i64 0), .ex (.int .i64 0), .ex (.slice none 0 0), .ex (.slice none 0 0), .ex (.slice none 0 0)])::(0, .box 144 (taCs n m (.slice ar lr cr) X.goal (.slice ab lb cb)))::tEnt (.slice ar lr cr) X.rows (.slice ab lb cb) X.bas) (fun e he=> ?_) (fun KK hN=> ?_)
 rotate_left
 · refine Qj 1 J ?_
   refine QY (α:=Nat) (fun j=>j<=C/\ ∀q,q<j ->¬(X.goal.getD q 0).num<0)
    (fun j=>[(1, .ct (intC C)),(2, .own 0),(4, .own 1),(6, .ct (intC j))])
    (fun _=>(1, .box 144 [.ex (.int .i64 0), .ex (.int .i64 0), .ex (.slice none 0 0), .ex (.slice none 0 0), .ex (.slice none 0 0)])::(0, .box 144 (taCs n m (.slice ar lr cr) X.goal (.slice ab lb cb)))::tEnt (.slice ar lr cr) X.rows (.slice ab lb cb) X.bas) (fun j=>C - j) 0 ⟨Nat.zero_le _,fun q h=>absurd h (Nat.not_lt_zero q)⟩ (by exact Qx J) ?_
   intro j ⟨hj,hjl⟩
   (try dsimp only at hj hjl ⊢)
   have e2:(j:Int).toNat=j:=Int.toNat_natCast j;have hS:=Sign_ok (ofQ (X.goal.getD j 0));rw [sgnF_q] at hS;refine Qj 7 J (QQ 17 J (fun hlt=> ?_) (fun hlt=> ?_))
   · refine Qq 3 J (Q8 0 sFracs J (by omega) ?_);refine Qq 1 J ?_
     rw [e2];refine Qv (gT J) hS J (Qq 4 J ?_);refine Qy J (fun hs=> ?_) (fun hs=> ?_)
     · refine Xz 9 J (by omega) ?_;refine Qk (j+1) (by omega) ⟨by omega,fun q hq=> ?_⟩ (by exact Qx J);rcases Nat.lt_or_ge q j with h3|h3
       · exact hjl q h3
       · have:q=j:=by omega
         subst this
         exact fun h4=>by have:=Int.sign_neg_iff.2 h4;omega
     · refine Qj 1 J ?_;exact Q7 hN j (.inr ⟨by omega,Int.sign_neg_iff.1 (by omega),hjl⟩) (by exact Qx J)
   · refine Qq 12 J ?_
     have hjC:j=C:=by omega
     exact Q7 hN j (.inl ⟨hjC,fun q hq=>hjl q (by omega)⟩) (by exact Qx J)
 rcases he with ⟨rfl,hn⟩|he
 · obtain ⟨rfl,rfl⟩:=hk.none hn;refine Qj 8 J ?_;refine Qy J (fun _=> ?_) (fun h=>absurd J h);refine Qj 8 J ?_;refine YW () [_,_] rfl (Qi (n:=5) J J lTab J (Q4 J Q3)) J (te_sub (E:=[(1,_),(0,_)]) J) (fun i hi=>absurd hi (by simp)) trivial
 · have heC:=he.lt;refine Qj 8 J ?_;refine Qy J (fun h=>absurd h (by omega)) (fun _=> ?_);refine Xz 30 J (by omega) ?_;have hsome:=hk.some he
   refine QY (α:=Nat) (fun i=>i<=X.rows.length)
    (fun i=>[(1, .ct (intC C)),(2, .own 0),(4, .own 1),(6, .ct (intC e)),(7, .ct (intC (levR X e (n+m+1) i))),(8, .own 2),(9, .ct (intC ((n:Int)+m+1))),(10, .ct (intC i))])
    (fun i=>(2, .box 54 (bstC X e (n+m+1) (levR X e (n+m+1) i)))::(1, .box 144 [.ex (.int .i64 0), .ex (.int .i64 0), .ex (.slice none 0 0), .ex (.slice none 0 0), .ex (.slice none 0 0)])::(0, .box 144 (taCs n m (.slice ar lr cr) X.goal (.slice ab lb cb)))::tEnt (.slice ar lr cr) X.rows (.slice ab lb cb) X.bas) (fun i=>X.rows.length - i) 0 (Nat.zero_le _) (by exact Qx J) ?_
   intro i hi
   (try dsimp only at hi ⊢)
   have hlb:=levR_bd X e (n+m+1) i
   have hls:levR X e (n+m+1) (i+1)=if ¬0<(X.at i e).num then levR X e (n+m+1) i else if levR X e (n+m+1) i<0 then i else
    if cmpQ (ratR X e (n+m+1) i) (ratR X e (n+m+1) (levR X e (n+m+1) i).toNat)<0 \/(cmpQ (ratR X e (n+m+1) i) (ratR X e (n+m+1) (levR X e (n+m+1) i).toNat)=0/\ X.bas.getD i 0<X.bas.getD (levR X e (n+m+1) i).toNat 0) then i else levR X e (n+m+1) i:=rfl
   refine Qj 6 J (ZU 8 X.rows.length J J J (by decide) (rowsR_len _) sRat2.und J ?_);refine Qq 3 J ?_;refine Qy J (fun hil=> ?_) (fun hil=> ?_)
   · have e2:(i:Int).toNat=i:=Int.toNat_natCast i
     have k2:(i:Int).toNat*1=i:=by omega
     have e3:(e:Int).toNat=e:=Int.toNat_natCast e
     have e4:((n:Int)+m+1).toNat=n+m+1:=by omega
     have hlt:i<X.rows.length:=by omega
     have hwi:=hT.w i hlt;have hat:X.at i e=(X.rows.getD i []).getD e 0:=rfl;have hS:=Sign_ok (ofQ (X.at i e));rw [sgnF_q] at hS;have qa:=hT.q i hlt _ (XX (z:=(0:Rat)) (show e<(X.rows.getD i []).length by omega));have qb:=hT.q i hlt _ (XX (z:=(0:Rat)) (show n+m+1<(X.rows.getD i []).length by omega));refine Qj 10 J (Q5 8 X.rows.length J J J (rowsR_len _) J sRat2 (by omega) (by omega) J ?_);rw [k2];refine QK J J J J (rowsR_at hlt) lRat1 J (Qq 1 J (Q8 0 sFracs J (by omega) ?_));refine Qq 1 J ?_
     rw [e3,<- hat];refine Qv (gT J) hS J (Qq 3 J ?_);refine Qy J (fun hs=> ?_) (fun hs=> ?_)
     · have hn:¬0<(X.at i e).num:=fun h=>by have:=Int.sign_pos_iff.2 h;omega
       rw [if_pos hn] at hls;rw [<- hls];refine Xz 8 J (by omega) ?_;refine Qk (i+1) (by omega) (by omega) (by exact Qx J)
     · have hp:0<(X.at i e).num:=Int.sign_pos_iff.1 (by omega)
       have hne:X.at i e≠0:=fun h=>by rw [h] at hp;exact absurd hp (by decide)
       rw [if_neg (fun h=>h hp)] at hls;have qan:=qa.n;have qad:=qa.d;have qbn:=qb.n;have qbd:=qb.d;have hD:=rFDiv_q ((X.rows.getD i []).getD (n+m+1) 0) ((X.rows.getD i []).getD e 0) hne (by omega) (by omega) (by omega) (by omega);have hrr:(X.rows.getD i []).getD (n+m+1) 0/(X.rows.getD i []).getD e 0=ratR X e (n+m+1) i:=rfl;rw [hrr] at hD;have dl:=div_lens (p:=(X.rows.getD i []).getD (n+m+1) 0) (q:=(X.rows.getD i []).getD e 0) hne;rw [hrr] at dl;refine Qj 3 J ?_
       refine X4 (α:=Unit) (fun _=>True) (fun _=>[(1, .ct (intC C)),(2, .own 0),(4, .own 1),(6, .ct (intC e)),(7, .ct (intC (levR X e (n+m+1) i))),(8, .own 2),(9, .ct (intC ((n:Int)+m+1))),(10, .ct (intC i)),(11, .own 3)])
        (fun _=>(3, .box 54 (frCs (ofQ (ratR X e (n+m+1) i))))::(2, .box 54 (bstC X e (n+m+1) (levR X e (n+m+1) i)))::(1, .box 144 [.ex (.int .i64 0), .ex (.int .i64 0), .ex (.slice none 0 0), .ex (.slice none 0 0), .ex (.slice none 0 0)])::(0, .box 144 (taCs n m (.slice ar lr cr) X.goal (.slice ab lb cb)))::tEnt (.slice ar lr cr) X.rows (.slice ab lb cb) X.bas) (fun _ _=> ?_) (fun KK hN=> ?_)
       rotate_left
       · refine YU mixed 21 0x801675131211508016755413121114d02f0e2c0b2927062403210d0a08050200 J (by kernel_rfl) (fun K hK=> ?_);refine (fun (cont:Go.Own.Fin _ [(1, .ct (intC C)),(2, .own 0),(4, .own 1),(6, .ct (intC e)),(7, .ct (intC (levR X e (n+m+1) i))),(8, .own 2),(9, .ct (intC ((n:Int)+m+1))),(10, .ct (intC i)),(11, .own 3)] ((3, .box 54 (frCs (ofQ (ratR X e (n+m+1) i))))::(2, .box 54 (bstC X e (n+m+1) (levR X e (n+m+1) i)))::(1, .box 144 [.ex (.int .i64 0), .ex (.int .i64 0), .ex (.slice none 0 0), .ex (.slice none 0 0), .ex (.slice none 0 0)])::(0, .box 144 (taCs n m (.slice ar lr cr) X.goal (.slice ab lb cb)))::tEnt (.slice ar lr cr) X.rows (.slice ab lb cb) X.bas) K)=> ?_) (hK _ _ ?_);rotate_left
         · clear hK K;exact Q7 hN () trivial (by exact Qx J)
         clear hK;refine Q2 7 J (Q5 8 X.rows.length J J J (rowsR_len _) J sRat2 (by omega) (by omega) J ?_);rw [k2];refine QK J J J J (rowsR_at hlt) lRat1 J (Q8 0 sFracs J (by omega) ?_);refine Q2 2 J ?_;rw [e4]
         refine Q5 8 X.rows.length J J J (rowsR_len _) J sRat2 (by omega) (by omega) J ?_
         rw [k2];refine QK J J J J (rowsR_at hlt) lRat1 J (Q8 0 sFracs J (by omega) ?_);refine Q2 1 J ?_
         rw [e3]
         refine Zm ?_ ?_
         · refine Qv (gT J) hD J (Q2 6 J ?_);exact Qz (ZW cont ⟨rfl,rfl,rfl,rfl,rfl,rfl,rfl,rfl,rfl,trivial⟩)
         · refine Q2 1 J (Qv (gT J) hD J (Q2 5 J ?_));exact Qz (ZW cont ⟨rfl,rfl,rfl,rfl,rfl,rfl,rfl,rfl,rfl,trivial⟩)
       have hbi:bstC X e (n+m+1) (i:Int)=frCs (ofQ (ratR X e (n+m+1) i)):=by unfold bstC;rw [if_neg (by omega),Int.toNat_natCast]
       clear hD hS;refine Qj 12 J ?_;refine Qy J (fun ha=> ?_) (fun ha=> ?_)
       · rw [if_neg (by omega)] at hls
         have hbl:bstC X e (n+m+1) (levR X e (n+m+1) i)=frCs (ofQ (ratR X e (n+m+1) (levR X e (n+m+1) i).toNat)):=by unfold bstC;rw [if_neg (by omega)]
         have hll:=hlb.2.1;have hpl:=hlb.2.2 (by omega);obtain ⟨l,hl⟩:∃l:Nat,levR X e (n+m+1) i=l:=⟨(levR X e (n+m+1) i).toNat,by omega⟩;rw [hl] at hls hbl hll hpl;rw [Int.toNat_natCast] at hls hbl hpl
         have hlm:l<X.rows.length:=by omega
         have hnl:X.at l e≠0:=fun h=>by rw [h] at hpl;exact absurd hpl (by decide)
         have hwl:=hT.w l hlm;have ql:=hT.q l hlm _ (XX (z:=(0:Rat)) (show e<(X.rows.getD l []).length by omega));have qm:=hT.q l hlm _ (XX (z:=(0:Rat)) (show n+m+1<(X.rows.getD l []).length by omega));have dl2:=div_lens (p:=(X.rows.getD l []).getD (n+m+1) 0) (q:=(X.rows.getD l []).getD e 0) hnl;rw [show (X.rows.getD l []).getD (n+m+1) 0/(X.rows.getD l []).getD e 0=ratR X e (n+m+1) l from rfl] at dl2;have qln:=ql.n;have qld:=ql.d;have qmn:=qm.n;have qmd:=qm.d;have hC2:=rFCompare_q (ratR X e (n+m+1) i) (ratR X e (n+m+1) l) (by omega) (by omega) (by omega) (by omega);rw [hl,hbl];have e5:(l:Int).toNat=l:=Int.toNat_natCast l
         have k5:(l:Int).toNat*1=l:=by omega
         have hTb:=hT.b;generalize cmpQ (ratR X e (n+m+1) i) (ratR X e (n+m+1) l)=cq at hC2 hls;refine Qj 3 J (Qv (gT J) hC2 J (Qq 7 J (XY 19 0x801211102f0e2c2a09270d0b0806050403020100 J ?_)));refine Qq 3 J (QQ 85 J (fun hc=> ?_) (fun hc=> ?_))
         · have hls2:=hls;rw [if_pos (.inl hc)] at hls2;refine Qq 19 J (XY 3 0x8063210200 J ?_);refine QZ 12 J (by omega) ?_;refine Qc 3 (Qk (i+1) (by omega) (by omega) (by rw [hls2];exact QW (by rw [hbi];rfl) ⟨rfl,rfl,rfl,rfl,rfl,rfl,rfl,by simp only [Int.natCast_add];rfl,trivial⟩))
         · refine Qq 3 J (QQ 88 J (fun hc0=> ?_) (fun hc0=> ?_))
           · refine Qq 5 J (Q5 9 X.bas.length J J J (by simp [ints]) J sInts (by omega) (by omega) J ?_);rw [k2]
             refine QK J J J J (XK (by omega)) lInt J ?_;refine Qq 1 J (Q5 9 X.bas.length J J J (by simp [ints]) J sInts (by omega) (by omega) J ?_);rw [k5];refine QK J J J J (XK (by omega)) lInt J ?_;refine Qq 5 J ?_;refine Qy J (fun hb2=> ?_) (fun hb2=> ?_)
             · have hls2:=hls;rw [if_pos (.inr ⟨hc0,hb2⟩)] at hls2
               refine XY 3 0x8063210200 J ?_;refine QZ 12 J (by omega) ?_;refine Qc 3 (Qk (i+1) (by omega) (by omega) (by rw [hls2];exact QW (by rw [hbi];rfl) ⟨rfl,rfl,rfl,rfl,rfl,rfl,rfl,by simp only [Int.natCast_add];rfl,trivial⟩))
             · have hls2:=hls;rw [if_neg (fun h=>h.elim hc fun h=>hb2 h.2)] at hls2;refine Xz 8 J (by omega) ?_;refine Qc 3 (Qk (i+1) (by omega) (by omega) (by rw [hls2];exact QW (by rw [hbl];rfl) ⟨rfl,rfl,rfl,rfl,rfl,rfl,rfl,by simp only [Int.natCast_add];rfl,trivial⟩))
           · have hls2:=hls;rw [if_neg (fun h=>h.elim hc fun h=>hc0 h.1)] at hls2;refine QZ 24 J (by omega) ?_;refine Qc 3 (Qk (i+1) (by omega) (by omega) (by rw [hls2];exact QW (by rw [hbl];rfl) ⟨rfl,rfl,rfl,rfl,rfl,rfl,rfl,by simp only [Int.natCast_add];rfl,trivial⟩))
       · rw [if_pos (by omega)] at hls;have hls2:=hls;rw [show bstC X e (n+m+1) (levR X e (n+m+1) i)=[.ex (.bool false), .ex (.slice none 0 0), .ex (.slice none 0 0)] from if_pos (by omega)];refine Qj 3 J (XY 19 0x801211102f0e2c2a09270d0b0806050403020100 J ?_);refine Qq 22 J (XY 3 0x8063210200 J ?_);refine QZ 12 J (by omega) ?_;refine Qc 3 (Qk (i+1) (by omega) (by omega) (by rw [hls2];exact QW (by rw [hbi];rfl) ⟨rfl,rfl,rfl,rfl,rfl,rfl,rfl,by simp only [Int.natCast_add];rfl,trivial⟩))
   have hil:i=X.rows.length:=by omega
   subst hil;refine Qj 9 J ?_;refine Qy J (fun hl=> ?_) (fun hl=> ?_)
   · obtain ⟨rfl,rfl⟩:=hsome.1 hl;refine Qj 9 J ?_;refine YW () [_,_] rfl (Qi (n:=5) J J lTab J (Q4 J Q3)) J (te_sub (E:=[(2,_),(1,_),(0,_)]) J) (fun i hi=>absurd hi (by simp)) trivial
   · obtain ⟨k',X',rfl,hP,hb',hk'⟩:=hsome.2 (by omega);obtain ⟨l,hll⟩:∃l:Nat,levR X e (n+m+1) X.rows.length=l:=⟨(levR X e (n+m+1) X.rows.length).toNat,by omega⟩;rw [hll,Int.toNat_natCast] at hP hb';rw [hll];have hpv:=pivot34_ok n m W X.rows X'.rows X.goal X'.goal X.bas l e hP hT.b ar ab lr cr lb cb;rw [<- hb'] at hpv;refine Qj 6 J (YV [(2,_),(1,_),(0,_)] (gT J) hpv J J J hbor J J J (fun _ _=> ?_));refine Qq 3 J (Qc 2 (Qk (k',X') (by dsimp only;omega) hk' (by exact Qx J)))
attribute [local irreducible] OkF
theorem zeros34_F(n:Nat)(h1000:n<=1000):OkF prog 62 [intC n] 54 3 (frR (List.replicate n (some 0))):=by
 refine OkF.enter func62 J _ ntmps62 J ?_
 intro S w;refine Qj 8 J (ZV 0 n J J J J sFracs (by omega) (by omega) J J J ?_);rw [frR_made,<- upO_zero (fun _=>0)];refine Qq 10 J ?_
 refine QY (α:=Nat) (fun i=>i<=n)
  (fun i=>[(0, .ct (intC n)),(3, .own 0),(4, .ct (intC i))]) (fun i=>[(0, .row 54 3 (frR (upO (fun _=>0) n i)))]) (fun i=>n - i) 0 (Nat.zero_le _) (by exact Qx J) ?_
 intro i hi
 (try dsimp only at hi ⊢)
 refine Qj 8 J ?_;refine Qy J (fun h=> ?_) (fun h=> ?_)
 · have e2:(i:Int).toNat=i:=Int.toNat_natCast i
   have hlt:i<n:=by omega
   have eset:=upO_set (fun _=>(0:Rat)) hlt;have hW:Ok prog 63 [intC 0] (ratC 0):=Whole_ok 0 (by decide) (by decide);refine Qj 7 J (Qv (gT J) hW J (Qf n J J J (by rw [Xn,JV]) J sFracs (by omega) (by omega) J ?_));rw [e2]
   refine stFr J J J J (by rw [JV];exact hlt) Zs ?_
   rw [eset];refine QZ 8 J (by omega) ?_;refine Qk (i+1) (by omega) (by omega) (by exact Qx J)
 · have hi' :i=n:=by omega
   subst hi'
   have ez:upO (fun _=>(0:Rat)) i i=List.replicate i (some 0):=by
    rw [upO_done]
    apply List.ext_getElem?
    intro j;simp [List.getElem?_replicate]
    split <;>simp_all
   rw [ez];refine Qj 9 J ?_;refine Fin.retF J J J J
theorem duals34_ok(n m W:Nat)(X:TSt)(hT:Tok W X)(hW:n+m<=W)(ar ab:Option Addr)(lr cr lb cb:Nat):
  Ok prog 67 [taC n m (.slice ar lr cr) X.goal (.slice ab lb cb)] (ratsC ((List.range m).map fun i=>X.goal.getD (n+i) 0)):=by
 have thin:=hT.thin;have hg:=hT.g
 refine Ok.enter func67 J _ ntmps67 J ?_
 intro S w;refine Qj 18 J (Xo 3 1 54 3 J J J ?_)
 refine QY (α:=Nat) (fun i=>i<=m)
  (fun i=>[(1, .own 0),(3, .own 1),(4, .ct (intC i))]) (fun i=>[(1, .row 54 3 (rts ((List.range i).map fun i=>X.goal.getD (n+i) 0))),(0, .box 144 (taCs n m (.slice ar lr cr) X.goal (.slice ab lb cb)))]) (fun i=>m - i) 0 (Nat.zero_le _) (by exact Qx J) ?_
 intro i hi
 (try dsimp only at hi ⊢)
 refine Qj 9 J ?_;refine Qy J (fun h=> ?_) (fun h=> ?_)
 · have e2:((n:Int)+i).toNat=n+i:=by omega
   have q:=hT.qg _ (XX (z:=(0:Rat)) (show n+i<X.goal.length by omega));have qn:=q.n;have qd:=q.d;have hRd:=rFReduce_q (X.goal.getD (n+i) 0) (by omega) (by omega);refine Xz 12 J (by omega) ?_;refine Q8 0 sFracs J (by omega) ?_;refine Qq 1 J ?_
   rw [e2];refine Qv (gT J) hRd J (Zv (n:=3) J J sFracs J J (by decide) J ?_);refine QJ i (rts ((List.range (i+1)).map fun i=>X.goal.getD (n+i) 0)) J J J J sFracs (by rw [rts_len];simp) J (by omega) (by omega) (by rw [List.range_succ,List.map_append];exact rts_snoc _ _) J ?_;refine QZ 9 J (by omega) ?_;refine Qk (i+1) (by omega) (by omega) (by exact Qx J)
 · have hi' :i=m:=by omega
   subst hi';refine X6 1 _ J (rts_frozen _ _) noBor_sub (Qj 9 J ?_);refine Qw J J
def ptR (X : TSt) (n e : Nat) : Nat → List Rat
  | 0 => List.replicate n 0
  | i + 1 => if X.bas.getD i 0 < n then (ptR X n e i).set (X.bas.getD i 0).toNat (X.at i e) else ptR X n e i
theorem ptR_len(X:TSt)(n e:Nat):∀i,(ptR X n e i).length=n
 |0=>by simp [ptR]
 |i+1=>by simp only [ptR];split <;>simp [ptR_len X n e i]
theorem point34_ok(n m W:Nat)(X:TSt)(hT:Tok W X)(hW:W=n+m+2)(hb:∀i,0<=X.bas.getD i 0)(ar ab:Option Addr)(lr cr lb cb:Nat):
  OkM prog 71 [.ct (taC n m (.slice ar lr cr) X.goal (.slice ab lb cb))] (tEnt (.slice ar lr cr) X.rows (.slice ab lb cb) X.bas) [] (fun _:Unit=>True)
   (fun _=> .ct (ratsC (ptR X n (n+m+1) X.rows.length))) (fun _=>tEnt (.slice ar lr cr) X.rows (.slice ab lb cb) X.bas):=by
 have few:=hT.few;have thin:=hT.thin;have hTb:=hT.b
 refine OkM.enter func71 J _ ntmps71 J (fun i hi=>absurd hi (by simp)) ?_
 intro S w ρ0 hbor;refine Qj 10 J (Z7 2 (gT J) (zeros34_F n (by omega)) J J J J J J ?_);rw [show List.replicate n (some (0:Rat))=(ptR X n (n+m+1) 0).map some by simp [ptR]];refine Qq 10 J ?_
 refine QY (α:=Nat) (fun i=>i<=X.rows.length)
  (fun i=>[(1, .own 0),(3, .own 2),(4, .ct (intC i))])
  (fun i=>(2, .row 54 3 (frR ((ptR X n (n+m+1) i).map some)))::(0, .box 144 (taCs n m (.slice ar lr cr) X.goal (.slice ab lb cb)))::tEnt (.slice ar lr cr) X.rows (.slice ab lb cb) X.bas) (fun i=>X.rows.length - i) 0 (Nat.zero_le _) (by exact Qx J) ?_
 intro i hi
 (try dsimp only at hi ⊢)
 have hpl:=ptR_len X n (n+m+1) i
 have hps:ptR X n (n+m+1) (i+1)=if X.bas.getD i 0<n then (ptR X n (n+m+1) i).set (X.bas.getD i 0).toNat (X.at i (n+m+1)) else ptR X n (n+m+1) i:=rfl
 refine Qj 6 J (ZU 8 X.rows.length J J J (by decide) (rowsR_len _) sRat2.und J ?_);refine Qq 3 J ?_;refine Qy J (fun h=> ?_) (fun h=> ?_)
 · have k2:(i:Int).toNat*1=i:=by omega
   have e4:((n:Int)+m+1).toNat=n+m+1:=by omega
   have hlt:i<X.rows.length:=by omega
   have hwi:=hT.w i hlt;have q:=hT.q i hlt _ (XX (z:=(0:Rat)) (show n+m+1<(X.rows.getD i []).length by omega));have qn:=q.n;have qd:=q.d;have hRd:=rFReduce_q ((X.rows.getD i []).getD (n+m+1) 0) (by omega) (by omega);have hbi:=hb i;refine Qj 5 J (XY 8 0x800726240321050200 J ?_);refine Qq 4 J (Q5 9 X.bas.length J J J (by simp [ints]) J sInts (by omega) (by omega) J ?_);rw [k2];refine QK J J J J (XK (by omega)) lInt J ?_;refine Qq 4 J ?_;refine Qy J (fun h2=> ?_) (fun h2=> ?_)
   · rw [if_pos h2] at hps;obtain ⟨v,hv⟩:∃v:Nat,X.bas.getD i 0=v:=⟨(X.bas.getD i 0).toNat,by omega⟩;have e5:(v:Int).toNat=v:=Int.toNat_natCast v;rw [hv,e5] at hps;rw [hv] at h2
     refine XY 21 0x807514533211100f2e2c2a09272504220d0b0806030100 J ?_;refine Qq 8 J (Q5 9 X.bas.length J J J (by simp [ints]) J sInts (by omega) (by omega) J ?_);rw [k2];refine QK J J J J (XK (by omega)) lInt J ?_
     rw [hv];refine Qq 1 J (Q5 8 X.rows.length J J J (rowsR_len _) J sRat2 (by omega) (by omega) J ?_);rw [k2];refine QK J J J J (rowsR_at hlt) lRat1 J (QZ 4 J (by omega) ?_);refine Q8 0 sFracs J (by omega) ?_;refine Qq 1 J ?_
     rw [e4];refine Qv (gT J) hRd J (Qf n J J J (by rw [Xn,List.length_map,hpl]) J sFracs (by omega) (by omega) J ?_);rw [e5]
     refine stFr J J J J (by rw [List.length_map];omega) Zs ?_
     rw [show ((ptR X n (n+m+1) i).map some).set v (some ((X.rows.getD i []).getD (n+m+1) 0))=(ptR X n (n+m+1) (i+1)).map some by rw [hps,List.map_set];rfl];refine QZ 8 J (by omega) ?_;refine Qk (i+1) (by omega) (by omega) (by exact Qx J)
   · rw [if_neg h2] at hps;rw [<- hps];refine Xz 8 J (by omega) ?_;refine Qk (i+1) (by omega) (by omega) (by exact Qx J)
 · have hi' :i=X.rows.length:=by omega
   subst hi';refine X6 2 _ J (frR_rats _ _) hbor (Qj 9 J ?_);refine YW () [_] rfl (Q4 J Q3) J (te_sub (E:=[(0,_)]) J) (fun i hi=>absurd hi (by simp)) trivial
theorem zRat2:(prog.info? 142).map (·.size)=some 1:=by kernel_rfl
def cfR (cs : List Int) (W k : Nat) : List Rat := (List.range W).map fun c => if c < k then ((cs.getD c 0 : Int) : Rat) else 0
theorem cfR_len(cs:List Int)(W k:Nat):(cfR cs W k).length=W:=by simp [cfR]
theorem cfR_zero(cs:List Int)(W:Nat):cfR cs W 0=List.replicate W 0:=by
 unfold cfR
 apply List.ext_getElem?
 intro j;simp [List.getElem?_replicate]
 split <;>simp_all
theorem cfR_set(cs:List Int){W k:Nat}(h:k<W):(cfR cs W k).set k ((cs.getD k 0:Int):Rat)=cfR cs W (k+1):=by
 unfold cfR
 apply List.ext_getElem?
 intro q;rw [List.getElem?_set];by_cases hq:k=q
 · subst hq;simp [h]
 · rw [if_neg hq];simp only [List.getElem?_map]
   cases e:(List.range W)[q]? with
   |none=>rfl
   |some x=>
    obtain ⟨h1,h2⟩:=List.getElem?_eq_some_iff.1 e;simp at h2;subst h2;simp only [Option.map_some]
    congr 1
    by_cases h3:q<k
    · rw [if_pos h3,if_pos (by omega)]
    · rw [if_neg h3,if_neg (by omega)]
def stRow (n m i : Nat) (r : Rw) : List Rat := (((cfR r.cs (n + m + 2) r.cs.length).set (n + i) 1).set (n + m) (-1)).set (n + m + 1) ((r.b : Int) : Rat)
def stRows (n : Nat) (rs : List Rw) : List (List Rat) := (List.range rs.length).map fun i => stRow n rs.length i (rs.getD i rw0)
def stRowsK (n : Nat) (rs : List Rw) (k : Nat) : List (List Rat) := (List.range k).map fun i => stRow n rs.length i (rs.getD i rw0)
theorem start34_ok(n:Nat)(rs:List Rw)(hn:n<=50)(hm:rs.length<=90)(hr:∀r∈rs,OkRw n r):
  OkM prog 61 [.ct (intC n), .ct (rowsC rs)] [] [] (fun q:Value × Value=>IsH rs.length q.1/\ IsH rs.length q.2)
   (fun q=> .ct (.agg [intC n,intC rs.length, .ex q.1, .ex (.slice none 0 0), .ex q.2])) (fun q=>tEnt q.1 (stRows n rs) q.2 (rng n rs.length)):=by
 refine OkM.enter func61 J _ ntmps61 J (fun i hi=>by cases hi) ?_
 intro S w ρ0 hbor;refine Qj 8 J (QV sRows.und J (Qq 19 J (St.nilX 8 47 1 J J (St.nilX 9 3 1 J J ?_))))
 refine QY (α:=Nat × Value × Value) (fun x=>x.1<=rs.length/\ IsH x.1 x.2.1/\ IsH x.1 x.2.2)
  (fun x=>[(0, .ct (intC n)),(1, .ct (rowsC rs)),(4, .own 0),(5, .ct (intC rs.length)),(6, .own 1),(7, .ct (intC x.1))])
  (fun x=>[(9, .rowx x.2.2 3 1 (ints (rng n x.1))),(8, .rowx x.2.1 47 1 (rowsR (stRowsK n rs x.1))),(1, .box 144 [intC n,intC rs.length, .ex x.2.1, .ex (.slice none 0 0), .ex x.2.2]),(0, .box 144 [.ex (.int .i64 0), .ex (.int .i64 0), .ex (.slice none 0 0), .ex (.slice none 0 0), .ex (.slice none 0 0)])])
  (fun x=>rs.length - x.1) (0, .slice none 0 0, .slice none 0 0) ⟨Nat.zero_le _, .inl ⟨rfl,rfl⟩, .inl ⟨rfl,rfl⟩⟩ (by exact Qx J) ?_
 rintro ⟨i,hR,hB⟩ ⟨hi,hHR,hHB⟩
 dsimp only at hi hHR hHB ⊢;have oneR:=hHR.one;have oneB:=hHB.one;refine Qj 8 J ?_;refine Qy J (fun h=> ?_) (fun h=> ?_)
 · have hi2:i<rs.length:=by omega
   have e2:(i:Int).toNat=i:=Int.toNat_natCast i;have hrw:OkRw n (rs.getD i rw0):=hr _ (XX hi2)
   have hzl:(stRowsK n rs i).length=i:=by simp [stRowsK]
   have hzs:stRowsK n rs (i+1)=stRowsK n rs i++ [stRow n rs.length i (rs.getD i rw0)]:=by unfold stRowsK;rw [List.range_succ,List.map_append];rfl
   have hlen:=hrw.len;have hcs:=hrw.cs;have hb1:=hrw.b1;have hb2:=hrw.b2;refine Xz 10 J (by omega) ?_;refine ZV 2 (n+rs.length+2) J J J (by omega) sFracs (by omega) (by omega) J J J ?_
   rw [frR_made,<- upO_zero (fun _=>0)];refine Qq 10 J ?_
   refine QY (α:=Nat) (fun k=>k<=n+rs.length+2)
    (fun k=>[(0, .ct (intC n)),(1, .ct (rowsC rs)),(4, .own 0),(5, .ct (intC rs.length)),(6, .own 1),(7, .ct (intC i)),(8, .own 2),(9, .ct (intC k))]) (fun k=>[(2, .row 54 3 (frR (upO (fun _=>0) (n+rs.length+2) k))),(9, .rowx hB 3 1 (ints (rng n i))),(8, .rowx hR 47 1 (rowsR (stRowsK n rs i))),(1, .box 144 [intC n,intC rs.length, .ex hR, .ex (.slice none 0 0), .ex hB]),(0, .box 144 [.ex (.int .i64 0), .ex (.int .i64 0), .ex (.slice none 0 0), .ex (.slice none 0 0), .ex (.slice none 0 0)])]) (fun k=>n+rs.length+2 - k) 0 (Nat.zero_le _) (by exact Qx J) ?_
   intro k hk
   (try dsimp only at hk ⊢)
   refine Qj 5 J (Yy (n+rs.length+2) J J J (by decide) (by rw [Xn,JV]) sFracs.und J ?_);refine Qq 3 J ?_;refine Qy J (fun h1=> ?_) (fun h1=> ?_)
   · have e3:(k:Int).toNat=k:=Int.toNat_natCast k;have eset:=upO_set (fun _=>(0:Rat)) (show k<n+rs.length+2 by omega);have hW:Ok prog 63 [intC 0] (ratC 0):=Whole_ok 0 (by decide) (by decide);refine Qj 7 J (Qv (gT J) hW J (Qf (n+rs.length+2) J J J (by rw [Xn,JV]) J sFracs (by omega) (by omega) J ?_));rw [e3]
     refine stFr J J J J (by rw [JV];omega) Zs ?_
     rw [eset];refine QZ 8 J (by omega) ?_;refine Qk (k+1) (by omega) (by omega) (by exact Qx J)
   have hkW:k=n+rs.length+2:=by omega
   have ez:upO (fun _=>(0:Rat)) (n+rs.length+2) k=(cfR (rs.getD i rw0).cs (n+rs.length+2) 0).map some:=by
    rw [hkW,upO_done,cfR_zero]
    apply List.ext_getElem?
    intro j;simp [List.getElem?_replicate]
    split <;>simp_all
   rw [ez];clear ez hkW h1;refine Qj 9 J ?_
   refine QY (α:=Nat) (fun k=>k<=(rs.getD i rw0).cs.length)
    (fun k=>[(0, .ct (intC n)),(1, .ct (rowsC rs)),(4, .own 0),(5, .ct (intC rs.length)),(6, .own 1),(7, .ct (intC i)),(8, .own 2),(10, .ct (intC k))]) (fun k=>[(2, .row 54 3 (frR ((cfR (rs.getD i rw0).cs (n+rs.length+2) k).map some))),(9, .rowx hB 3 1 (ints (rng n i))),(8, .rowx hR 47 1 (rowsR (stRowsK n rs i))),(1, .box 144 [intC n,intC rs.length, .ex hR, .ex (.slice none 0 0), .ex hB]),(0, .box 144 [.ex (.int .i64 0), .ex (.int .i64 0), .ex (.slice none 0 0), .ex (.slice none 0 0), .ex (.slice none 0 0)])]) (fun k=>(rs.getD i rw0).cs.length - k) 0 (Nat.zero_le _) (by exact Qx J) ?_
   intro k hk
   (try dsimp only at hk ⊢)
   refine Qj 6 J (Q8 rw0 sRows J (by omega) ?_);refine Qq 2 J (QV sInts.und J (Qq 3 J ?_));rw [e2];refine Qy J (fun h1=> ?_) (fun h1=> ?_)
   · have e3:(k:Int).toNat=k:=Int.toNat_natCast k;have bq:=hcs.get k;have eset:=cfR_set (rs.getD i rw0).cs (show k<n+rs.length+2 by omega);have hW:=Whole_ok ((rs.getD i rw0).cs.getD k 0) (by omega) (by omega);have hcl:=cfR_len (rs.getD i rw0).cs (n+rs.length+2) k;refine Qj 9 J (Q8 rw0 sRows J (by omega) ?_);refine Qq 3 J ?_;rw [e2]
     refine Q8 0 sInts J (by omega) ?_;refine Qq 1 J ?_
     rw [e3];refine Qv (gT J) hW J (Qf (n+rs.length+2) J J J (by rw [Xn,List.length_map,hcl]) J sFracs (by omega) (by omega) J ?_);rw [e3]
     refine stFr J J J J (by rw [List.length_map,hcl];omega) Zs ?_
     rw [<- List.map_set,eset];refine QZ 8 J (by omega) ?_;refine Qk (k+1) (by omega) (by omega) (by exact Qx J)
   have hkC:k=(rs.getD i rw0).cs.length:=by omega
   subst hkC;have hW1:Ok prog 63 [intC 1] (ratC 1):=Whole_ok 1 (by decide) (by decide);have hWm:Ok prog 63 [intC (-1)] (ratC (-1)):=Whole_ok (-1) (by decide) (by decide);have hWb:=Whole_ok (rs.getD i rw0).b (by omega) (by omega);have hst:stRow n rs.length i (rs.getD i rw0)=(((cfR (rs.getD i rw0).cs (n+rs.length+2) (rs.getD i rw0).cs.length).set (n+i) 1).set (n+rs.length) (-1)).set (n+rs.length+1) (((rs.getD i rw0).b:Int):Rat):=rfl;have hcl:=cfR_len (rs.getD i rw0).cs (n+rs.length+2) (rs.getD i rw0).cs.length
   have p1:((n:Int)+i).toNat=n+i:=by omega
   have p2:((n:Int)+rs.length).toNat=n+rs.length:=by omega
   have p3:((n:Int)+rs.length+1).toNat=n+rs.length+1:=by omega
   generalize cfR (rs.getD i rw0).cs (n+rs.length+2) (rs.getD i rw0).cs.length=cur at hcl hst ⊢;refine Qj 3 J (XY 22 0x807a1978177615544e4d331211100f0c0b0a09080706050403020100 J ?_);refine QZ 15 J (by omega) ?_;refine Q8 rw0 sRows J (by omega) ?_;refine Qq 2 J ?_;rw [e2];refine Qv (gT J) hW1 J (Qv (gT J) hWm J (Qv (gT J) hWb J (Qf (n+rs.length+2) J J J (by rw [Xn,List.length_map,hcl]) J sFracs (by omega) (by omega) J ?_)));rw [p1];refine stFr J J J J (by rw [List.length_map,hcl];omega) Zs ?_
   rw [<- List.map_set]
   refine Qf (n+rs.length+2) J J J (by rw [Xn,List.length_map,List.length_set,hcl]) J sFracs (by omega) (by omega) J ?_
   rw [p2]
   refine stFr J J J J (by rw [List.length_map,List.length_set,hcl];omega) Zs ?_
   rw [<- List.map_set]
   refine Qf (n+rs.length+2) J J J (by rw [Xn,List.length_map,List.length_set,List.length_set,hcl]) J sFracs (by omega) (by omega) J ?_
   rw [p3]
   refine stFr J J J J (by rw [List.length_map,List.length_set,List.length_set,hcl];omega) Zs ?_
   rw [<- List.map_set,<- hst]
   refine Zw 2 _ J (frR_rats _ _) hbor ?_
   clear hst hcl hW1 hWm hWb;generalize stRow n rs.length i (rs.getD i rw0)=line at hzs ⊢;generalize stRowsK n rs i=zs at hzl hzs ⊢;refine Qq 2 J ?_;refine Yx mixed [4,11,13,15] 0xa0a0a0a0a0a0a0806f0e6d6b0c644346a0a0a0a0a0806f0e6d6b0c6446a0a0a0a0806f0e6d6b0c4664434aa0a0a0a0a0a0806f0e6d6b0c64434aa0a0a0a0a0806f0e6d6b0c644aa0a0a0a0806f0e6d6b4a0c644346a0a0a0a0a0a0806f0e6d6b0c6446a0a0a0a0806f0e6d6b0c46644aa0a0a0a0a0806f0e6d6b0c644aa0a0a0a0806f0e6d6b4a0c6446a0a0a0a0a0806f0e6d6b0c464aa0a0a0a0806f0e6d6b4a0c46644321090807050200 J (by kernel_rfl) (fun K hK=> ?_)
   refine (fun (cont:∀x:Nat × Nat × Nat × Nat,(i+1<=x.2.1/\ x.2.1<=maxLen/\ i+1<=x.2.2.2/\ x.2.2.2<=maxLen) ->Go.Own.Fin _ [(0, .ct (intC n)),(1, .ct (rowsC rs)),(4, .own 0),(5, .ct (intC rs.length)),(6, .own 1),(7, .ct (intC i))]
    [(9, .rowx (.slice (some ⟨x.2.2.1,0,none⟩) (i+1) x.2.2.2) 3 1 (ints (rng n (i+1)))),(8, .rowx (.slice (some ⟨x.1,0,none⟩) (i+1) x.2.1) 47 1 (rowsR (zs++ [line]))),(1, .box 144 [intC n,intC rs.length, .ex (.slice (some ⟨x.1,0,none⟩) (i+1) x.2.1), .ex (.slice none 0 0), .ex (.slice (some ⟨x.2.2.1,0,none⟩) (i+1) x.2.2.2)]),(0, .box 144 [.ex (.int .i64 0), .ex (.int .i64 0), .ex (.slice none 0 0), .ex (.slice none 0 0), .ex (.slice none 0 0)])] K)=> ?_) (fun x hx=>hK _ _ ?_)
   rotate_left
   · obtain ⟨g1,c1,g2,c2⟩:=x;obtain ⟨e1,e2',e3',e4'⟩:=hx;dsimp only at e1 e2' e3' e4' ⊢;clear hK K;rw [<- hzs];refine Fin.Ro 7 J (by omega) ?_;refine Qk (i+1, .slice (some ⟨g1,0,none⟩) (i+1) c1, .slice (some ⟨g2,0,none⟩) (i+1) c2) (by dsimp only;omega) ⟨by dsimp only;omega, .inr ⟨by dsimp only;omega,g1,c1,e1,e2',rfl⟩, .inr ⟨by dsimp only;omega,g2,c2,e3',e4',rfl⟩⟩ (by exact Qx J)
   clear hK;refine Fin.qRo 7 J (by omega) ?_;refine Ql ?_ ?_
   · refine Qo J J sRat2 J J J (Qz (Q0 ?_ ?_))
     · refine Qp 83 8 J J (QJ i (rowsR (zs++ [line])) J J J J sRat2 (by rw [rowsR_len,hzl]) J (by omega) (by omega) (by simp [rowsR]) J ?_);refine Qe 86 8 (i+1) J J (by rw [rowsR_len,List.length_append,hzl];rfl) (by omega) (by decide) (fun g1 c1 e1 e2=> ?_);refine Qz (Ql ?_ ?_)
       · refine Q2 2 J (Xw 1 J (Ql ?_ ?_))
         · refine Qo J J sInts J J J (Qz (Q0 ?_ Qu));refine Qp 88 9 J J (QJ i (ints (rng n (i+1))) J J J J sInts (by simp [Qn]) J (by omega) (by omega) (by rw [Xm,Xd,Int.natCast_add];rfl) J ?_);refine Qe 93 9 (i+1) J J (by simp [Qn]) (by omega) (by decide) (fun g2 c2 e3 e4=> ?_);refine Qz (Q0 (Qa J J J J J zRat2 (Nat.le_of_ble_eq_true J) (Qz ?_)) Qu);refine Xw 1 J ?_;refine Q0 (Qa J J J J J Y5 (Nat.le_of_ble_eq_true J) (Qz ?_)) Qu;exact Qb (Q7 cont (g1,c1,g2,c2) ⟨e1,e2,e3,e4⟩ (by exact Qx J))
         exact Qu
       refine Ql ?_ ?_
       · refine Qo J J sInts J J J (Qz (Ql ?_ ?_))
         · refine Q2 2 J (Xw 1 J (YJ (Qp 88 9 J J (QJ i (ints (rng n (i+1))) J J J J sInts (by simp [Qn]) J (by omega) (by omega) (by rw [Xm,Xd,Int.natCast_add];rfl) J ?_))));refine Qe 93 9 (i+1) J J (by simp [Qn]) (by omega) (by decide) (fun g2 c2 e3 e4=> ?_);refine Qz (Q0 (Qa J J J J J zRat2 (Nat.le_of_ble_eq_true J) (Qz ?_)) Qu);refine Xw 1 J ?_;refine Q0 (Qa J J J J J Y5 (Nat.le_of_ble_eq_true J) (Qz ?_)) Qu;exact Qb (Q7 cont (g1,c1,g2,c2) ⟨e1,e2,e3,e4⟩ (by exact Qx J))
         exact Qu
       exact Qu
     refine Ql ?_ ?_
     · refine Q2 2 J (Q0 ?_ ?_)
       · refine Qp 83 8 J J (QJ i (rowsR (zs++ [line])) J J J J sRat2 (by rw [rowsR_len,hzl]) J (by omega) (by omega) (by simp [rowsR]) J ?_);refine Qe 86 8 (i+1) J J (by rw [rowsR_len,List.length_append,hzl];rfl) (by omega) (by decide) (fun g1 c1 e1 e2=> ?_);refine Qz (Xw 1 J (Ql ?_ ?_))
         · refine Qo J J sInts J J J (Qz (Q0 ?_ Qu));refine Qp 88 9 J J (QJ i (ints (rng n (i+1))) J J J J sInts (by simp [Qn]) J (by omega) (by omega) (by rw [Xm,Xd,Int.natCast_add];rfl) J ?_);refine Qe 93 9 (i+1) J J (by simp [Qn]) (by omega) (by decide) (fun g2 c2 e3 e4=> ?_);refine Qz (Q0 (Qa J J J J J zRat2 (Nat.le_of_ble_eq_true J) (Qz ?_)) Qu);refine Xw 1 J ?_;refine Q0 (Qa J J J J J Y5 (Nat.le_of_ble_eq_true J) (Qz ?_)) Qu;exact Qb (Q7 cont (g1,c1,g2,c2) ⟨e1,e2,e3,e4⟩ (by exact Qx J))
         exact Qu
       refine Ql ?_ ?_
       · refine Qo J J sInts J J J (Qz (Q0 ?_ ?_))
         · refine Qp 83 8 J J (QJ i (rowsR (zs++ [line])) J J J J sRat2 (by rw [rowsR_len,hzl]) J (by omega) (by omega) (by simp [rowsR]) J ?_);refine Qe 86 8 (i+1) J J (by rw [rowsR_len,List.length_append,hzl];rfl) (by omega) (by decide) (fun g1 c1 e1 e2=> ?_);refine Qz (Xw 1 J (YJ (Qp 88 9 J J (QJ i (ints (rng n (i+1))) J J J J sInts (by simp [Qn]) J (by omega) (by omega) (by rw [Xm,Xd,Int.natCast_add];rfl) J ?_))));refine Qe 93 9 (i+1) J J (by simp [Qn]) (by omega) (by decide) (fun g2 c2 e3 e4=> ?_);refine Qz (Q0 (Qa J J J J J zRat2 (Nat.le_of_ble_eq_true J) (Qz ?_)) Qu);refine Xw 1 J ?_;refine Q0 (Qa J J J J J Y5 (Nat.le_of_ble_eq_true J) (Qz ?_)) Qu;exact Qb (Q7 cont (g1,c1,g2,c2) ⟨e1,e2,e3,e4⟩ (by exact Qx J))
         exact Qu
       exact Qu
     refine Ql ?_ ?_
     · refine Qo J J sInts J J J (Qz (Q0 ?_ ?_))
       · refine Qp 83 8 J J (QJ i (rowsR (zs++ [line])) J J J J sRat2 (by rw [rowsR_len,hzl]) J (by omega) (by omega) (by simp [rowsR]) J ?_);refine Qe 86 8 (i+1) J J (by rw [rowsR_len,List.length_append,hzl];rfl) (by omega) (by decide) (fun g1 c1 e1 e2=> ?_);refine Qz (Ql ?_ ?_)
         · refine Q2 2 J (Xw 1 J (YJ (Qp 88 9 J J (QJ i (ints (rng n (i+1))) J J J J sInts (by simp [Qn]) J (by omega) (by omega) (by rw [Xm,Xd,Int.natCast_add];rfl) J ?_))));refine Qe 93 9 (i+1) J J (by simp [Qn]) (by omega) (by decide) (fun g2 c2 e3 e4=> ?_);refine Qz (Q0 (Qa J J J J J zRat2 (Nat.le_of_ble_eq_true J) (Qz ?_)) Qu);refine Xw 1 J ?_;refine Q0 (Qa J J J J J Y5 (Nat.le_of_ble_eq_true J) (Qz ?_)) Qu;exact Qb (Q7 cont (g1,c1,g2,c2) ⟨e1,e2,e3,e4⟩ (by exact Qx J))
         exact Qu
       refine Ql ?_ ?_
       · refine Q2 2 J (Q0 ?_ ?_)
         · refine Qp 83 8 J J (QJ i (rowsR (zs++ [line])) J J J J sRat2 (by rw [rowsR_len,hzl]) J (by omega) (by omega) (by simp [rowsR]) J ?_);refine Qe 86 8 (i+1) J J (by rw [rowsR_len,List.length_append,hzl];rfl) (by omega) (by decide) (fun g1 c1 e1 e2=> ?_);refine Qz (Xw 1 J (YJ (Qp 88 9 J J (QJ i (ints (rng n (i+1))) J J J J sInts (by simp [Qn]) J (by omega) (by omega) (by rw [Xm,Xd,Int.natCast_add];rfl) J ?_))));refine Qe 93 9 (i+1) J J (by simp [Qn]) (by omega) (by decide) (fun g2 c2 e3 e4=> ?_);refine Qz (Q0 (Qa J J J J J zRat2 (Nat.le_of_ble_eq_true J) (Qz ?_)) Qu);refine Xw 1 J ?_;refine Q0 (Qa J J J J J Y5 (Nat.le_of_ble_eq_true J) (Qz ?_)) Qu;exact Qb (Q7 cont (g1,c1,g2,c2) ⟨e1,e2,e3,e4⟩ (by exact Qx J))
         exact Qu
       exact Qu
     exact Qu
   refine Ql ?_ ?_
   · refine Q2 2 J (Ql ?_ ?_)
     · refine Qo J J sRat2 J J J (Qz (Q0 ?_ ?_))
       · refine Qp 83 8 J J (QJ i (rowsR (zs++ [line])) J J J J sRat2 (by rw [rowsR_len,hzl]) J (by omega) (by omega) (by simp [rowsR]) J ?_);refine Qe 86 8 (i+1) J J (by rw [rowsR_len,List.length_append,hzl];rfl) (by omega) (by decide) (fun g1 c1 e1 e2=> ?_);refine Qz (Xw 1 J (Ql ?_ ?_))
         · refine Qo J J sInts J J J (Qz (Q0 ?_ Qu));refine Qp 88 9 J J (QJ i (ints (rng n (i+1))) J J J J sInts (by simp [Qn]) J (by omega) (by omega) (by rw [Xm,Xd,Int.natCast_add];rfl) J ?_);refine Qe 93 9 (i+1) J J (by simp [Qn]) (by omega) (by decide) (fun g2 c2 e3 e4=> ?_);refine Qz (Q0 (Qa J J J J J zRat2 (Nat.le_of_ble_eq_true J) (Qz ?_)) Qu);refine Xw 1 J ?_;refine Q0 (Qa J J J J J Y5 (Nat.le_of_ble_eq_true J) (Qz ?_)) Qu;exact Qb (Q7 cont (g1,c1,g2,c2) ⟨e1,e2,e3,e4⟩ (by exact Qx J))
         exact Qu
       refine Ql ?_ ?_
       · refine Qo J J sInts J J J (Qz (Q0 ?_ ?_))
         · refine Qp 83 8 J J (QJ i (rowsR (zs++ [line])) J J J J sRat2 (by rw [rowsR_len,hzl]) J (by omega) (by omega) (by simp [rowsR]) J ?_);refine Qe 86 8 (i+1) J J (by rw [rowsR_len,List.length_append,hzl];rfl) (by omega) (by decide) (fun g1 c1 e1 e2=> ?_);refine Qz (Xw 1 J (YJ (Qp 88 9 J J (QJ i (ints (rng n (i+1))) J J J J sInts (by simp [Qn]) J (by omega) (by omega) (by rw [Xm,Xd,Int.natCast_add];rfl) J ?_))));refine Qe 93 9 (i+1) J J (by simp [Qn]) (by omega) (by decide) (fun g2 c2 e3 e4=> ?_);refine Qz (Q0 (Qa J J J J J zRat2 (Nat.le_of_ble_eq_true J) (Qz ?_)) Qu);refine Xw 1 J ?_;refine Q0 (Qa J J J J J Y5 (Nat.le_of_ble_eq_true J) (Qz ?_)) Qu;exact Qb (Q7 cont (g1,c1,g2,c2) ⟨e1,e2,e3,e4⟩ (by exact Qx J))
         exact Qu
       exact Qu
     refine Ql ?_ ?_
     · refine Qo J J sInts J J J (Qz (Ql ?_ ?_))
       · refine Qo J J sRat2 J J J (Qz (Q0 ?_ ?_))
         · refine Qp 83 8 J J (QJ i (rowsR (zs++ [line])) J J J J sRat2 (by rw [rowsR_len,hzl]) J (by omega) (by omega) (by simp [rowsR]) J ?_);refine Qe 86 8 (i+1) J J (by rw [rowsR_len,List.length_append,hzl];rfl) (by omega) (by decide) (fun g1 c1 e1 e2=> ?_);refine Qz (Xw 1 J (YJ (Qp 88 9 J J (QJ i (ints (rng n (i+1))) J J J J sInts (by simp [Qn]) J (by omega) (by omega) (by rw [Xm,Xd,Int.natCast_add];rfl) J ?_))));refine Qe 93 9 (i+1) J J (by simp [Qn]) (by omega) (by decide) (fun g2 c2 e3 e4=> ?_);refine Qz (Q0 (Qa J J J J J zRat2 (Nat.le_of_ble_eq_true J) (Qz ?_)) Qu);refine Xw 1 J ?_;refine Q0 (Qa J J J J J Y5 (Nat.le_of_ble_eq_true J) (Qz ?_)) Qu;exact Qb (Q7 cont (g1,c1,g2,c2) ⟨e1,e2,e3,e4⟩ (by exact Qx J))
         exact Qu
       exact Qu
     exact Qu
   refine Ql ?_ ?_
   · refine Qo J J sInts J J J (Qz (Ql ?_ ?_))
     · refine Qo J J sRat2 J J J (Qz (Q0 ?_ ?_))
       · refine Qp 83 8 J J (QJ i (rowsR (zs++ [line])) J J J J sRat2 (by rw [rowsR_len,hzl]) J (by omega) (by omega) (by simp [rowsR]) J ?_);refine Qe 86 8 (i+1) J J (by rw [rowsR_len,List.length_append,hzl];rfl) (by omega) (by decide) (fun g1 c1 e1 e2=> ?_);refine Qz (Ql ?_ ?_)
         · refine Q2 2 J (Xw 1 J (YJ (Qp 88 9 J J (QJ i (ints (rng n (i+1))) J J J J sInts (by simp [Qn]) J (by omega) (by omega) (by rw [Xm,Xd,Int.natCast_add];rfl) J ?_))));refine Qe 93 9 (i+1) J J (by simp [Qn]) (by omega) (by decide) (fun g2 c2 e3 e4=> ?_);refine Qz (Q0 (Qa J J J J J zRat2 (Nat.le_of_ble_eq_true J) (Qz ?_)) Qu);refine Xw 1 J ?_;refine Q0 (Qa J J J J J Y5 (Nat.le_of_ble_eq_true J) (Qz ?_)) Qu;exact Qb (Q7 cont (g1,c1,g2,c2) ⟨e1,e2,e3,e4⟩ (by exact Qx J))
         exact Qu
       refine Ql ?_ ?_
       · refine Q2 2 J (Q0 ?_ ?_)
         · refine Qp 83 8 J J (QJ i (rowsR (zs++ [line])) J J J J sRat2 (by rw [rowsR_len,hzl]) J (by omega) (by omega) (by simp [rowsR]) J ?_);refine Qe 86 8 (i+1) J J (by rw [rowsR_len,List.length_append,hzl];rfl) (by omega) (by decide) (fun g1 c1 e1 e2=> ?_);refine Qz (Xw 1 J (YJ (Qp 88 9 J J (QJ i (ints (rng n (i+1))) J J J J sInts (by simp [Qn]) J (by omega) (by omega) (by rw [Xm,Xd,Int.natCast_add];rfl) J ?_))));refine Qe 93 9 (i+1) J J (by simp [Qn]) (by omega) (by decide) (fun g2 c2 e3 e4=> ?_);refine Qz (Q0 (Qa J J J J J zRat2 (Nat.le_of_ble_eq_true J) (Qz ?_)) Qu);refine Xw 1 J ?_;refine Q0 (Qa J J J J J Y5 (Nat.le_of_ble_eq_true J) (Qz ?_)) Qu;exact Qb (Q7 cont (g1,c1,g2,c2) ⟨e1,e2,e3,e4⟩ (by exact Qx J))
         exact Qu
       exact Qu
     refine Ql ?_ ?_
     · refine Q2 2 J (Ql ?_ ?_)
       · refine Qo J J sRat2 J J J (Qz (Q0 ?_ ?_))
         · refine Qp 83 8 J J (QJ i (rowsR (zs++ [line])) J J J J sRat2 (by rw [rowsR_len,hzl]) J (by omega) (by omega) (by simp [rowsR]) J ?_);refine Qe 86 8 (i+1) J J (by rw [rowsR_len,List.length_append,hzl];rfl) (by omega) (by decide) (fun g1 c1 e1 e2=> ?_);refine Qz (Xw 1 J (YJ (Qp 88 9 J J (QJ i (ints (rng n (i+1))) J J J J sInts (by simp [Qn]) J (by omega) (by omega) (by rw [Xm,Xd,Int.natCast_add];rfl) J ?_))));refine Qe 93 9 (i+1) J J (by simp [Qn]) (by omega) (by decide) (fun g2 c2 e3 e4=> ?_);refine Qz (Q0 (Qa J J J J J zRat2 (Nat.le_of_ble_eq_true J) (Qz ?_)) Qu);refine Xw 1 J ?_;refine Q0 (Qa J J J J J Y5 (Nat.le_of_ble_eq_true J) (Qz ?_)) Qu;exact Qb (Q7 cont (g1,c1,g2,c2) ⟨e1,e2,e3,e4⟩ (by exact Qx J))
         exact Qu
       exact Qu
     exact Qu
   exact Qu
 · have him:i=rs.length:=by omega
   subst him
   have key:∀v,IsH rs.length v ->∃(a:Option Addr) (l c:Nat),v= .slice a l c:=fun v hv=>by
    rcases hv with ⟨_,rfl⟩|⟨_,gb,c,_,_,rfl⟩
    · exact ⟨_,_,_,rfl⟩
    · exact ⟨_,_,_,rfl⟩
   obtain ⟨a1,l1,c1,rfl⟩:=key hR hHR;obtain ⟨a2,l2,c2,rfl⟩:=key hB hHB;refine Qj 9 J ?_;refine YW (.slice a1 l1 c1, .slice a2 l2 c2) [_] rfl (Qi (n:=5) J J lTab J Q3) J (fun j e he=> ?_) (fun i hi=>absurd hi (by simp)) ⟨hHR,hHB⟩;by_cases h8:8=j
   · subst h8;exact he
   · by_cases h9:9=j
     · subst h9;exact he
     · rw [QX _ _ h8,QX _ _ h9] at he;cases he
open Go.Det
section
variable {n : Nat} {rs : List Rw} {c : List Int} {bs : List Nat}
def vcA (n : Nat) (rs : List Rw) (c : List Int) (v : Nat) : Vec := if v = n + rs.length + 1 then rhsQ rs else colA n rs c v
theorem vcA_lo{v:Nat}(h:v<=n+rs.length):vcA n rs c v=colA n rs c v:=if_neg (by omega)
theorem vcA_hi:vcA n rs c (n+rs.length+1)=rhsQ rs:=if_pos rfl
theorem vcA_V(v:Nat):Vok (rs.length+2) (vcA n rs c v):=by
 unfold vcA;split
 · exact JW
 · exact Jx v
theorem vcA_or(v:Nat):vcA n rs c v=rhsQ rs \/∃u,vcA n rs c v=colA n rs c u:=by
 unfold vcA;split
 · exact .inl J
 · exact .inr ⟨v,rfl⟩
def rowQ (n : Nat) (rs : List Rw) (c : List Int) (bs : List Nat) (i : Nat) : List Rat := (List.range (n + rs.length + 2)).map fun v => rq (colA n rs c) bs i (vcA n rs c v)
theorem YZ(i:Nat):(rowQ n rs c bs i).length=n+rs.length+2:=by simp [rowQ]
theorem Z8{i v:Nat}(h:v<n+rs.length+2):(rowQ n rs c bs i).getD v 0=rq (colA n rs c) bs i (vcA n rs c v):=by
 unfold rowQ;simp [List.getD_eq_getElem?_getD,List.getElem?_map,h]
def tst (n : Nat) (rs : List Rw) (c : List Int) (g : Nat) (bs : List Nat) : TSt := ⟨(List.range rs.length).map (rowQ n rs c bs), rowQ n rs c bs g, (List.range rs.length).map fun i => ((bs.getD i 0 : Nat) : Int)⟩
theorem Yz(g:Nat):(tst n rs c g bs).rows.length=rs.length:=by simp [tst]
theorem Yv{g i:Nat}(h:i<rs.length):(tst n rs c g bs).rows.getD i []=rowQ n rs c bs i:=by
 unfold tst;simp [List.getD_eq_getElem?_getD,List.getElem?_map,h]
theorem tst_at{g i v:Nat}(h:i<rs.length)(hv:v<n+rs.length+2):(tst n rs c g bs).at i v=rq (colA n rs c) bs i (vcA n rs c v):=by
 unfold TSt.at;rw [Yv h,Z8 hv]
theorem tst_bas{g i:Nat}(h:i<rs.length):(tst n rs c g bs).bas.getD i 0=((bs.getD i 0:Nat):Int):=by
 unfold tst;simp [List.getD_eq_getElem?_getD,List.getElem?_map,h]
theorem tst_bas_set{g r s:Nat}(hl:bs.length=rs.length+2)(hr:r<rs.length):(tst n rs c g (bs.set r s)).bas=(tst n rs c g bs).bas.set r (s:Int):=by
 unfold tst
 apply List.ext_getElem?
 intro q;rw [List.getElem?_set];by_cases hq:r=q
 · subst hq;simp [hr,List.getD_eq_getElem?_getD,List.getElem?_set,show r<bs.length by omega]
 · rw [if_neg hq];rcases Nat.lt_or_ge q rs.length with h1|h1
   · simp [h1,hq,List.getD_eq_getElem?_getD,List.getElem?_set]
   · rw [List.getElem?_eq_none (by simpa using h1),List.getElem?_eq_none (by simpa using h1)]
def Tgt (n : Nat) (rs : List Rw) (c : List Int) : Prop := ∀ (bs : List Nat) (i : Nat) (x : Vec), bs.length = rs.length + 2 → i < rs.length + 2 → dD (colA n rs c) bs ≠ 0 → (x = rhsQ rs ∨ ∃ v, x = colA n rs c v) → (tt (colA n rs c) bs i x).natAbs ≤ 2 ^ 240
theorem lt9{x:Nat}(h:x<=2 ^ 240):x<1073741824 ^ 9:=Nat.lt_of_le_of_lt h (by decide+kernel)
theorem rq_Q9(hL:LpOk n rs c)(hm:Tgt n rs c)(hl:bs.length=rs.length+2)(hne:dD (colA n rs c) bs≠0){i:Nat}(hi:i<rs.length+2)(v:Nat):Q9 (rq (colA n rs c) bs i (vcA n rs c v)):=by
 have h1:=hm bs i _ hl hi hne (vcA_or (c:=c) v);have h2:=hm bs rs.length _ hl (by omega) hne (.inr ⟨bs.getD rs.length 0,rfl⟩);rw [tt_own hl (by omega)] at h2;have:=F9.shqb (den_pos hne) (lt9 h2) (lt9 h1);rw [rq_shq hne];exact ⟨Q6 this.num,Q6 this.den⟩
theorem rowQ_Q9(hL:LpOk n rs c)(hm:Tgt n rs c)(hl:bs.length=rs.length+2)(hne:dD (colA n rs c) bs≠0){i:Nat}(hi:i<rs.length+2):∀x∈rowQ n rs c bs i,Q9 x:=fun x hx=>by
 obtain ⟨v,_,rfl⟩:=List.mem_map.1 hx
 exact rq_Q9 hL hm hl hne hi v
theorem tst_tok(hL:LpOk n rs c)(hm:Tgt n rs c)(hl:bs.length=rs.length+2)(hne:dD (colA n rs c) bs≠0){g:Nat}(hg:g<rs.length+2):Tok (n+rs.length+2) (tst n rs c g bs):=by
 have hn:=hL.nn;have hmm:=hL.mm;refine ⟨by rw [Yz];omega,by omega,fun k hk=> ?_,YZ g,by unfold tst;simp,fun k hk=> ?_,rowQ_Q9 hL hm hl hne hg⟩
 · rw [Yz] at hk;rw [Yv hk,YZ]
 · rw [Yz] at hk;rw [Yv hk];exact rowQ_Q9 hL hm hl hne (by omega)
theorem tst_piv(hL:LpOk n rs c)(hm:Tgt n rs c)(hB:Bas (colA n rs c) (Vok (rs.length+2)) (rs.length+2) bs){g r s:Nat}(hgm:rs.length<=g)(hg:g<rs.length+2)(hr:r<rs.length)(hs:s<=n+rs.length)(hp:rq (colA n rs c) bs r (colA n rs c s)≠0):
  Piv (n+rs.length+2) (tst n rs c g bs).rows (tst n rs c g (bs.set r s)).rows (tst n rs c g bs).goal (tst n rs c g (bs.set r s)).goal r s:=by
 have hn:=hL.nn;have hmm:=hL.mm;have hl:=hB.len;have hB' :=hB.piv (r:=r) (s:=s) (by omega) (Jx s) (rq_ne hp);have hl' :=hB'.len;have es:vcA n rs c s=colA n rs c s:=vcA_lo hs;refine ⟨by rw [Yz];exact hr,by omega,by rw [Yz];omega,by omega,by rw [Yz,Yz],fun k hk=> ?_,fun k hk=> ?_,YZ g,YZ g,fun k hk=> ?_,?_,rowQ_Q9 hL hm hl hB.ne hg,?_,fun v hv=> ?_,fun k hk hkr v hv=> ?_,fun v hv=> ?_⟩
 · rw [Yz] at hk;rw [Yv hk,YZ]
 · rw [Yz] at hk;rw [Yv hk,YZ]
 · rw [Yz] at hk;rw [Yv hk];exact rowQ_Q9 hL hm hl hB.ne (by omega)
 · rw [Yv hr];exact rowQ_Q9 hL hm hl' hB'.ne (by omega)
 · rw [Yv hr,Z8 (by omega),es];exact hp
 · rw [Yv hr,Yv hr,Z8 hv,Z8 hv,Z8 (by omega),es];exact rq_piv_r hB.ne hp _
 · rw [Yz] at hk;rw [Yv hk,Yv hr,Yv hk,Z8 hv,Z8 hv,Z8 (by omega),Z8 hv,es,rq_piv_r hB.ne hp];exact hB.rq_piv_i (by omega) (by omega) hkr (vcA_V v) hp
 · show (rowQ n rs c (bs.set r s) g).getD v 0=(rowQ n rs c bs g).getD v 0 - (rowQ n rs c bs g).getD s 0*_;rw [Yv hr,Z8 hv,Z8 hv,Z8 (by omega),Z8 hv,es,rq_piv_r hB.ne hp];exact hB.rq_piv_i (by omega) (by omega) (by omega) (vcA_V v) hp
theorem rq_sign(hne:dD (colA n rs c) bs≠0)(i:Nat)(x:Vec):((rq (colA n rs c) bs i x).num<0↔tt (colA n rs c) bs i x<0)/\ (0<(rq (colA n rs c) bs i x).num↔0<tt (colA n rs c) bs i x)/\ (rq (colA n rs c) bs i x=0↔tt (colA n rs c) bs i x=0):=by
 have hs:=shq_num_sign (a:=tt (colA n rs c) bs i x) (den_pos hne);rw [<- rq_shq hne] at hs;obtain ⟨h1,h2,h3⟩:=hs;have h4:rq (colA n rs c) bs i x=0↔(rq (colA n rs c) bs i x).num=0:=Rat.num_eq_zero.symm;rw [h4];generalize (rq (colA n rs c) bs i x).num=z at*;rcases Int.lt_trichotomy (tt (colA n rs c) bs i x) 0 with h|h|h
 · have:=h2 h;exact ⟨⟨fun _=>h,fun _=>this⟩,⟨fun _=>by omega,fun _=>by omega⟩,⟨fun _=>by omega,fun _=>by omega⟩⟩
 · have hz:z=0:=by
    have e:=h4
    have:rq (colA n rs c) bs i x=0:=by
     rw [rq_shq hne,h,Ys]
    exact h4.1 this
   exact ⟨⟨fun _=>by omega,fun _=>by omega⟩,⟨fun _=>by omega,fun _=>by omega⟩,⟨fun _=>h,fun _=>hz⟩⟩
 · have:=h3 h;exact ⟨⟨fun _=>by omega,fun _=>by omega⟩,⟨fun _=>h,fun _=>this⟩,⟨fun _=>by omega,fun _=>by omega⟩⟩
end
theorem ite_iff{α:Type}{P Q:Prop} [Decidable P] [Decidable Q]{x y:α}(h:P↔Q):(if P then x else y)=if Q then x else y:=by
 by_cases hq:Q
 · rw [if_pos (h.2 hq),if_pos hq]
 · rw [if_neg (fun k=>hq (h.1 k)),if_neg hq]
theorem cmpQ_zero{p q:Rat}:cmpQ p q=0↔¬p<q/\ ¬q<p:=by
 have h1:=cmpQ_neg (p:=p) (q:=q);have h2:=cmpQ_le_iff (p:=p) (q:=q);rw [<- Rat.not_lt] at h2;rw [<- h1,<- h2];omega
theorem div_cmp{a b p q:Int}(hp:0<p)(hq:0<q):((a:Rat)/(p:Rat)<(b:Rat)/(q:Rat))↔a*q<b*p:=by
 have hp' :(0:Rat)<(p:Rat):=Rat.intCast_pos.2 hp;have hq' :(0:Rat)<(q:Rat):=Rat.intCast_pos.2 hq
 have e:(b:Rat)/(q:Rat)*(p:Rat)=((b*p:Int):Rat)/(q:Rat):=by
  rw [Rat.intCast_mul];have:=Rat.ne_of_gt hq';grind
 rw [Rat.div_lt_iff hp',e,Rat.lt_div_iff hq',<- Rat.intCast_mul,Rat.intCast_lt_intCast]
section
variable {n : Nat} {rs : List Rw} {c : List Int} {bs : List Nat} {W : Nat} {T : Tv}
theorem rq_div{A:Nat ->Vec}(hne:dD A bs≠0){i:Nat}{x y:Vec}(hy:tt A bs i y≠0):rq A bs i x/rq A bs i y=((tt A bs i x:Int):Rat)/((tt A bs i y:Int):Rat):=by
 unfold tt at hy ⊢;unfold rq;rw [Rat.intCast_mul,Rat.intCast_mul];have h1:=ratc_ne hne;have h2:(((dD A bs).sign:Int):Rat)≠0:=ratc_ne (fun e=>by have:=sgn_sq hne;rw [e] at this;simp at this);have h3:((dT A bs i y:Int):Rat)≠0:=ratc_ne (fun e=>hy (by rw [e];exact Int.mul_zero _));generalize ((dD A bs:Int):Rat)=d at*;generalize (((dD A bs).sign:Int):Rat)=s at*;generalize ((dT A bs i x:Int):Rat)=u at*;generalize ((dT A bs i y:Int):Rat)=v at*
 grind
theorem Ph.lev_eq(h:Ph n rs c W T bs)(hW:W<=n+rs.length+1){e:Nat}(he:e<T.col.length)(g:Nat):∀i,i<=rs.length ->
  levR (tst n rs c g bs) (T.col.getD e 0).toNat (n+rs.length+1) i=levS T e i
 |0,_=>rfl
 |i+1,hi=>by
  have ih:=h.lev_eq hW he g i (by omega)
  have hV:=h.good.view
  have hne:=h.bas.ne
  have hrm:=hV.rm
  have hcW:=h.good.cov.col e he
  have hce:=hV.colv e
  obtain ⟨s,hs⟩:∃s:Nat,T.col.getD e 0=s:=⟨(T.col.getD e 0).toNat,by omega⟩
  rw [hs,Int.toNat_natCast] at ih ⊢
  have bd:=levS_bd T e i
  have hat:∀k,k<rs.length ->T.at k e=tt (colA n rs c) bs k (colA n rs c s):=fun k hk=>by
   rw [hV.num k (by omega) e he,hs,Int.toNat_natCast]
  have hq:∀k,k<rs.length ->T.at k T.col.length=tt (colA n rs c) bs k (rhsQ rs):=fun k hk=>hV.rhs k (by omega)
  have hX:∀k,k<rs.length ->(tst n rs c g bs).at k s=rq (colA n rs c) bs k (colA n rs c s):=fun k hk=>by
   rw [tst_at hk (by omega),vcA_lo (by omega)]
  have hY:∀k,k<rs.length ->(tst n rs c g bs).at k (n+rs.length+1)=rq (colA n rs c) bs k (rhsQ rs):=fun k hk=>by
   rw [tst_at hk (by omega),vcA_hi]
  have hpos:∀k,k<rs.length ->(0<((tst n rs c g bs).at k s).num↔0<T.at k e):=fun k hk=>by
   rw [hX k hk,hat k hk];exact (rq_sign hne k _).2.1
  have hrat:∀k,k<rs.length ->0<T.at k e ->ratR (tst n rs c g bs) s (n+rs.length+1) k=((T.at k T.col.length:Int):Rat)/((T.at k e:Int):Rat):=fun k hk hp=>by
   unfold ratR
   rw [hX k hk,hY k hk,hat k hk,hq k hk]
   exact rq_div hne (by rw [<- hat k hk];omega)
  have hb:∀k,k<rs.length ->(tst n rs c g bs).bas.getD k 0=T.bas.getD k 0:=fun k hk=>by rw [tst_bas hk,hV.basv k hk]
  simp only [levR,levS]
  rw [ih]
  by_cases h1:T.at i e<=0
  · rw [if_pos (by rw [hpos i (by omega)];omega),if_pos h1]
  · rw [if_neg (by rw [Classical.not_not,hpos i (by omega)];omega),if_neg h1]
    by_cases h2:levS T e i<0
    · rw [if_pos h2,if_pos h2]
    · rw [if_neg h2,if_neg h2]
      have hl:=levS_hit (show 0<=levS T e i by omega)
      obtain ⟨l,hll⟩:∃l:Nat,levS T e i=l:=⟨(levS T e i).toNat,by omega⟩
      rw [hll] at hl bd
      have hll2:(levS T e i).toNat=l:=by omega
      simp only [Int.toNat_natCast] at hl
      have hp:=hl.1
      have key:(cmpQ (ratR (tst n rs c g bs) s (n+rs.length+1) i) (ratR (tst n rs c g bs) s (n+rs.length+1) (levS T e i).toNat)<0 \/(cmpQ (ratR (tst n rs c g bs) s (n+rs.length+1) i) (ratR (tst n rs c g bs) s (n+rs.length+1) (levS T e i).toNat)=0/\ (tst n rs c g bs).bas.getD i 0<(tst n rs c g bs).bas.getD (levS T e i).toNat 0))↔
        (T.at i T.col.length*T.at (levS T e i).toNat e+ -(T.at (levS T e i).toNat T.col.length*T.at i e)<0 \/(T.at i T.col.length*T.at (levS T e i).toNat e+ -(T.at (levS T e i).toNat T.col.length*T.at i e)=0/\ T.bas.getD i 0<T.bas.getD (levS T e i).toNat 0)):=by
       rw [hll2,hrat i (by omega) (by omega),hrat l (by omega) hp,hb i (by omega),hb l (by omega)];have c1:=div_cmp (a:=T.at i T.col.length) (b:=T.at l T.col.length) (p:=T.at i e) (q:=T.at l e) (by omega) hp;have c2:=div_cmp (a:=T.at l T.col.length) (b:=T.at i T.col.length) (p:=T.at l e) (q:=T.at i e) hp (by omega);rw [cmpQ_neg,cmpQ_zero,c1,c2];generalize T.at i T.col.length*T.at l e=x;generalize T.at l T.col.length*T.at i e=y
       have e1:(x+ -y<0)↔x<y:=by omega
       have e2:(x+ -y=0)↔(¬x<y/\ ¬y<x):=by omega
       rw [e1,e2]
      exact ite_iff key
theorem goal_at{g v:Nat}(hv:v<=n+rs.length):(tst n rs c g bs).goal.getD v 0=rq (colA n rs c) bs g (colA n rs c v):=by
 show (rowQ n rs c bs g).getD v 0=_;rw [Z8 (by omega),vcA_lo hv]
theorem Ph.ent(h:Ph n rs c W T bs)(hW:W<=n+rs.length+1){g:Nat}(hg:rs.length<=g)(hgT:g<T.rows.length)(he:0<=en g T):Ent1 (tst n rs c g bs) W (T.col.getD (en g T).toNat 0).toNat:=by
 have b1:=en_bd g T;have eh:=entS_hit (show 0<=entS (T.rows.getD g []) T.col T.col.length from he);obtain ⟨e,hee⟩:∃e:Nat,en g T=e:=⟨(en g T).toNat,by omega⟩;rw [show entS (T.rows.getD g []) T.col T.col.length=en g T from rfl,hee] at eh;rw [hee];simp only [Int.toNat_natCast] at eh ⊢;have hV:=h.good.view
 have heT:e<T.col.length:=by omega
 have hce:=hV.colv e;have hcW:=h.good.cov.col e heT;have hrM:=hV.rM;refine ⟨by omega,?_,fun v hv=> ?_⟩
 · rw [goal_at (by omega),(rq_sign h.bas.ne g _).1,<- hV.num g hgT e heT];exact eh.1
 · rw [goal_at (by omega),(rq_sign h.bas.ne g _).1];rcases h.good.cov.all v (by omega) with ⟨i,hi,hb⟩|⟨j,hj,hb⟩
   · rw [<- hb,Yu hV.bas.len (by omega) (by omega) (by omega)];decide
   · have h1:=hV.num g hgT j hj;rw [hb,Int.toNat_natCast] at h1;rw [<- h1];intro h2;have:=eh.2 j hj h2;omega
theorem Ph.ent_none(h:Ph n rs c W T bs)(hW:W<=n+rs.length+1){g:Nat}(hg:rs.length<=g)(hgT:g<T.rows.length)(he:en g T<0):∀j,j<W ->¬((tst n rs c g bs).goal.getD j 0).num<0:=fun v hv=>by
 have hV:=h.good.view
 have hrM:=hV.rM
 rw [goal_at (by omega),(rq_sign h.bas.ne g _).1]
 rcases h.good.cov.all v hv with ⟨i,hi,hb⟩|⟨j,hj,hb⟩
 · rw [<- hb,Yu hV.bas.len (by omega) (by omega) (by omega)];decide
 · have h1:=hV.num g hgT j hj
   rw [hb,Int.toNat_natCast] at h1
   rw [<- h1]
   have:=entS_none he j hj
   exact Int.not_lt.2 this
theorem Ph.nx(h:Ph n rs c W T bs)(hL:LpOk n rs c){g:Nat}(hg:rs.length<=g)(hgT:g<T.rows.length)(hn:¬stop g T):Ph n rs c W (nx g (T,bs)).1 (nx g (T,bs)).2:=by
 have hlen:=h.bas.len;have b2:=lv_bd g T;have hV:=h.good.view;rw [hV.basl] at b2
 have hl0:0<=lv g T:=by unfold stop at hn;omega
 refine ⟨h.good.pvt (lp_sys hL) hg hgT hn,?_,?_⟩
 · show (bs.set (lv g T).toNat _).getD _ 0=_;rw [getD_set' (by omega),if_neg (by omega)];exact h.z
 · show (bs.set (lv g T).toNat _).getD _ 0=_;rw [getD_set' (by omega),if_neg (by omega)];exact h.w
def sOf (g : Nat) (T : Tv) : Int := if en g T < 0 then -1 else T.col.getD (en g T).toNat 0
theorem imp_it(hL:LpOk n rs c)(hm:Tgt n rs c)(hW:W<=n+rs.length+1){g:Nat}(hg:rs.length<=g)(hgM:g<rs.length+2):∀(k:Nat) (x:Tv × List Nat),Ph n rs c W x.1 x.2 ->g<x.1.rows.length ->(∀j,j<k ->¬stop g (it g j x).1) ->stop g (it g k x).1 ->
  ImpRun (n+rs.length+2) W (n+rs.length+1) (tst n rs c g (it g k x).2) (sOf g (it g k x).1) k (tst n rs c g x.2)
 |0,(T,bs),h,hgT,_,hs=>by
  have h:Ph n rs c W T bs:=h
  have hgT:g<T.rows.length:=hgT
  refine ⟨tst_tok hL hm h.bas.len h.bas.ne hgM,rfl,?_⟩
  show (sOf g T= -1/\ _) \/_
  have hs:stop g T:=hs
  by_cases he:en g T<0
  · exact .inl ⟨if_pos he,h.ent_none hW hg hgT he⟩
  · have hl:lv g T<0:=by unfold stop at hs;omega
    have b1:=en_bd g T
    have hce:=h.good.view.colv (en g T).toNat
    have hcW:=h.good.cov.col (en g T).toNat (by omega)
    refine .inr ⟨(T.col.getD (en g T).toNat 0).toNat,?_,h.ent hW hg hgT (by omega),?_⟩
    · show sOf g T=_
      rw [show sOf g T=_ from if_neg he];omega
    · rw [Yz,h.lev_eq hW (by omega) g _ (Nat.le_refl _)]
      have:levS T (en g T).toNat T.bas.length<0:=hl
      rw [h.good.view.basl] at this
      exact this
 |k+1,(T,bs),h,hgT,hn,hs=>by
  have h:Ph n rs c W T bs:=h
  have hgT:g<T.rows.length:=hgT
  have h0:¬stop g T:=hn 0 (by omega)
  have he:0<=en g T:=by unfold stop at h0;omega
  have hl:0<=lv g T:=by unfold stop at h0;omega
  have b1:=en_bd g T
  have b2:=lv_bd g T
  have hV:=h.good.view
  have hce:=hV.colv (en g T).toNat
  have hcW:=h.good.cov.col (en g T).toNat (by omega)
  have el:levR (tst n rs c g bs) (T.col.getD (en g T).toNat 0).toNat (n+rs.length+1) (tst n rs c g bs).rows.length=lv g T:=by
   rw [Yz,h.lev_eq hW (by omega) g _ (Nat.le_refl _),<- hV.basl];rfl
  rw [hV.basl] at b2
  have hlr:(lv g T).toNat<rs.length:=by omega
  have hsn:(T.col.getD (en g T).toNat 0).toNat<=n+rs.length:=by omega
  have hp:0<tt (colA n rs c) bs (lv g T).toNat (colA n rs c (T.col.getD (en g T).toNat 0).toNat):=(h.good.step (lp_sys hL) hg hgT h0).lev;refine ⟨tst_tok hL hm h.bas.len h.bas.ne hgM,(T.col.getD (en g T).toNat 0).toNat,tst n rs c g (nx g (T,bs)).2,h.ent hW hg hgT he,by rw [el];exact hl,?_,?_,imp_it hL hm hW hg hgM k (nx g (T,bs)) (h.nx hL hg hgT h0) (by rw [nx_rows];exact hgT) (fun j hj=>hn (j+1) (by omega)) hs⟩
  · rw [el]
    refine tst_piv hL hm h.bas hg hgM hlr hsn fun e=> ?_
    have:=(rq_sign h.bas.ne (lv g T).toNat (colA n rs c (T.col.getD (en g T).toNat 0).toNat)).2.2.1 e;omega
  · rw [el];exact tst_bas_set h.bas.len hlr
def EndR (n : Nat) (rs : List Rw) (c : List Int) (g W : Nat) (bs : List Nat) (s : Int) : Prop :=
  (s = -1 ∧ ∀ v, v < W → 0 ≤ tt (colA n rs c) bs g (colA n rs c v)) ∨ ∃ e : Nat, s = e ∧ e < W ∧ (∀ k, k < rs.length → bs.getD k 0 ≠ e) ∧ tt (colA n rs c) bs g (colA n rs c e) < 0 ∧ ∀ i, i < rs.length → tt (colA n rs c) bs i (colA n rs c e) ≤ 0
theorem Ph.imp(h:Ph n rs c W T bs)(hL:LpOk n rs c)(hm:Tgt n rs c)(hW1:n+rs.length<=W)(hW:W<=n+rs.length+1){g:Nat}(hg:rs.length<=g)(hgM:g<rs.length+2)(hgT:g<T.rows.length):
  ∃k T' bs' s,ImpRun (n+rs.length+2) W (n+rs.length+1) (tst n rs c g bs') s k (tst n rs c g bs)/\ Ph n rs c W T' bs' /\ EndR n rs c g W bs' s/\ T'.rows.length=T.rows.length/\ T'.col.length=T.col.length:=by
 have hS:=lp_sys hL;have hN:=h.small hW1;have hG:=h.good
 have hex:∃k,stop g (it g k (T,bs)).1:=by
  refine Classical.byContradiction fun hno=> ?_
  have hn:∀k,¬stop g (it g k (T,bs)).1:=fun k hk=>hno ⟨k,hk⟩
  have hI:=fun k=>it_ok (W:=W) hS hg k (T,bs) hG hgT (fun j _=>hn j)
  have R:Run (colA n rs c) (Vok (rs.length+2)) (rs.length+2) rs.length g (rhsQ rs) (fun v=>v<W) (W+(rs.length+2)+2) (fun k=>(it g k (T,bs)).2) (fun k=>(lv g (it g k (T,bs)).1).toNat) (fun k=>((it g k (T,bs)).1.col.getD (en g (it g k (T,bs)).1).toNat 0).toNat):=
   ⟨hG.view.bas,hG.feas,hS.hq,hS.hA,hg,by omega,fun k=>(hI k).1.step hS hg (by rw [(hI k).2.1];exact hgT) (hn k),fun k=>by show (it g (k+1) (T,bs)).2=_;rw [it_succ];rfl,hN,fun v hv=>by omega⟩
  exact R.no
 obtain ⟨k,hk,hkl⟩:=least hex;obtain ⟨a1,a2,a3⟩:=it_ok (W:=W) hS hg k (T,bs) hG hgT hkl
 have hcl:(it g k (T,bs)).1.col.length=T.col.length:=by
  obtain ⟨s,hs1,hs2⟩:=a1.endp hg (by rw [a2];exact hgT) hk;exact (it_run hS hg k (T,bs) hG hgT hkl hs2).lens.2.2
 have hP:Ph n rs c W (it g k (T,bs)).1 (it g k (T,bs)).2:=⟨a1,by rw [a3 _ (Nat.le_refl _)];exact h.z,by rw [a3 _ (by omega)];exact h.w⟩;refine ⟨k,_,_,_,imp_it hL hm hW hg hgM k (T,bs) h hgT hkl hk,hP,?_,a2,hcl⟩;obtain ⟨s,hE,hs⟩:=a1.endp hg (by rw [a2];exact hgT) hk;rcases hs with ⟨he,hs⟩|⟨he,hl,hs⟩
 · refine .inl ⟨if_pos he,?_⟩;rcases hE with ⟨_,h1⟩|⟨e,h2,_⟩
   · exact h1
   · omega
 · rcases hE with ⟨h2,_⟩|⟨e,h2,h3,h4,h5⟩
   · omega
   · have hce:=a1.view.colv e;have hcW:=a1.cov.col e h3;rw [show (it g k (T,bs)).2=(it g k (T,bs)).2 from rfl] at h4
     have he2:(en g (it g k (T,bs)).1).toNat=e:=by omega
     refine .inr ⟨((it g k (T,bs)).1.col.getD e 0).toNat,?_,by omega,fun i hi hb=> ?_,h4,h5⟩
     · rw [show sOf g (it g k (T,bs)).1=_ from if_neg (by omega),he2];omega
     · exact a1.cov.dis e i h3 hi (by omega)
end
section
variable {n : Nat} {rs : List Rw} {c : List Int} {bs : List Nat} {W : Nat} {T : Tv}
theorem rq_bs0{i:Nat}(hi:i<rs.length+2){x:Vec}(hx:Vok (rs.length+2) x):rq (colA n rs c) (bs0 n rs.length) i x=((x i:Int):Rat):=by
 have h1:=bs0_tt (n:=n) (c:=c) hi hx;unfold tt at h1;rw [bs0_bas.2,show (1:Int).sign=1 from rfl,Int.one_mul] at h1;unfold rq;rw [bs0_bas.2,h1];show _/(1:Rat)=_
 grind
theorem stRow_at(n m i:Nat)(r:Rw){v:Nat}(hv:v<n+m+2):(stRow n m i r).getD v 0=if n+m+1=v then ((r.b:Int):Rat) else if n+m=v then -1 else if n+i=v then 1 else if v<r.cs.length then ((r.cs.getD v 0:Int):Rat) else 0:=by
 unfold stRow cfR;simp only [List.getD_eq_getElem?_getD,List.getElem?_set,List.length_set,List.length_map,List.length_range,List.getElem?_map,List.getElem?_range hv,Option.map_some];split
 · rw [if_pos (by omega)];rfl
 · split
   · rw [if_pos (by omega)];rfl
   · split
     · rw [if_pos (by omega)];rfl
     · rfl
theorem stRow_len(n m i:Nat)(r:Rw):(stRow n m i r).length=n+m+2:=by simp [stRow,cfR]
theorem ext_getD{α:Type}{a b:List α}{z:α}(hl:a.length=b.length)(h:∀i,i<a.length ->a.getD i z=b.getD i z):a=b:=by
 apply List.ext_getElem hl
 intro i h1 h2;have:=h i h1
 simpa [List.getD_eq_getElem?_getD,h1,h2] using this
theorem rowQ_bs0(hL:LpOk n rs c){i:Nat}(hi:i<rs.length):rowQ n rs c (bs0 n rs.length) i=stRow n rs.length i (rs.getD i rw0):=by
 have hrl:=hL.rl _ (rs_mem hi)
 refine ext_getD (z:=0) (by rw [YZ,stRow_len]) fun v hv=> ?_
 rw [YZ] at hv;rw [Z8 hv,stRow_at _ _ _ _ hv,rq_bs0 (by omega) (vcA_V v)];by_cases h1:n+rs.length+1=v
 · rw [if_pos h1,<- h1,vcA_hi];show ((if i<rs.length then (rs.getD i rw0).b else 0:Int):Rat)=_;rw [if_pos hi]
 · rw [if_neg h1,vcA_lo (by omega)];by_cases h2:n+rs.length=v
   · rw [if_pos h2,<- h2,colA_art];simp only;rw [if_pos hi];rfl
   · rw [if_neg h2];by_cases h3:v<n
     · rw [if_neg (by omega),YX h3,if_pos hi];by_cases h4:v<(rs.getD i rw0).cs.length
       · rw [if_pos h4]
       · rw [if_neg h4,getD_ge (by omega)];rfl
     · obtain ⟨k,rfl⟩:∃k,v=n+k:=⟨v - n,by omega⟩;rw [Ze (by omega)];unfold Go.Det.unit;by_cases h4:i=k
       · rw [if_pos (by omega)];simp [h4]
       · rw [if_neg (show ¬n+i=n+k by omega),if_neg (show ¬n+k<(rs.getD i rw0).cs.length by omega),if_neg h4];rfl
theorem tst_bs0_rows(hL:LpOk n rs c)(g:Nat):(tst n rs c g (bs0 n rs.length)).rows=stRows n rs:=by
 unfold tst stRows
 exact List.map_congr_left fun i hi=>rowQ_bs0 hL (List.mem_range.1 hi)
theorem tst_bs0_bas(g:Nat):(tst n rs c g (bs0 n rs.length)).bas=rng n rs.length:=by
 unfold tst rng
 exact List.map_congr_left fun i hi=>by rw [bs0_lo (List.mem_range.1 hi)]
theorem rowQ_bs0_w:rowQ n rs c (bs0 n rs.length) (rs.length+1)=(List.replicate (n+rs.length+2) (0:Rat)).set (n+rs.length) 1:=by
 refine ext_getD (z:=0) (by rw [YZ];simp) fun v hv=> ?_
 rw [YZ] at hv;rw [Z8 hv,rq_bs0 (by omega) (vcA_V v)];simp only [List.getD_eq_getElem?_getD,List.getElem?_set,List.length_replicate,List.getElem?_replicate,if_pos hv];by_cases h1:v=n+rs.length+1
 · rw [if_neg (by omega),h1,vcA_hi];show ((if rs.length+1<rs.length then (rs.getD (rs.length+1) rw0).b else 0:Int):Rat)=_;rw [if_neg (by omega)];rfl
 · rw [vcA_lo (by omega)];by_cases h2:n+rs.length=v
   · rw [if_pos h2,if_pos (by omega),<- h2,colA_art_w];rfl
   · rw [if_neg h2,colA_w0 (by omega)];rfl
def g0 (n : Nat) (rs : List Rw) (c : List Int) (v : Nat) : Int := vcA n rs c v rs.length
def goalK (n : Nat) (rs : List Rw) (c : List Int) (bs : List Nat) : Nat → List Rat
  | 0 => (List.range (n + rs.length + 2)).map fun v => ((g0 n rs c v : Int) : Rat)
  | k + 1 => (List.range (n + rs.length + 2)).map fun v => (goalK n rs c bs k).getD v 0 - ((g0 n rs c (bs.getD k 0) : Int) : Rat) * rq (colA n rs c) bs k (vcA n rs c v)
theorem Jk(k:Nat):(goalK n rs c bs k).length=n+rs.length+2:=by cases k <;>simp [goalK]
def offS (n : Nat) (rs : List Rw) (c : List Int) (bs : List Nat) (x : Vec) (k : Nat) : Int := sm (fun i => tt (colA n rs c) bs i x * colA n rs c (bs.getD i 0) rs.length) k
theorem goalK_at(hne:dD (colA n rs c) bs≠0):∀(k:Nat) {v:Nat},v<n+rs.length+2 ->(∀i,i<k ->vcA n rs c (bs.getD i 0)=colA n rs c (bs.getD i 0)) ->(goalK n rs c bs k).getD v 0=shq (Go.Det.den (colA n rs c) bs*g0 n rs c v - offS n rs c bs (vcA n rs c v) k) (Go.Det.den (colA n rs c) bs)
 |0,v,hv,_=>by
  show (List.map _ _).getD v 0=_
  simp only [List.getD_eq_getElem?_getD,List.getElem?_map,List.getElem?_range hv,Option.map_some,Option.getD_some]
  rw [show offS n rs c bs (vcA n rs c v) 0=0 from rfl,Int.sub_zero,shq_int (den_pos hne)]
 |k+1,v,hv,hb=>by
  have ih:=goalK_at hne k hv fun i hi=>hb i (by omega)
  show (List.map _ _).getD v 0=_
  simp only [List.getD_eq_getElem?_getD,List.getElem?_map,List.getElem?_range hv,Option.map_some,Option.getD_some]
  rw [<- List.getD_eq_getElem?_getD,ih,rq_shq hne,<- List.getD_eq_getElem?_getD]
  have e1:offS n rs c bs (vcA n rs c v) (k+1)=offS n rs c bs (vcA n rs c v) k+tt (colA n rs c) bs k (vcA n rs c v)*g0 n rs c (bs.getD k 0):=by
   unfold g0;rw [hb k (by omega)];rfl
  rw [e1];generalize Go.Det.den (colA n rs c) bs*g0 n rs c v=x;generalize offS n rs c bs (vcA n rs c v) k=y;generalize tt (colA n rs c) bs k (vcA n rs c v)=t;generalize g0 n rs c (bs.getD k 0)=g
  have e2:x - (y+t*g)=(x - y)+(-g)*t:=by grind
  rw [e2,shq_add,shq_mul,Rat.intCast_neg]
  grind
theorem Ph.vc(h:Ph n rs c W T bs)(hW:W<=n+rs.length+1){i:Nat}(hi:i<rs.length):bs.getD i 0<=n+rs.length/\ vcA n rs c (bs.getD i 0)=colA n rs c (bs.getD i 0):=by
 have:=h.good.cov.bas i hi;exact ⟨by omega,vcA_lo (by omega)⟩
theorem Ph.goal_all(h:Ph n rs c W T bs)(hW:W<=n+rs.length+1):goalK n rs c bs rs.length=rowQ n rs c bs rs.length:=by
 have hne:=h.bas.ne
 refine ext_getD (z:=0) (by rw [Jk,YZ]) fun v hv=> ?_
 rw [Jk] at hv;rw [goalK_at hne _ hv fun i hi=>(h.vc hW hi).2,Z8 hv,rq_shq hne]
 congr 1
 have hc:=h.comp (vcA_V (n:=n) (rs:=rs) (c:=c) v) rs.length;simp only [sm] at hc;rw [h.z,h.w,colA_z,colA_w] at hc;have e1:Go.Det.unit rs.length rs.length=1:=if_pos J;have e2:Go.Det.unit (rs.length+1) rs.length=0:=if_neg (by omega);rw [e1,e2] at hc;unfold g0 offS;rw [hc];grind
theorem Ph.goal_own(h:Ph n rs c W T bs)(hW:W<=n+rs.length+1){k:Nat}(hk:k<rs.length):(goalK n rs c bs k).getD (bs.getD k 0) 0=((g0 n rs c (bs.getD k 0):Int):Rat):=by
 have hne:=h.bas.ne;have hv:=h.vc hW hk;rw [goalK_at hne _ (by omega) fun i hi=>(h.vc hW (by omega)).2]
 have:offS n rs c bs (vcA n rs c (bs.getD k 0)) k=0:=Z4 fun i hi=>by
  rw [hv.2,Yu h.bas.len (by omega) (by omega) (by omega),Int.zero_mul]
 rw [this,Int.sub_zero,shq_int (den_pos hne)]
theorem goal_next(k:Nat):goalK n rs c bs (k+1)=(List.range (goalK n rs c bs k).length).map (lessV (goalK n rs c bs k) ((g0 n rs c (bs.getD k 0):Int):Rat) (rowQ n rs c bs k)):=by
 rw [Jk];show List.map _ _=_
 refine List.map_congr_left fun v hv=> ?_
 unfold lessV;rw [Z8 (List.mem_range.1 hv)]
theorem goal_skip{k:Nat}(hz:g0 n rs c (bs.getD k 0)=0):goalK n rs c bs (k+1)=goalK n rs c bs k:=by
 refine ext_getD (z:=0) (by rw [Jk,Jk]) fun v hv=> ?_
 rw [Jk] at hv;show (List.map _ _).getD v 0=_;simp only [List.getD_eq_getElem?_getD,List.getElem?_map,List.getElem?_range hv,Option.map_some,Option.getD_some];rw [<- List.getD_eq_getElem?_getD,<- List.getD_eq_getElem?_getD,hz];show _ - (0:Rat)*_=_
 grind
theorem goal_zero(hL:LpOk n rs c):goalK n rs c bs 0=cfR (c.map fun x=> -x) (n+rs.length+2) c.length:=by
 have hcl:=hL.cl;show List.map _ _=List.map _ _
 refine List.map_congr_left fun v hv=> ?_
 have hv:=List.mem_range.1 hv;unfold g0;by_cases h1:v=n+rs.length+1
 · rw [if_neg (by omega),h1,vcA_hi];show ((if rs.length<rs.length then (rs.getD rs.length rw0).b else 0:Int):Rat)=_;rw [if_neg (by omega)];rfl
 · rw [vcA_lo (by omega)];by_cases h2:v<n
   · rw [YX h2,if_neg (by omega),if_pos J,neg_getD];by_cases h3:v<c.length
     · rw [if_pos h3]
     · rw [if_neg h3,getD_ge (by omega)];rfl
   · rw [if_neg (by omega)];by_cases h3:v=n+rs.length
     · rw [h3,colA_art];simp only;rw [if_neg (by omega),if_neg (by omega)];rfl
     · obtain ⟨k,rfl⟩:∃k,v=n+k:=⟨v - n,by omega⟩;rw [Ze (by omega),show Go.Det.unit k rs.length=0 from if_neg (by omega)];rfl
theorem Kt10:65*(2 ^ 240*1048576)<1073741824 ^ 9:=by decide+kernel
theorem goalK_Q9(hL:LpOk n rs c)(hm:Tgt n rs c)(hl:bs.length=rs.length+2)(hne:dD (colA n rs c) bs≠0){k:Nat}(hk:k<=rs.length)(hb:∀i,i<k ->vcA n rs c (bs.getD i 0)=colA n rs c (bs.getD i 0)):∀x∈goalK n rs c bs k,Q9 x:=fun x hx=>by
 obtain ⟨v,hv,rfl⟩:=List.getElem_of_mem hx
 have hv' :=hv
 rw [Jk] at hv'
 have e:=goalK_at hne k hv' hb
 rw [List.getD_eq_getElem?_getD,List.getElem?_eq_getElem hv,Option.getD_some] at e
 rw [e]
 have hd:=den_pos hne
 have hmm:=hL.mm
 have h2:=hm bs rs.length _ hl (by omega) hne (.inr ⟨bs.getD rs.length 0,rfl⟩)
 rw [tt_own hl (by omega)] at h2
 have hg:(g0 n rs c v).natAbs<=1048576:=by
  unfold g0;rcases vcA_or (n:=n) (rs:=rs) (c:=c) v with e|⟨u,e⟩
  · rw [e];show (if rs.length<rs.length then (rs.getD rs.length rw0).b else 0:Int).natAbs<=_;rw [if_neg (by omega)];decide
  · rw [e];exact colA_bd hL u _
 have h3:(offS n rs c bs (vcA n rs c v) k).natAbs<=k*(2 ^ 240*1048576):=sm_natAbs fun i hi=>by
  rw [Int.natAbs_mul];exact Nat.mul_le_mul (hm bs i _ hl (by omega) hne (vcA_or v)) (colA_bd hL _ _)
 have h4:(Go.Det.den (colA n rs c) bs*g0 n rs c v).natAbs<=2 ^ 240*1048576:=by
  rw [Int.natAbs_mul];exact Nat.mul_le_mul h2 hg
 have h5:k*(2 ^ 240*1048576)<=64*(2 ^ 240*1048576):=Nat.mul_le_mul_right _ (by omega);have h6:=Kt10;obtain ⟨l1,l2⟩:=mk_le (Go.Det.den (colA n rs c) bs*g0 n rs c v - offS n rs c bs (vcA n rs c v) k) (Go.Det.den (colA n rs c) bs).natAbs (by omega);exact ⟨Q6 (Nat.lt_of_le_of_lt l1 (by omega)),Q6 (Nat.lt_of_le_of_lt l2 (by omega))⟩
end
def wrR (rs : List Rw) : Nat → Int
  | 0 => -1
  | i + 1 => if (rs.getD i rw0).b < 0 ∧ (wrR rs i < 0 ∨ (rs.getD i rw0).b < (rs.getD (wrR rs i).toNat rw0).b) then i else wrR rs i
theorem wrR_bd(rs:List Rw):∀i, -1<=wrR rs i/\ wrR rs i<i
 |0=>by simp [wrR]
 |i+1=>by
  have:=wrR_bd rs i
  simp only [wrR]
  split <;>omega
theorem rset_ne{l:List Rat}{i j:Nat}{x:Rat}(h:i≠j):(l.set i x).getD j 0=l.getD j 0:=by simp [List.getD_eq_getElem?_getD,List.getElem?_set,h]
section
variable {n : Nat} {rs : List Rw} {c : List Int} {bs : List Nat} {W : Nat} {T : Tv}
theorem Beg.wr_eq(h:Beg n rs c T):∀i,i<=rs.length ->wrR rs i=wrS T i
 |0,_=>rfl
 |i+1,hi=>by
  have ih:=h.wr_eq i (by omega)
  have hV:=h.view
  have hl:=h.len
  have e:∀k,k<rs.length ->T.at k T.col.length=(rs.getD k rw0).b:=fun k hk=>by
   rw [hV.rhs k (by omega),bs0_tt (by omega) JW]
   exact if_pos hk
  have bd:=wrS_bd T i
  simp only [wrR,wrS]
  rw [ih]
  refine ite_iff ?_
  rw [e i (by omega)]
  by_cases h1:wrS T i<0
  · simp only [h1,true_or]
  · rw [e _ (by omega)]
    omega
def dvJ (n : Nat) (rs : List Rw) (c : List Int) (bs : List Nat) (i : Nat) : Nat := (List.range (n + rs.length)).findIdx fun j => decide (rq (colA n rs c) bs i (colA n rs c j) ≠ 0)
def dv (n : Nat) (rs : List Rw) (c : List Int) (bs : List Nat) : Nat → List Nat
  | 0 => bs
  | i + 1 => if (dv n rs c bs i).getD i 0 = n + rs.length then (dv n rs c bs i).set i (dvJ n rs c (dv n rs c bs i) i) else dv n rs c bs i
theorem dvJ_least{i j:Nat}(h:j<dvJ n rs c bs i):rq (colA n rs c) bs i (colA n rs c j)=0:=by
 have h1:=List.not_of_lt_findIdx h
 have h2:dvJ n rs c bs i<=n+rs.length:=by
  unfold dvJ;have:=List.findIdx_le_length (xs:=List.range (n+rs.length)) (p:=fun j=>decide (rq (colA n rs c) bs i (colA n rs c j)≠0));simpa using this
 simpa using h1
theorem dvJ_hit{i j:Nat}(hj:j<n+rs.length)(h:rq (colA n rs c) bs i (colA n rs c j)≠0):dvJ n rs c bs i<n+rs.length/\ rq (colA n rs c) bs i (colA n rs c (dvJ n rs c bs i))≠0:=by
 have h1:dvJ n rs c bs i<n+rs.length:=by
  refine Classical.byContradiction fun h2=>h (dvJ_least (by omega))
 refine ⟨h1,?_⟩
 have h3:dvJ n rs c bs i<(List.range (n+rs.length)).length:=by simpa using h1
 have:=List.findIdx_getElem (xs:=List.range (n+rs.length)) (p:=fun j=>decide (rq (colA n rs c) bs i (colA n rs c j)≠0)) (w:=h3);have h4:rq (colA n rs c) bs i (colA n rs c ((List.range (n+rs.length))[dvJ n rs c bs i]'h3))≠0:=of_decide_eq_true this;have e:(List.range (n+rs.length))[dvJ n rs c bs i]'h3=dvJ n rs c bs i:=List.getElem_range _;rw [e] at h4;exact h4
structure Dr (n : Nat) (rs : List Rw) (c : List Int) (k : Nat) (T : Tv) (bs : List Nat) : Prop where
  ph : Ph n rs c (n + rs.length + 1) T bs
  rows : T.rows.length = rs.length + 2
  col : T.col.length = n + 1
  art : ∀ r, r < rs.length → bs.getD r 0 = n + rs.length → k ≤ r ∧ tt (colA n rs c) bs r (rhsQ rs) = 0
theorem Dr.next(hL:LpOk n rs c){k:Nat}(hk:k<rs.length)(h:Dr n rs c k T bs)(hb:bs.getD k 0=n+rs.length):
  dvJ n rs c bs k<n+rs.length/\ rq (colA n rs c) bs k (colA n rs c (dvJ n rs c bs k))≠0/\ ∃T',Dr n rs c (k+1) T' (bs.set k (dvJ n rs c bs k)):=by
 have hP:=h.ph;have hV:=hP.good.view;have hne:=hP.bas.ne;have hlen:=hP.bas.len;obtain ⟨j,hj,hn⟩:=hP.row_ne hk hb;have hce:=hV.colv j;have hcW:=hP.good.cov.col j hj
 have hn1:tt (colA n rs c) bs k (colA n rs c (T.col.getD j 0).toNat)≠0:=by
  rw [<- hV.num k (by rw [h.rows];omega) j hj];exact hn
 have hjl:(T.col.getD j 0).toNat<n+rs.length:=by
  have:=hP.good.cov.dis j k hj hk;omega
 have hq:rq (colA n rs c) bs k (colA n rs c (T.col.getD j 0).toNat)≠0:=fun e=>hn1 ((rq_sign hne k _).2.2.1 e)
 obtain ⟨d1,d2⟩:=dvJ_hit hjl hq;refine ⟨d1,d2,?_⟩;generalize dvJ n rs c bs k=d at*
 have d3:tt (colA n rs c) bs k (colA n rs c d)≠0:=fun e=>d2 ((rq_sign hne k _).2.2.2 e)
 rcases hP.good.cov.all d (by omega) with ⟨i,hi,he⟩|⟨s,hs,he⟩
 · exfalso
   refine d3 ?_
   rw [<- he];exact Yu hlen (by omega) (by omega) (fun e=>by rw [e,hb] at he;omega)
 · have e:(T.col.getD s 0).toNat=d:=by omega
   have hp:T.at k s≠0:=by rw [hV.num k (by rw [h.rows];omega) s hs,e];exact d3
   have:=hP.swap hL hk hs hp (h.art k hk hb).2;rw [e] at this;refine ⟨_,this,by rw [Xf];exact h.rows,by rw [Zg];exact h.col,fun r hr hbr=> ?_⟩;exfalso;rw [getD_set' (by omega)] at hbr;by_cases h1:k=r
   · rw [if_pos h1] at hbr;omega
   · rw [if_neg h1] at hbr;exact hne (Yr (i:=k) (k:=r) (by omega) (by omega) (by omega) (by rw [hb,hbr]))
theorem Dr.skip{k:Nat}(h:Dr n rs c k T bs)(hb:bs.getD k 0≠n+rs.length):Dr n rs c (k+1) T bs:=
 ⟨h.ph,h.rows,h.col,fun r hr hbr=>by
  have:=h.art r hr hbr
  refine ⟨?_,this.2⟩
  rcases Nat.lt_or_ge k r with h1|h1
  · omega
  · exact absurd (show bs.getD k 0=n+rs.length by rw [show k=r by omega];exact hbr) hb⟩
theorem Dr.all(hL:LpOk n rs c)(h:Dr n rs c 0 T bs):∀k,k<=rs.length ->∃T',Dr n rs c k T' (dv n rs c bs k)
 |0,_=>⟨T,h⟩
 |k+1,hk=>by
  obtain ⟨T',h'⟩:=Dr.all hL h k (by omega)
  simp only [dv]
  split
  · rename_i hb
    exact (h'.next hL (by omega) hb).2.2
  · rename_i hb
    exact ⟨T',h'.skip hb⟩
theorem Dr.cut{k:Nat}(h:Dr n rs c k T bs)(hk:rs.length<=k):∃T',Ph n rs c (n+rs.length) T' bs/\ T'.rows.length=rs.length+1:=by
 have hna:∀i,i<rs.length ->bs.getD i 0≠n+rs.length:=fun i hi hb=>by have:=(h.art i hi hb).1;omega
 rcases h.ph.good.cov.all (n+rs.length) (by omega) with ⟨i,hi,he⟩|⟨j,hj,he⟩
 · exact absurd he (hna i hi)
 · exact ⟨_,h.ph.cut h.rows hna hj he,by show (delP _ _ _).length=_;rw [delP_len,List.length_take,h.rows];omega⟩
structure Half2 (n : Nat) (rs : List Rw) (c : List Int) (bs bf : List Nat) (s : Int) : Prop where
  ph : ∃ T, Ph n rs c (n + rs.length) T bs
  run : ∃ k, ImpRun (n + rs.length + 2) (n + rs.length) (n + rs.length + 1) (tst n rs c rs.length bf) s k (tst n rs c rs.length bs)
  phf : ∃ T, Ph n rs c (n + rs.length) T bf
  endr : EndR n rs c rs.length (n + rs.length) bf s
theorem Ph.half(h:Ph n rs c (n+rs.length) T bs)(hL:LpOk n rs c)(hm:Tgt n rs c)(hT:rs.length<T.rows.length):∃bf s,Half2 n rs c bs bf s:=by
 obtain ⟨k,T',bf,s,h1,h2,h3,_,_⟩:=h.imp hL hm (Nat.le_refl _) (by omega) (g:=rs.length) (Nat.le_refl _) (by omega) hT;exact ⟨bf,s,⟨_,h⟩,⟨k,h1⟩,⟨_,h2⟩,h3⟩
def raR (X : TSt) (n j : Nat) : Nat → List Rat
  | 0 => (List.replicate n 0).set j 1
  | i + 1 => if X.bas.getD i 0 < n then (raR X n j i).set (X.bas.getD i 0).toNat (0 - X.at i j) else raR X n j i
theorem raR_len(X:TSt)(n j:Nat):∀i,(raR X n j i).length=n
 |0=>by simp [raR]
 |i+1=>by simp only [raR];split <;>simp [raR_len X n j i]
def oc2 (n : Nat) (rs : List Rw) (c : List Int) (bf : List Nat) (s : Int) : Oc :=
  if 0 ≤ s then ⟨2, frz0, (ptR (tst n rs c rs.length bf) n (n + rs.length + 1) rs.length).map ofQ, (raR (tst n rs c rs.length bf) n s.toNat rs.length).map ofQ, []⟩
  else ⟨1, ofQ ((tst n rs c rs.length bf).goal.getD (n + rs.length + 1) 0), (ptR (tst n rs c rs.length bf) n (n + rs.length + 1) rs.length).map ofQ, [], ((List.range rs.length).map fun i => (tst n rs c rs.length bf).goal.getD (n + i) 0).map ofQ⟩
theorem Ph.ptR_at(h:Ph n rs c (n+rs.length) T bs){v:Nat}(hv:v<n)(g:Nat):∀i,i<=rs.length ->(ptR (tst n rs c g bs) n (n+rs.length+1) i).getD v 0=shq (sm (fun k=>if bs.getD k 0=v then tt (colA n rs c) bs k (rhsQ rs) else 0) i) (Go.Det.den (colA n rs c) bs)
 |0,_=>by
  show (List.replicate n (0:Rat)).getD v 0=_
  rw [show sm _ 0=0 from rfl,Ys]
  simp [List.getD_eq_getElem?_getD,List.getElem?_replicate,hv]
 |i+1,hi=>by
  have ih:=h.ptR_at hv g i (by omega)
  have hne:=h.bas.ne
  have hlen:=h.bas.len
  simp only [ptR,sm]
  rw [tst_bas (by omega),tst_at (by omega) (by omega),vcA_hi,rq_shq hne,Int.toNat_natCast]
  by_cases h1:bs.getD i 0=v
  · rw [if_pos (by omega),if_pos h1,h1]
    have hz:sm (fun k=>if bs.getD k 0=v then tt (colA n rs c) bs k (rhsQ rs) else 0) i=0:=Z4 fun k hk=>if_neg fun e=>hne (Yr (i:=i) (k:=k) (by omega) (by omega) (by omega) (by rw [h1,e]))
    rw [hz,Int.zero_add]
    have hl:=ptR_len (tst n rs c g bs) n (n+rs.length+1) i
    simp [List.getD_eq_getElem?_getD,List.getElem?_set,hl,hv]
  · rw [if_neg h1,Int.add_zero,<- ih]
    split
    · rw [rset_ne (by omega)]
    · rfl
theorem Ph.raR_at(h:Ph n rs c (n+rs.length) T bs){v s:Nat}(hv:v<n)(hs:s<n+rs.length)(g:Nat):∀i,i<=rs.length ->(∀k,k<rs.length ->bs.getD k 0≠s) ->(raR (tst n rs c g bs) n s i).getD v 0=shq ((if v=s then Go.Det.den (colA n rs c) bs else 0) - sm (fun k=>if bs.getD k 0=v then tt (colA n rs c) bs k (colA n rs c s) else 0) i) (Go.Det.den (colA n rs c) bs)
 |0,_,_=>by
  have hd:=den_pos h.bas.ne
  show ((List.replicate n (0:Rat)).set s 1).getD v 0=_
  rw [show sm _ 0=0 from rfl,Int.sub_zero]
  by_cases h1:v=s
  · subst h1
    rw [if_pos rfl]
    have:=shq_int (b:=1) hd
    rw [Int.mul_one] at this
    rw [this]
    simp [List.getD_eq_getElem?_getD,hv]
  · rw [if_neg h1,Ys]
    simp [List.getD_eq_getElem?_getD,List.getElem?_set,List.getElem?_replicate,hv,Ne.symm h1]
 |i+1,hi,hb=>by
  have ih:=h.raR_at hv hs g i (by omega) hb
  have hne:=h.bas.ne
  have hlen:=h.bas.len
  simp only [raR,sm]
  rw [tst_bas (by omega),tst_at (by omega) (by omega),vcA_lo (by omega),rq_shq hne,Int.toNat_natCast]
  by_cases h1:bs.getD i 0=v
  · rw [if_pos (by omega),if_pos h1,h1]
    have hz:sm (fun k=>if bs.getD k 0=v then tt (colA n rs c) bs k (colA n rs c s) else 0) i=0:=Z4 fun k hk=>if_neg fun e=>hne (Yr (i:=i) (k:=k) (by omega) (by omega) (by omega) (by rw [h1,e]))
    rw [hz,Int.zero_add,if_neg (fun e=>hb i (by omega) (by rw [h1,e]))]
    have hl:=raR_len (tst n rs c g bs) n s i
    have e0:(0:Rat) - shq (tt (colA n rs c) bs i (colA n rs c s)) (Go.Det.den (colA n rs c) bs)=shq (0 - tt (colA n rs c) bs i (colA n rs c s)) (Go.Det.den (colA n rs c) bs):=by
     have:=shq_mul (tt (colA n rs c) bs i (colA n rs c s)) (-1) (Go.Det.den (colA n rs c) bs);rw [show (0:Int) - tt (colA n rs c) bs i (colA n rs c s)= -1*tt (colA n rs c) bs i (colA n rs c s) by omega,this];show _=_*(-1:Rat)
     grind
    rw [e0];simp [List.getD_eq_getElem?_getD,List.getElem?_set,hl,hv]
  · rw [if_neg h1,Int.add_zero,<- ih];split
    · rw [rset_ne (by omega)]
    · rfl
theorem Half2.sol{bf:List Nat}{s:Int}(h:Half2 n rs c bs bf s)(hL:LpOk n rs c):Sol n rs c (oc2 n rs c bf s):=by
 obtain ⟨T,hF⟩:=h.phf;have hne:=hF.bas.ne;have hlen:=hF.bas.len;have hpo:=hF.point;have hdK:=den_Kt hL hF
 have hvK:=fun v=>vx_Kt hL hF (.inl J) v
 have hpt:(ptR (tst n rs c rs.length bf) n (n+rs.length+1) rs.length).map ofQ=ptl n (vx n rs c bf (rhsQ rs)) (Go.Det.den (colA n rs c) bf):=by
  rw [list_range (ptR_len _ n _ _) (fun v hv=>hF.ptR_at hv rs.length rs.length (Nat.le_refl _)),List.map_map];rfl
 rcases h.endr with ⟨hs,h1⟩|⟨e,hs,he,hnb,h1,h2⟩
 · have hdu:=hF.dual h1
   have hdl:((List.range rs.length).map fun i=>(tst n rs c rs.length bf).goal.getD (n+i) 0).map ofQ=ptl rs.length (yx n rs c bf rs.length) (Go.Det.den (colA n rs c) bf):=by
    rw [List.map_map]
    refine List.map_congr_left fun i hi=> ?_
    have hi:=List.mem_range.1 hi;show ofQ ((tst n rs c rs.length bf).goal.getD (n+i) 0)=ofQ _;rw [goal_at (by omega),rq_shq hne];rfl
   have hval:(tst n rs c rs.length bf).goal.getD (n+rs.length+1) 0=shq (tt (colA n rs c) bf rs.length (rhsQ rs)) (Go.Det.den (colA n rs c) bf):=by
    show (rowQ n rs c bf rs.length).getD _ 0=_;rw [Z8 (by omega),vcA_hi,rq_shq hne]
   unfold oc2;rw [if_neg (by rw [hs];decide),hpt,hdl,hval];exact .opt _ _ _ _ hpo.1 hpo.2 hdu.1 hdu.2 hdK (fun v _=>hvK v) (fun i _=>tt_Kt hL hlen (by omega) (.inr ⟨_,rfl⟩)) (tt_Kt hL hlen (by omega) (.inl J))
 · have hra:=hF.ray he hnb h1 h2
   have hrl:(raR (tst n rs c rs.length bf) n e rs.length).map ofQ=ptl n (zx n rs c bf e) (Go.Det.den (colA n rs c) bf):=by
    rw [list_range (raR_len _ n e _) (fun v hv=>hF.raR_at hv he rs.length rs.length (Nat.le_refl _) hnb),List.map_map];rfl
   unfold oc2;rw [if_pos (by omega),hpt,hs,Int.toNat_natCast,hrl];refine .unb _ _ _ hpo.1 hra hdK (fun v _=>hvK v) (fun v _=> ?_);have hb:=vx_Kt hL hF (x:=colA n rs c e) (.inr ⟨_,rfl⟩) v;unfold zx;by_cases h3:v=e
   · rw [if_pos h3,h3,vx_out hnb,Int.sub_zero];exact hdK
   · rw [if_neg h3];omega
end
section
variable {n : Nat} {rs : List Rw} {c : List Int} {bs : List Nat} {W : Nat} {T : Tv}
structure Half1 (n : Nat) (rs : List Rw) (c : List Int) (bs : List Nat) : Prop where
  piv : Piv (n + rs.length + 2) (tst n rs c (rs.length + 1) (bs0 n rs.length)).rows (tst n rs c (rs.length + 1) ((bs0 n rs.length).set (wrR rs rs.length).toNat (n + rs.length))).rows (tst n rs c (rs.length + 1) (bs0 n rs.length)).goal (tst n rs c (rs.length + 1) ((bs0 n rs.length).set (wrR rs rs.length).toNat (n + rs.length))).goal (wrR rs rs.length).toNat (n + rs.length)
  run : ∃ k s, ImpRun (n + rs.length + 2) (n + rs.length + 1) (n + rs.length + 1) (tst n rs c (rs.length + 1) bs) s k (tst n rs c (rs.length + 1) ((bs0 n rs.length).set (wrR rs rs.length).toNat (n + rs.length)))
  ph : ∃ T, Ph n rs c (n + rs.length + 1) T bs
def oc3 (n : Nat) (rs : List Rw) (c : List Int) (bs : List Nat) : Oc := ⟨3, frz0, [], [], ((List.range rs.length).map fun i => (tst n rs c (rs.length + 1) bs).goal.getD (n + i) 0).map ofQ⟩
inductive RefRun (n : Nat) (rs : List Rw) (c : List Int) : Oc → Prop
  | keep (bf : List Nat) (s : Int) (hw : wrR rs rs.length < 0) (h : Half2 n rs c (bs0 n rs.length) bf s) : RefRun n rs c (oc2 n rs c bf s)
  | none (bs : List Nat) (hw : 0 ≤ wrR rs rs.length) (h : Half1 n rs c bs) (hv : (rq (colA n rs c) bs (rs.length + 1) (rhsQ rs)).num < 0) : RefRun n rs c (oc3 n rs c bs)
  | some (bs bf : List Nat) (s : Int) (hw : 0 ≤ wrR rs rs.length) (h : Half1 n rs c bs) (hv : ¬ (rq (colA n rs c) bs (rs.length + 1) (rhsQ rs)).num < 0)
      (T : Tv) (hd : Dr n rs c 0 T bs) (h2 : Half2 n rs c (dv n rs c bs rs.length) bf s) : RefRun n rs c (oc2 n rs c bf s)
theorem ref_run(hL:LpOk n rs c)(hm:Tgt n rs c):∃O,RefRun n rs c O/\ Sol n rs c O:=by
 obtain ⟨T,_,_,_,hR,_⟩:=lp_sol hL;have hB:=hR.beg;clear hR;have hwe:=hB.wr_eq rs.length (Nat.le_refl _);have hl:=hB.len
 have hcl:T.col.length=n:=by rw [hB.col,Qn]
 by_cases hw:wrR rs rs.length<0
 · obtain ⟨bf,s,h⟩:=(hB.ph hL (by omega)).half hL hm (by omega);exact ⟨_, .keep bf s hw h,h.sol hL⟩
 · have hw0:0<=wrR rs rs.length:=by omega
   have hwb:=wrR_bd rs rs.length;have hP:=(hB.ph1 hL (by omega)).1
   have hrl:(pvt (insT T ((n+rs.length:Nat):Int)) (wrS T rs.length).toNat T.col.length).rows.length=rs.length+2:=by
    rw [Xf];show (insP _ _ _ _).length=_;rw [insP_len];simp [hl]
   have hil:(pvt (insT T ((n+rs.length:Nat):Int)) (wrS T rs.length).toNat T.col.length).col.length=n+1:=by
    rw [Zg];show (T.col++ [_]).length=_;simp [hcl]
   rw [<- hwe] at hP hrl hil;obtain ⟨k,E,bs,s,hI,hPE,hEn,hr,hc⟩:=hP.imp hL hm (by omega) (Nat.le_refl _) (g:=rs.length+1) (by omega) (by omega) (by omega)
   have hne0:rq (colA n rs c) (bs0 n rs.length) (wrR rs rs.length).toNat (colA n rs c (n+rs.length))≠0:=by
    rw [rq_bs0 (by omega) (Jx _),colA_art];simp only;rw [if_pos (by omega)];decide
   have h1:Half1 n rs c bs:=⟨tst_piv hL hm bs0_bas.1 (by omega) (by omega) (by omega) (by omega) hne0,⟨k,s,hI⟩,⟨E,hPE⟩⟩
   have hcov:∀v,v<n+rs.length+1 ->0<=tt (colA n rs c) bs (rs.length+1) (colA n rs c v):=by
    rcases hEn with ⟨_,h1⟩|⟨e,_,he,_,h2,h3⟩
    · exact h1
    · exfalso;have hq:=hPE.w_eq (Nat.le_refl _) (Jx (n:=n) (rs:=rs) (c:=c) e);have hd:=den_pos hPE.bas.ne
      have hx:0<=colA n rs c e (rs.length+1):=by
       by_cases h4:e=n+rs.length
       · rw [h4,colA_art_w];decide
       · rw [colA_w0 (by omega)];decide
      have h5:=Int.mul_nonneg (Int.le_of_lt hd) hx
      have h6:sm (fun k=>if bs.getD k 0=n+rs.length then tt (colA n rs c) bs k (colA n rs c e) else 0) rs.length<=sm (fun _=>0) rs.length:=sm_le fun k hk=>by
       split
       · exact h3 k hk
       · exact Int.le_refl _
      rw [Z4 (f:=fun _=>0) fun _ _=>rfl] at h6;omega
   have hE1:End1 n rs c T E bs:=⟨hPE,hcov,by rw [hr,hrl],by rw [hc,hil]⟩;have hsg:=rq_sign hPE.bas.ne (rs.length+1) (rhsQ rs);by_cases hv:(rq (colA n rs c) bs (rs.length+1) (rhsQ rs)).num<0
   · refine ⟨_, .none bs hw0 h1 hv,?_⟩
     have hdl:((List.range rs.length).map fun i=>(tst n rs c (rs.length+1) bs).goal.getD (n+i) 0).map ofQ=ptl rs.length (yx n rs c bs (rs.length+1)) (Go.Det.den (colA n rs c) bs):=by
      rw [List.map_map]
      refine List.map_congr_left fun i hi=> ?_
      have hi:=List.mem_range.1 hi;show ofQ ((tst n rs c (rs.length+1) bs).goal.getD (n+i) 0)=ofQ _;rw [goal_at (by omega),rq_shq hPE.bas.ne];rfl
     unfold oc3;rw [hdl];exact .emp _ _ (hE1.refu (hsg.1.1 hv)) (den_Kt hL hPE) (fun i _=>tt_Kt hL hPE.bas.len (by omega) (.inr ⟨_,rfl⟩))
   · have hz:∀k,k<rs.length ->(if bs.getD k 0=n+rs.length then tt (colA n rs c) bs k (rhsQ rs) else 0)=0:=by
      have hq:=hPE.w_eq (Nat.le_refl _) (JW (rs:=rs));rw [show rhsQ rs (rs.length+1)=0 from if_neg (by omega),Int.mul_zero] at hq
      have h3:¬tt (colA n rs c) bs (rs.length+1) (rhsQ rs)<0:=fun e=>hv (hsg.1.2 e)
      refine sm_zero_of (fun k hk=> ?_) (by omega);split
      · exact hPE.good.feas k hk
      · exact Int.le_refl _
     have hD:Dr n rs c 0 E bs:=⟨hPE,by rw [hr,hrl],by rw [hc,hil],fun r hr hb=>⟨by omega,by have:=hz r hr;rwa [if_pos hb] at this⟩⟩;obtain ⟨T',hD'⟩:=hD.all hL rs.length (Nat.le_refl _);obtain ⟨T2,hP2,hr2⟩:=hD'.cut (Nat.le_refl _);obtain ⟨bf,s2,h2⟩:=hP2.half hL hm (by omega);exact ⟨_, .some bs bf s2 hw0 h1 hv E hD h2,h2.sol hL⟩
end
abbrev outZ : List CT := [.ex (.int .i64 0), .ex (.bool false), .ex (.slice none 0 0), .ex (.slice none 0 0), .ex (.slice none 0 0), .ex (.slice none 0 0), .ex (.slice none 0 0)]
theorem JX(l:List Rat):ratsC l=fracsC (l.map ofQ):=by simp [ratsC,fracsC,List.map_map];rfl
theorem sol34_end(n:Nat)(rs:List Rw)(c:List Int)(bs bf:List Nat)(s:Int)(hL:LpOk n rs c)(hm6:Tgt n rs c)(H:Half2 n rs c bs bf s)(ar ab:Option Addr)(lr cr lb cb:Nat)(S:BSet)(w:World):
  St {P:=prog,n:=261,S0:=S,w0:=w,bor:=noBor} [(0, .ct (intC n)),(6, .own 0),(8, .own 1),(9, .ct (intC ((n:Int)+rs.length+1)))]
   ((1, .box 144 (taCs n rs.length (.slice ar lr cr) (tst n rs c rs.length bs).goal (.slice ab lb cb)))::(0, .box 75 outZ)::tEnt (.slice ar lr cr) (tst n rs c rs.length bs).rows (.slice ab lb cb) (tst n rs c rs.length bs).bas)
   (seqR (seqR (seqR (seqR (seqR (seqR (seqR (seqR (seqR (seqR (bodyOf Tryz.f31)))))))))))
   (bodyPost prog Tryz.f31 (okPost {P:=prog,n:=261,S0:=S,w0:=w,bor:=noBor} (.tup [ocC (oc2 n rs c bf s),intC 0]))):=by
 obtain ⟨k,hR⟩:=H.run;obtain ⟨Tf,hF⟩:=H.phf;have hn:=hL.nn;have hmm64:=hL.mm;have hTf:Tok (n+rs.length+2) (tst n rs c rs.length bf):=tst_tok hL hm6 hF.bas.len hF.bas.ne (by omega);have hI:=improve34_ok n rs.length (n+rs.length+2) (n+rs.length) _ _ s k hR J (by omega) ar ab lr cr lb cb
 have hfb:∀i,0<=(tst n rs c rs.length bf).bas.getD i 0:=fun i=>by
  by_cases hi:i<rs.length
  · rw [tst_bas hi];omega
  · rw [getD_ge (by rw [hTf.b,Yz];omega)];exact Int.le_refl _
 have hPt:=point34_ok n rs.length (n+rs.length+2) (tst n rs c rs.length bf) hTf J hfb ar ab lr cr lb cb;have hDu:=duals34_ok n rs.length (n+rs.length+2) (tst n rs c rs.length bf) hTf (by omega) ar ab lr cr lb cb;have hfl:=Yz (n:=n) (rs:=rs) (c:=c) (bs:=bf) rs.length;rw [hfl] at hPt
 have e1:((n:Int)+rs.length+1 - 1)=((n+rs.length:Nat):Int):=by omega
 have hEn:=H.endr
 have hoc:oc2 n rs c bf s=if 0<=s then ⟨2,frz0,(ptR (tst n rs c rs.length bf) n (n+rs.length+1) rs.length).map ofQ,(raR (tst n rs c rs.length bf) n s.toNat rs.length).map ofQ,[]⟩
  else ⟨1,ofQ ((tst n rs c rs.length bf).goal.getD (n+rs.length+1) 0),(ptR (tst n rs c rs.length bf) n (n+rs.length+1) rs.length).map ofQ,[],((List.range rs.length).map fun i=>(tst n rs c rs.length bf).goal.getD (n+i) 0).map ofQ⟩:=rfl
 generalize oc2 n rs c bf s=O at hoc ⊢;generalize tst n rs c rs.length bf=X at*;generalize tst n rs c rs.length bs=Y at*;clear hR H
 refine St.den (Qj 1 J ?_)
 refine X4 (α:=Unit) (fun _=>True) (fun _=>[(0, .ct (intC n)),(6, .own 0),(8, .own 1),(9, .ct (intC ((n:Int)+rs.length+1))),(16, .ct (intC s))])
  (fun _=>(1, .box 144 (taCs n rs.length (.slice ar lr cr) X.goal (.slice ab lb cb)))::(0, .box 75 outZ)::tEnt (.slice ar lr cr) X.rows (.slice ab lb cb) X.bas) (fun _ _=> ?_) (fun KK hN=> ?_)
 rotate_left
 · refine Xz 4 J (by omega) ?_;rw [e1];refine YV [(1, .box 144 (taCs n rs.length (.slice ar lr cr) Y.goal (.slice ab lb cb))),(0, .box 75 outZ)] (gT J) hI J J J (fun _ h=>h.elim) J J J (fun _ _=> ?_);refine Qq 6 J ?_;exact Q7 hN () trivial (by exact Qx J)
 clear hI e1;refine Qj 7 J ?_;refine Qy J (fun hs=> ?_) (fun hs=> ?_)
 · rw [if_pos hs] at hoc;rcases hEn with ⟨h1,_⟩|⟨e,rfl,he,_⟩
   · omega
   have e2:(e:Int).toNat=e:=Int.toNat_natCast e;rw [e2] at hoc;have hW1:Ok prog 63 [intC 1] (ratC 1):=Whole_ok 1 (by decide) (by decide);have hW0:Ok prog 63 [intC 0] (ratC 0):=Whole_ok 0 (by decide) (by decide);refine Qj 3 J (Z7 2 (gT J) (zeros34_F n (by omega)) J J J J J J ?_);refine Qq 11 J ?_
   refine X4 (α:=Unit) (fun _=>True) (fun _=>[(0, .ct (intC n)),(6, .own 0),(8, .own 1),(16, .ct (intC e)),(17, .own 2)])
    (fun _=>(2, .row 54 3 (frR ((raR X n e 0).map some)))::(1, .box 144 (taCs n rs.length (.slice ar lr cr) X.goal (.slice ab lb cb)))::(0, .box 75 outZ)::tEnt (.slice ar lr cr) X.rows (.slice ab lb cb) X.bas) (fun _ _=> ?_) (fun KK hN=> ?_)
   rotate_left
   · refine Qy J (fun hlt=> ?_) (fun hlt=> ?_)
     · refine Qj 3 J (Qv (gT J) hW1 J (Qf n J J J (by rw [Xn,List.length_replicate]) J sFracs (by omega) (by omega) J ?_));rw [e2]
       refine stFr J J J J (by rw [List.length_replicate];omega) Zs ?_
       rw [show (List.replicate n (some (0:Rat))).set e (some 1)=(raR X n e 0).map some by simp [raR,List.map_set]]
       refine Qz ?_
       exact Q7 hN () trivial (by exact Qx J)
     · rw [show List.replicate n (some (0:Rat))=(raR X n e 0).map some by show _=((List.replicate n (0:Rat)).set e 1).map some;rw [List.set_eq_of_length_le (by rw [List.length_replicate];omega)];simp]
       refine Qj 1 J ?_
       exact Q7 hN () trivial (by exact Qx J)
   refine Qj 7 J ?_
   refine QY (α:=Nat) (fun i=>i<=rs.length)
    (fun i=>[(0, .ct (intC n)),(6, .own 0),(8, .own 1),(16, .ct (intC e)),(17, .own 2),(18, .ct (intC i))])
    (fun i=>(2, .row 54 3 (frR ((raR X n e i).map some)))::(1, .box 144 (taCs n rs.length (.slice ar lr cr) X.goal (.slice ab lb cb)))::(0, .box 75 outZ)::tEnt (.slice ar lr cr) X.rows (.slice ab lb cb) X.bas) (fun i=>rs.length - i) 0 (Nat.zero_le _) (by exact Qx J) ?_
   intro i hi
   (try dsimp only at hi ⊢)
   refine Qj 9 J ?_;refine Qy J (fun hil=> ?_) (fun hil=> ?_)
   · have k2:(i:Int).toNat*1=i:=by omega
     have hlt:i<X.rows.length:=by omega
     have hwi:=hTf.w i hlt;have hat:X.at i e=(X.rows.getD i []).getD e 0:=rfl;have q:=hTf.q i hlt _ (XX (z:=(0:Rat)) (show e<(X.rows.getD i []).length by omega));rw [<- hat] at q;have qn:=q.n;have qd:=q.d
     have l0:(limbs (ofQ 0).num).length<=20:=by decide+kernel
     have l1:(limbs (ofQ 0).den).length<=20:=by decide+kernel
     have en1:(ofQ (0 - X.at i e)).num=(ofQ (X.at i e)).num:=by
      rw [show (0:Rat) - X.at i e= -(X.at i e) by grind];show (-(X.at i e)).num.natAbs=_;rw [Rat.neg_num,Int.natAbs_neg];rfl
     have ed1:(ofQ (0 - X.at i e)).den=(ofQ (X.at i e)).den:=by
      rw [show (0:Rat) - X.at i e= -(X.at i e) by grind];show (-(X.at i e)).den=_;rw [Rat.neg_den];rfl
     have hSb:=rFSub_q 0 (X.at i e) l0 l1 (by omega) (by omega);have hRd:=rFReduce_q (0 - X.at i e) (by rw [en1];omega) (by rw [ed1];omega);have hbi:=hfb i;have hrl:=raR_len X n e i;have hTb:=hTf.b
     have hrs:raR X n e (i+1)=if X.bas.getD i 0<n then (raR X n e i).set (X.bas.getD i 0).toNat (0 - X.at i e) else raR X n e i:=rfl
     refine Qj 9 J (Q5 9 X.bas.length J J J (by simp [ints]) J sInts (by omega) (by omega) J ?_);rw [k2]
     refine QK J J J J (XK (by omega)) lInt J ?_;refine Qq 4 J ?_;refine Qy J (fun h2=> ?_) (fun h2=> ?_)
     · rw [if_pos h2] at hrs;obtain ⟨v,hv⟩:∃v:Nat,X.bas.getD i 0=v:=⟨(X.bas.getD i 0).toNat,by omega⟩;have e5:(v:Int).toNat=v:=Int.toNat_natCast v;rw [hv,e5] at hrs;rw [hv] at h2;refine Qj 1 J (X4 (α:=Unit) (fun _=>True) (fun _=>[(0, .ct (intC n)),(6, .own 0),(8, .own 1),(16, .ct (intC e)),(17, .own 2),(18, .ct (intC i)),(19, .own 3)]) (fun _=>((3, .box 54 (frCs (ofQ (0 - X.at i e))))::(2, .row 54 3 (frR ((raR X n e i).map some)))::(1, .box 144 (taCs n rs.length (.slice ar lr cr) X.goal (.slice ab lb cb)))::(0, .box 75 outZ)::tEnt (.slice ar lr cr) X.rows (.slice ab lb cb) X.bas)) (fun _ _=> ?_) (fun KK hN=> ?_));rotate_left
       · refine YU mixed 14 0x800f6e0c0b0a4940800f6e0c0b0a49800f6e4d0c0b0a0dc90dc02807250422060301 J (by kernel_rfl) (fun K hK=> ?_);refine (fun (cont:Go.Own.Fin _ [(0, .ct (intC n)),(6, .own 0),(8, .own 1),(16, .ct (intC e)),(17, .own 2),(18, .ct (intC i)),(19, .own 3)] ((3, .box 54 (frCs (ofQ (0 - X.at i e))))::(2, .row 54 3 (frR ((raR X n e i).map some)))::(1, .box 144 (taCs n rs.length (.slice ar lr cr) X.goal (.slice ab lb cb)))::(0, .box 75 outZ)::tEnt (.slice ar lr cr) X.rows (.slice ab lb cb) X.bas) K)=> ?_) (hK _ _ ?_);rotate_left
         · clear hK K;exact Q7 hN () trivial (by exact Qx J)
         clear hK;refine Q2 4 J (Q5 8 X.rows.length J J J (rowsR_len _) J sRat2 (by omega) (by omega) J ?_);rw [k2];refine QK J J J J (rowsR_at hlt) lRat1 J (Q8 0 sFracs J (by omega) ?_);refine Q2 1 J ?_
         rw [e2];rw [<- hat]
         refine Zm ?_ ?_
         · refine Qv (gT J) hW0 J (Zm ?_ ?_)
           · refine Qv (gT J) hSb J (Q2 6 J ?_);exact Qz (ZW cont ⟨rfl,rfl,rfl,rfl,rfl,rfl,rfl,trivial⟩)
           · refine Q2 1 J (Qv (gT J) hSb J (Q2 5 J ?_));exact Qz (ZW cont ⟨rfl,rfl,rfl,rfl,rfl,rfl,rfl,trivial⟩)
         · refine Q2 1 J (Qv (gT J) hW0 J (Qv (gT J) hSb J (Q2 5 J ?_)));exact Qz (ZW cont ⟨rfl,rfl,rfl,rfl,rfl,rfl,rfl,trivial⟩)
       refine XY 9 0x8069084726250422030100 J ?_;refine Qq 4 J (Q5 9 X.bas.length J J J (by simp [ints]) J sInts (by omega) (by omega) J ?_);rw [k2];refine QK J J J J (XK (by omega)) lInt J ?_
       rw [hv];refine Qq 1 J (Qv (gT J) hRd J (Qf n J J J (by rw [Xn,List.length_map,hrl]) J sFracs (by omega) (by omega) J ?_));rw [e5]
       refine stFr J J J J (by rw [List.length_map];omega) Zs ?_
       rw [show ((raR X n e i).map some).set v (some (0 - X.at i e))=(raR X n e (i+1)).map some by rw [hrs,List.map_set]];refine QZ 8 J (by omega) ?_;refine Qc 3 (Qk (i+1) (by omega) (by omega) (by exact Qx J))
     · rw [if_neg h2] at hrs;rw [<- hrs];refine Xz 8 J (by omega) ?_;refine Qk (i+1) (by omega) (by omega) (by exact Qx J)
   · have hi' :i=rs.length:=by omega
     subst hi';refine X6 2 _ J (frR_rats _ _) noBor_sub (Qj 5 J (YV [(1, .box 144 (taCs n rs.length (.slice ar lr cr) X.goal (.slice ab lb cb))),(0, .box 75 outZ)] (gT J) hPt J J J (fun _ h=>h.elim) J J J (fun _ _=> ?_)));refine Qq 1 J ?_
     rw [JX];refine Qq 6 J ?_
     have hw:argW ([.ex (.int .i64 2)]++ [.ex (.bool false), .ex (.slice none 0 0), .ex (.slice none 0 0)]++ [fracsC ((ptR X n (n+rs.length+1) rs.length).map ofQ),ratsC (raR X n e rs.length), .ex (.slice none 0 0)]) (ocCs O):=by
      rw [JX (raR X n e rs.length),hoc];exact ⟨Zx,Zx,w_nat0,w_nat0,Zx,Zx,Zp,trivial⟩
     refine X5 [_,_] rfl (Xv (w_agg hw) (Qi J J lOut J (Q4 J Q3))) J J
 · rw [if_neg hs] at hoc;have qv:=hTf.qg _ (XX (z:=(0:Rat)) (show n+rs.length+1<X.goal.length by rw [hTf.g];omega));have qn:=qv.n;have qd:=qv.d;have hRd:=rFReduce_q (X.goal.getD (n+rs.length+1) 0) (by omega) (by omega);have hg:=hTf.g
   have e4:((n:Int)+rs.length+1).toNat=n+rs.length+1:=by omega
   refine Qj 3 J ?_;refine Yx mixed [7,11] 0xa0a0a0a0a0800c6b0a49674548a0a0a0a0800c6b0a496748a0a0800c6b0a49286745262403210200 J (by kernel_rfl) (fun K hK=> ?_);refine (fun (cont:Go.Own.Fin _ [(6, .own 0),(7, .ct (intC 0))] ((1, .box 144 (taCs n rs.length (.slice ar lr cr) X.goal (.slice ab lb cb)))::(0, .box 75 ([.ex (.int .i64 1)]++frCs (ofQ (X.goal.getD (n+rs.length+1) 0))++ [fracsC ((ptR X n (n+rs.length+1) rs.length).map ofQ), .ex (.slice none 0 0),fracsC (((List.range rs.length).map fun i=>X.goal.getD (n+i) 0).map ofQ)]))::tEnt (.slice ar lr cr) X.rows (.slice ab lb cb) X.bas) K)=> ?_) (hK _ _ ?_);rotate_left
   · clear hK K;refine Xs 2 J ?_
     have hw:argW ([.ex (.int .i64 1)]++frCs (ofQ (X.goal.getD (n+rs.length+1) 0))++ [fracsC ((ptR X n (n+rs.length+1) rs.length).map ofQ), .ex (.slice none 0 0),fracsC (((List.range rs.length).map fun i=>X.goal.getD (n+i) 0).map ofQ)]) (ocCs O):=by
      rw [hoc];exact ⟨Zx,Zx,Zx,Zx,Zx,Zp,Zx,trivial⟩
     refine X5 [_,_] rfl (Xv (w_agg hw) (Qi J J lOut J (Q4 J Q3))) J J
   clear hK;refine Xw 3 J (X7 (Q8 0 sFracs J (by omega) ?_));refine Qz (Xt (Q2 1 J ?_));rw [e4];refine Qz (Xw 1 J (Ql ?_ ?_))
   · refine Qv (gT J) hRd J (Qz (Q0 ?_ ?_))
     · refine YV [(1, .box 144 (taCs n rs.length (.slice ar lr cr) X.goal (.slice ab lb cb))),(0, .box 75 outZ)] (gT J) hPt J J J (fun _ h=>h.elim) J J J (fun _ _=> ?_);refine Qz (Xw 1 J (Ql ?_ Qu));refine Qv (gT J) hDu J (Qz ?_);rw [JX,JX];refine Xw 3 J ?_;exact Qb (ZW cont ⟨rfl,rfl,trivial⟩)
     refine Xw 1 J (Q0 ?_ Qu);refine YV [(1, .box 144 (taCs n rs.length (.slice ar lr cr) X.goal (.slice ab lb cb))),(0, .box 75 outZ)] (gT J) hPt J J J (fun _ h=>h.elim) J J J (fun _ _=> ?_);refine Qz (Ql ?_ Qu);refine Qv (gT J) hDu J (Qz ?_);rw [JX,JX];refine Xw 3 J ?_;exact Qb (ZW cont ⟨rfl,rfl,trivial⟩)
   refine Xw 1 J (Ql ?_ Qu);refine Qv (gT J) hRd J (Qz (Q0 ?_ Qu));refine YV [(1, .box 144 (taCs n rs.length (.slice ar lr cr) X.goal (.slice ab lb cb))),(0, .box 75 outZ)] (gT J) hPt J J J (fun _ h=>h.elim) J J J (fun _ _=> ?_);refine Qz (Ql ?_ Qu);refine Qv (gT J) hDu J (Qz ?_);rw [JX,JX];refine Xw 3 J ?_;exact Qb (ZW cont ⟨rfl,rfl,trivial⟩)
end Go.Proofs.YtfimckpnnbibcaaGreat
namespace Go.Det
theorem cols_nodup{A:Nat ->Vec}:∀(bs:List Nat) (P:List Vec),dt (P++cols A bs)≠0 ->bs.Nodup
 | [],_,_=>List.nodup_nil
 |b::l,P,h=>by
  refine List.nodup_cons.2 ⟨fun hb=> ?_,cols_nodup l (P++ [A b]) (by rw [List.append_assoc];exact h)⟩
  obtain ⟨l1,l2,rfl⟩:=List.append_of_mem hb
  refine h ?_
  have:=dt_eq (A b) (cols A l1) P (cols A l2)
  simpa [cols] using this
def prodW (W : Nat → Nat) : List Nat → Nat
  | [] => 1
  | b :: l => W b * prodW W l
theorem prodN_W{A:Nat ->Vec}{W:Nat ->Nat}{k:Nat}(h:∀v,nrm 0 k (A v)<=W v):∀l,prodN 0 k (cols A l)<=prodW W l
 | []=>Nat.le_refl _
 |b::l=>Nat.mul_le_mul (h b) (prodN_W h l)
theorem prodN_set{A:Nat ->Vec}{W:Nat ->Nat}{k:Nat}(h1:∀v,1<=W v)(h:∀v,nrm 0 k (A v)<=W v)(x:Vec):∀(l:List Nat) (i:Nat),i<l.length ->prodN 0 k ((cols A l).set i x)<=nrm 0 k x*prodW W l
 | [],i,hi=>absurd hi (Nat.not_lt_zero i)
 |b::l,0,_=>Nat.mul_le_mul_left _ (Nat.le_trans (prodN_W h l) (Nat.le_mul_of_pos_left _ (h1 b)))
 |b::l,i+1,hi=>by
  have:=Nat.mul_le_mul (h b) (prodN_set h1 h x l i (by simpa using hi))
  refine Nat.le_trans this (Nat.le_of_eq ?_)
  show _=nrm 0 k x*(W b*prodW W l)
  rw [Nat.mul_left_comm]
theorem cnt_le{a:Nat}:∀{l:List Nat},l.Nodup ->l.countP (fun v=>decide (v=a))<=1
 | [],_=>Nat.zero_le _
 |b::l,h=>by
  obtain ⟨h1,h2⟩:=List.nodup_cons.1 h
  rw [List.countP_cons]
  by_cases e:b=a
  · subst e
    have:l.countP (fun v=>decide (v=b))=0:=List.countP_eq_zero.2 fun v hv=>by
     simp only [decide_eq_true_eq]
     intro e;subst e;exact h1 hv
    simp [this]
  · have:=cnt_le (a:=a) h2
    simp [e,this]
theorem cnt_lt{l:List Nat}(h:l.Nodup):∀n:Nat,l.countP (fun v=>decide (v<n))<=n
 |0=>by rw [List.countP_eq_zero.2 (fun v _=>by simp)];exact Nat.le_refl 0
 |n+1=>by
  have h1:=cnt_lt h n
  have h2:=cnt_le (a:=n) h
  have:∀l:List Nat,l.countP (fun v=>decide (v<n+1))=l.countP (fun v=>decide (v<n))+l.countP (fun v=>decide (v=n)):=fun l=>by
   induction l with
   |nil=>rfl
   |cons b l ih=>
    simp only [List.countP_cons,ih]
    by_cases e1:b<n
    · simp [e1,show b<n+1 by omega,show b≠n by omega];omega
    · by_cases e2:b=n
      · subst e2;simp;omega
      · simp [e1,e2,show ¬b<n+1 by omega]
  rw [this];omega
theorem prodW_pow{p:Nat ->Bool}{K:Nat}:∀l:List Nat,prodW (fun v=>if p v=true then K else 1) l=K ^ l.countP p
 | []=>rfl
 |b::l=>by
  show (if p b=true then K else 1)*prodW _ l=_
  rw [prodW_pow l,List.countP_cons]
  by_cases e:p b=true
  · rw [if_pos e,if_pos e,Nat.pow_succ,Nat.mul_comm]
  · rw [if_neg e,if_neg e,Nat.one_mul,Nat.add_zero]
end Go.Det
namespace Go.Det
theorem nrm_le{c:Vec}{B:Nat}(h:∀j,(c j).natAbs<=B)(r:Nat):∀k,nrm r k c<=k*B
 |0=>Nat.zero_le _
 |k+1=>by
  have h1:=nrm_le h r k
  have h2:=h (r+k)
  rw [Nat.add_mul,Nat.one_mul]
  exact Nat.add_le_add h1 h2
theorem nrm_unit(a r:Nat):∀k,nrm r k (fun j=>if j=a then 1 else 0)<=if a<r+k then 1 else 0
 |0=>Nat.zero_le _
 |k+1=>by
  have h1:=nrm_unit a r k
  show nrm r k _+(if r+k=a then (1:Int) else 0).natAbs<=_
  by_cases e:r+k=a
  · rw [if_neg (by omega)] at h1
    rw [if_pos e,if_pos (by omega)]
    exact Nat.add_le_add h1 (Nat.le_refl 1)
  · rw [if_neg e]
    refine Nat.le_trans h1 ?_
    by_cases e2:a<r+k
    · rw [if_pos e2,if_pos (by omega)];exact Nat.le_refl 1
    · rw [if_neg e2];exact Nat.zero_le _
theorem nrm_zero(r:Nat):∀k,nrm r k (fun _=>0)=0
 |0=>rfl
 |k+1=>by show nrm r k _+0=0;rw [nrm_zero r k]
end Go.Det
namespace Go.Proofs.YtfimckpnnbibcaaGreat
open Go.Own Go.Limbs Go.Det Go.Proofs.Tryz
section
variable {n : Nat} {rs : List Rw} {c : List Int}
def wgt (n m v : Nat) : Bool := decide (v < n) || decide (v = n + m)
theorem colA_nrm(hm:rs.length<=62)(hr:∀r∈rs,∀i,(r.cs.getD i 0).natAbs<=4)(hc:∀i,(c.getD i 0).natAbs<=4)(v:Nat):nrm 0 (rs.length+2) (colA n rs c v)<=if wgt n rs.length v=true then 256 else 1:=by
 by_cases h1:v<n
 · rw [if_pos (by simp [wgt,h1])];refine Nat.le_trans (nrm_le (B:=4) (fun j=> ?_) 0 _) (by omega);rw [YX h1];split
   · exact hr _ (rs_mem ‹_›) v
   · split
     · rw [Int.natAbs_neg];exact hc v
     · exact Nat.zero_le _
 by_cases h2:v=n+rs.length
 · subst h2;rw [if_pos (by simp [wgt])];refine Nat.le_trans (nrm_le (B:=4) (fun j=> ?_) 0 _) (by omega);rw [colA_art];dsimp only;split
   · decide
   · split <;>decide
 rw [if_neg (by simp [wgt,h1,h2])]
 have hu:∀a,nrm 0 (rs.length+2) (Go.Det.unit a)<=1:=fun a=>Nat.le_trans (nrm_unit a 0 _) (by split <;>omega)
 by_cases h3:v<n+rs.length
 · obtain ⟨k,rfl⟩:∃k,v=n+k:=⟨v - n,by omega⟩;rw [Ze (by omega)];exact hu k
 by_cases h4:v=n+rs.length+1
 · rw [h4,colA_z];exact hu _
 by_cases h5:v=n+rs.length+2
 · rw [h5,colA_w];exact hu _
 · have:colA n rs c v=fun _=>0:=by
    funext j
    unfold colA;rw [if_neg h1,if_neg h3,if_neg h2,if_neg h4,if_neg h5]
   rw [this,nrm_zero];exact Nat.zero_le _
theorem Tgt.of(hn:n<=16)(hm:rs.length<=62)(hr:∀r∈rs,∀i,(r.cs.getD i 0).natAbs<=4)(hc:∀i,(c.getD i 0).natAbs<=4)(hb:∀r∈rs,r.b.natAbs<=65536):Tgt n rs c:=fun bs i x hl hi hd hx=>by
 have hN:bs.Nodup:=cols_nodup (A:=colA n rs c) bs [] hd
 have hw:=colA_nrm (n:=n) hm hr hc
 have hxn:nrm 0 (rs.length+2) x<=4194304:=by
  rcases hx with rfl|⟨v,rfl⟩
  · refine Nat.le_trans (nrm_le (B:=65536) (fun j=> ?_) 0 _) (by omega);unfold rhsQ;split
    · exact hb _ (rs_mem ‹_›)
    · exact Nat.zero_le _
  · refine Nat.le_trans (hw v) ?_
    split <;>omega
 have h1:=dt_l1 ((cols (colA n rs c) bs).set i x)
 have hlen:((cols (colA n rs c) bs).set i x).length=rs.length+2:=by simp [cols,hl]
 rw [hlen] at h1;have h2:=prodN_set (A:=colA n rs c) (W:=fun v=>if wgt n rs.length v=true then 256 else 1) (k:=rs.length+2) (fun v=>by split <;>omega) hw x bs i (by omega);rw [prodW_pow] at h2
 have h3:bs.countP (wgt n rs.length)<=17:=by
  have a1:=cnt_lt hN n;have a2:=cnt_le (a:=n+rs.length) hN
  have:∀l:List Nat,l.countP (wgt n rs.length)<=l.countP (fun v=>decide (v<n))+l.countP (fun v=>decide (v=n+rs.length)):=fun l=>by
   induction l with
   |nil=>exact Nat.le_refl _
   |cons b l ih=>
    rw [List.countP_cons,List.countP_cons,List.countP_cons];by_cases e1:b<n
    · rw [if_pos (show wgt n rs.length b=true by simp [wgt,e1]),if_pos (show decide (b<n)=true by simp [e1])];split <;>omega
    · by_cases e2:b=n+rs.length
      · rw [if_pos (show wgt n rs.length b=true by simp [wgt,e2]),if_neg (show ¬decide (b<n)=true by simp [e1]),if_pos (show decide (b=n+rs.length)=true by simp [e2])];omega
      · rw [if_neg (show ¬wgt n rs.length b=true by simp [wgt,e1,e2]),if_neg (show ¬decide (b<n)=true by simp [e1]),if_neg (show ¬decide (b=n+rs.length)=true by simp [e2])];omega
  have:=this bs;omega
 have h4:256 ^ bs.countP (wgt n rs.length)<=256 ^ 17:=Nat.pow_le_pow_right (by decide) h3;have h5:(dT (colA n rs c) bs i x).natAbs<=4194304*256 ^ 17:=Nat.le_trans h1 (Nat.le_trans h2 (Nat.mul_le_mul hxn h4));unfold tt;rw [Int.natAbs_mul];have h6:=Nat.mul_le_mul (sgn_le1 (dD (colA n rs c) bs)) h5;refine Nat.le_trans h6 (by decide+kernel)
end
end Go.Proofs.YtfimckpnnbibcaaGreat
namespace Go.Proofs.YtfimckpnnbibcaaGreat
open Go.Det Go.Limbs Go.Own Go.Proofs.Tryz
section
variable {n : Nat} {rs : List Rw} {c : List Int} {O O' : Oc}
theorem sol_same(h:Sol n rs c O)(h' :Sol n rs c O')(hk:O.kind=1):O'.kind=1/\ O'.value=O.value:=by
 cases h with
 |opt D X Y val hX hv hY hw=>
  cases h' with
  |opt D' X' Y' val' hX' hv' hY' hw' =>
   have w1:=weak hX hY';have w2:=weak hX' hY;rw [hv,hw'] at w1;rw [hv',hw] at w2;have d1:=hX.den;have d2:=hX'.den;refine ⟨rfl,congrArg ofQ ?_⟩;unfold shq;rw [Rat.mkRat_eq_iff (by omega) (by omega),show ((D'.natAbs:Nat):Int)=D' by omega,show ((D.natAbs:Nat):Int)=D by omega,Int.mul_comm val',Int.mul_comm val];omega
  |unb D' X' Z hX' hZ=>exact (no_ray hZ hY).elim
  |emp D' Y' hY' =>exact (no_refu hX hY').elim
 |unb=>exact absurd (show (2:Int)=1 from hk) (by decide)
 |emp=>exact absurd (show (3:Int)=1 from hk) (by decide)
theorem sol_dual(hv:validR n rs=true)(hm:rs.length<=32)(hc:c.length<=n)(h:Sol n rs c O)(hk:O.kind=1):Mul n rs O.dual/\ covQ (colsQ rs O.dual n) c=true/\ ofQ (bsQ rs O.dual)=O.value:=by
 cases h with
 |opt D X Y val hX hv' hY hw b1 b2 b3 b4=>
  have hK:=Kt29 rs.length (by omega);refine ⟨mul29 hv hX.den hY.nn (Nat.lt_of_le_of_lt b1 hK) (fun i hi=>Nat.lt_of_le_of_lt (b3 i hi) hK),cov_ptl c hX.den hc fun j hj=> ?_,?_⟩
  · have:=hY.col j hj;exact this
  · show ofQ (bsQ rs (ptl rs.length Y D))=_;rw [bsQ_ptl,hw]
 |unb=>exact absurd (show (2:Int)=1 from hk) (by decide)
 |emp=>exact absurd (show (3:Int)=1 from hk) (by decide)
theorem sol_un{k:Nat}{f:Int}{r1:Rw}(hk:k<n)(h1:r1∈rs)(hc:∀j,j<n ->(unL n k 1).getD j 0<=r1.cs.getD j 0)(hf:f=1 \/f= -1)(h:Sol n rs (unL n k f) O)(hkd:O.kind=1):Btw (-r1.b) r1.b O.value:=by
 cases h with
 |opt D X Y val hX hv hY hw=>
  obtain ⟨Y1,d1,v1⟩:=dual_one (n:=n) (c:=unL n k 1) h1 hc;have w:=weak hX d1
  have e:∀g:Int,sm (fun j=>(unL n k g).getD j 0*X j) n=g*X k:=fun g=>rsum_un g hk X
  rw [e 1,v1,Int.one_mul,Int.one_mul] at w;rw [e f] at hv;have h0:=hX.nn k hk;have hD:=hX.den
  have h3:0<=D*r1.b:=by omega
  rw [Int.mul_comm] at w h3
  refine btw_of hD ?_ ?_
  · rw [Int.neg_mul];rcases hf with rfl|rfl <;>omega
  · rcases hf with rfl|rfl <;>omega
 |unb=>exact absurd (show (2:Int)=1 from hkd) (by decide)
 |emp=>exact absurd (show (3:Int)=1 from hkd) (by decide)
end
theorem btw_fl{b:Int}{f:Fr}(h:Btw (-b) b f)(hb:b<=1000):(-b<=flV f/\ flV f<=b)/\ flE f=0:=by
 refine ⟨flV_btw h (by omega) (by omega),?_⟩;have hz:=floor_sg f.neg f.num f.den h.den;have h1: -b<=sg f.neg f.num/(f.den:Int):=Int.le_ediv_of_mul_le (by have:=h.den;omega) h.lo;have h2:sg f.neg f.num/(f.den:Int)<=b:=Int.ediv_le_of_le_mul (by have:=h.den;omega) h.hi;rw [<- hz] at h1 h2;have h3:=natAbs_sg f.neg (rnd f.num f.den f.neg);unfold flE intE;rw [if_pos (by omega)]
theorem wsO_len(p:List (_root_.Fin 4294967296)):(wsO p).1.length<=p.length:=by
 unfold wsO;split
 · have:∀(p:List (_root_.Fin 4294967296)) s,(wsG s p).length=p.length:=fun p=>by
    induction p with
    |nil=>exact fun _=>rfl
    |cons a p ih=>exact fun s=>congrArg Nat.succ (ih a)
   exact Nat.le_of_eq (this p 0)
 · exact Nat.zero_le _
theorem ms_dr{l:List Rs}(hd:∀r∈l,drR r):(msF l).length<=l.length/\ ∀m∈msF l,m.2.length<=4/\ 0<=m.1.bk - m.1.tm/\ m.1.bk - m.1.tm<=40:=by
 constructor
 · unfold msF;rw [List.length_map];have h1:=List.length_filter_le (mesB l) (sd cmpR (l.filter okR));have h2:=sd_len cmpR (l.filter okR);have h3:=List.length_filter_le okR l;omega
 · intro m hm;have ht:=(me_time l m hm).2;obtain ⟨r,hr,rfl⟩:=List.mem_map.1 hm;have h1:=(List.mem_filter.1 hr).1;have h2:=hd r (List.mem_filter.1 (((Yt ordR _).2 r).1 h1)).1;obtain ⟨_,h3,h4⟩:=h2;have h5:=wsO_len ((paF l r).take r.tt.toNat);rw [List.length_take] at h5;refine ⟨?_,ht.1,h4⟩;show (wsO ((paF l r).take r.tt.toNat)).1.length<=4;omega
section
variable {vs : List Wr} {mo qu : Int} {ms : List Me}
theorem cf_small(ws:List Wr){f:Int}(hf:f=1 \/f= -1)(hw:ws.length<=4)(i:Nat):((cfW vs ws f).getD i 0).natAbs<=4:=by
 rcases Nat.lt_or_ge i (cfW vs ws f).length with h|h
 · obtain ⟨v,_,e⟩:=List.mem_map.1 (show (cfW vs ws f).getD i 0∈cfW vs ws f from XX (z:=(0:Int)) h);have hc:ws.count v<=4:=Nat.le_trans List.count_le_length hw;rw [<- e];generalize ws.count v=k at hc;rcases hf with rfl|rfl <;>omega
 · rw [getD_ge h];decide
theorem rowsD_small(hm:∀m∈ms,m.2.length<=4/\ 0<=m.1.bk - m.1.tm/\ m.1.bk - m.1.tm<=40)(h1:0<=mo/\ mo<=1000)(h2:0<=qu/\ qu<=1000):∀r∈rowsD vs mo qu ms,(∀i,(r.cs.getD i 0).natAbs<=4)/\ r.b.natAbs<=65536:=fun r hr=>by
 unfold rowsD at hr
 rcases List.mem_append.1 hr with h|h
 · obtain ⟨v,_,rfl⟩:=List.mem_map.1 h
   exact ⟨cf_small [v] (.inl rfl) (by show 1<=4;decide),by dsimp only;omega⟩
 · obtain ⟨m,hmm,h⟩:=List.mem_flatMap.1 h
   obtain ⟨h3,h4,h5⟩:=hm m hmm
   rcases List.mem_cons.1 h with rfl|h
   · exact ⟨cf_small _ (.inl rfl) h3,by dsimp only;omega⟩
   · rw [List.mem_singleton.1 h]
     exact ⟨cf_small _ (.inr rfl) h3,by dsimp only;omega⟩
end
end Go.Proofs.YtfimckpnnbibcaaGreat
namespace Go.Proofs.YtfimckpnnbibcaaGreat
open Go.Own Go.Limbs Go.Det Go.Proofs.Tryz
section
variable {X : Ctx} {L : AL} {B : BL} {ops : Array Oper} {K : Act → World → Prop} {r : Pl}
  {x y : Operand} {t t' : TypeId} {pos : String} {af : Array Edge} {g : Option (Nat × Bool)}
theorem stFrX{i j el:Nat}{v:Value}{l:List (Option Rat)}{q:Rat}(hg:gd ops L g=some true)(hx:ev L x=some (.loc i (j*3)))(hi:bget B i=some (.rowx v el 3 (frR l)))(hy:ev L y=some (.ct (ratC q)))(hj:j<l.length)(hsz:(X.P.info? t).map (·.size)=some 3)
  (h:Ops X ops r L (bset B i (.rowx v el 3 (frR (l.set j (some q))))) K):Ops X ops (.cons ⟨none, .store t x y,t',pos,af,g⟩ .any r) L B K:=
 Ops.stNA hg hx hi hy rfl hsz (by show j*3+3<=(frR l).length;rw [Xn];omega) (by
  have:(Ent.rowx v el 3 (frR l)).putc (j*3) (frCs (ofQ q))= .rowx v el 3 (frR (l.set j (some q))):=by rw [<- frR_put q hj];rfl
  rw [this];exact h)
end
attribute [local irreducible] St Ops Go.Own.Fin Ok OkM OkF
theorem sol34_goal(n:Nat)(rs:List Rw)(c:List Int)(bs bf:List Nat)(s:Int)(gC:CT)(hg1:gC.one=true)(hL:LpOk n rs c)(hm6:Tgt n rs c)(H:Half2 n rs c bs bf s)(ar ab:Option Addr)(lr cr lb cb:Nat)(S:BSet)(w:World):
  St {P:=prog,n:=261,S0:=S,w0:=w,bor:=noBor} [(0, .ct (intC n)),(2, .ct (intsC c)),(6, .own 0),(8, .own 1),(9, .ct (intC ((n:Int)+rs.length+1)))]
   ((1, .box 144 [intC n,intC rs.length, .ex (.slice ar lr cr),gC, .ex (.slice ab lb cb)])::(0, .box 75 outZ)::tEnt (.slice ar lr cr) (tst n rs c rs.length bs).rows (.slice ab lb cb) (tst n rs c rs.length bs).bas)
   (seqR (seqR (seqR (seqR (seqR (seqR (seqR (bodyOf Tryz.f31))))))))
   (bodyPost prog Tryz.f31 (okPost {P:=prog,n:=261,S0:=S,w0:=w,bor:=noBor} (.tup [ocC (oc2 n rs c bf s),intC 0]))):=by
 have hn:=hL.nn;have hmm64:=hL.mm
 have e1:((n:Int)+rs.length+1+1)=((n+rs.length+2:Nat):Int):=by omega
 obtain ⟨Tp,hP⟩:=H.ph
 refine St.den (Qj 1 J ?_)
 refine X4 (α:=Nat × Nat) (fun x=>n+rs.length+2<=x.2/\ x.2<=maxLen) (fun _=>[(0, .ct (intC n)),(2, .ct (intsC c)),(6, .own 0),(8, .own 1),(9, .ct (intC ((n:Int)+rs.length+1)))])
  (fun x=>(2, .rowx (.slice (some ⟨x.1,0,none⟩) (n+rs.length+2) x.2) 54 3 (frR ((cfR (c.map fun x=> -x) (n+rs.length+2) 0).map some)))::(1, .box 144 [intC n,intC rs.length, .ex (.slice ar lr cr), .ex (.slice (some ⟨x.1,0,none⟩) (n+rs.length+2) x.2), .ex (.slice ab lb cb)])::(0, .box 75 outZ)::tEnt (.slice ar lr cr) (tst n rs c rs.length bs).rows (.slice ab lb cb) (tst n rs c rs.length bs).bas) (fun x hx=> ?_) (fun KK hN=> ?_)
 rotate_left
 · refine Xz 3 J (by omega) ?_;rw [e1]
   refine Z7 2 (gT J) (zeros34_F (n+rs.length+2) (by omega)) J J J J J J ?_
   rw [show List.replicate (n+rs.length+2) (some (0:Rat))=(cfR (c.map fun x=> -x) (n+rs.length+2) 0).map some by rw [cfR_zero,List.map_replicate]];refine Qe 140 2 (n+rs.length+2) J J (by rw [Xn,List.length_map,cfR_len]) (by omega) (by decide) (fun gb cp c1 c2=> ?_);refine Qq 3 J ?_;exact Q7 hN (gb,cp) ⟨c1,c2⟩ (by exact Qx J)
 obtain ⟨gb,cp⟩:=x;dsimp only at hx ⊢
 refine Qj 1 J ?_
 refine X4 (α:=Unit) (fun _=>True) (fun _=>[(0, .ct (intC n)),(6, .own 0),(8, .own 1),(9, .ct (intC ((n:Int)+rs.length+1)))])
  (fun _=>(1, .box 144 (taCs n rs.length (.slice ar lr cr) (goalK n rs c bs 0) (.slice ab lb cb)))::(0, .box 75 outZ)::tEnt (.slice ar lr cr) (tst n rs c rs.length bs).rows (.slice ab lb cb) (tst n rs c rs.length bs).bas) (fun _ _=> ?_) (fun KK hN=> ?_)
 rotate_left
 · refine Qj 6 J ?_
   refine QY (α:=Nat) (fun i=>i<=c.length)
    (fun i=>[(0, .ct (intC n)),(2, .ct (intsC c)),(6, .own 0),(8, .own 1),(9, .ct (intC ((n:Int)+rs.length+1))),(14, .ct (intC i))])
    (fun i=>(2, .rowx (.slice (some ⟨gb,0,none⟩) (n+rs.length+2) cp) 54 3 (frR ((cfR (c.map fun x=> -x) (n+rs.length+2) i).map some)))::(1, .box 144 [intC n,intC rs.length, .ex (.slice ar lr cr), .ex (.slice (some ⟨gb,0,none⟩) (n+rs.length+2) cp), .ex (.slice ab lb cb)])::(0, .box 75 outZ)::tEnt (.slice ar lr cr) (tst n rs c rs.length bs).rows (.slice ab lb cb) (tst n rs c rs.length bs).bas) (fun i=>c.length - i) 0 (Nat.zero_le _) (by exact Qx J) ?_
   intro i hi
   (try dsimp only at hi ⊢)
   have hcl:=hL.cl;refine Qj 5 J (QV sInts.und J (Qq 3 J ?_));refine Qy J (fun hlt=> ?_) (fun hlt=> ?_)
   · have e2:(i:Int).toNat=i:=Int.toNat_natCast i;have hcb:=hL.cb i;have hW:Ok prog 63 [intC (-(c.getD i 0))] (ratC ((-(c.getD i 0):Int):Rat)):=Whole_ok (-(c.getD i 0)) (by omega) (by omega);refine Qj 4 J (XY 10 0x806a09480726210504030200 J ?_);refine Qq 4 J (Q8 0 sInts J (by omega) ?_);refine Qq 2 J ?_;rw [e2];refine QZ 1 J (by omega) ?_;refine Qv (gT J) hW J (Q5 2 (n+rs.length+2) J J J (by rw [Xn,List.length_map,cfR_len]) J sFracs (by omega) (by omega) J ?_);rw [e2];refine stFrX J J J J (by rw [List.length_map,cfR_len];omega) Zs ?_
     rw [show ((cfR (c.map fun x=> -x) (n+rs.length+2) i).map some).set i (some ((-(c.getD i 0):Int):Rat))=(cfR (c.map fun x=> -x) (n+rs.length+2) (i+1)).map some by rw [<- cfR_set _ (by omega),List.map_set,neg_getD]];refine QZ 8 J (by omega) ?_;refine Qk (i+1) (by omega) (by omega) (by exact Qx J)
   · have hi' :i=c.length:=by omega
     subst hi';rw [<- goal_zero hL (bs:=bs)]
     refine St.frzX 2 1 3 _ J J J (frR_rats _ _) (fun _ h=>h.elim) ?_;refine Qj 1 J ?_;exact Q7 hN () trivial (by exact Qx J)
 refine Qj 1 J ?_
 refine X4 (α:=Unit) (fun _=>True) (fun _=>[(0, .ct (intC n)),(6, .own 0),(8, .own 1),(9, .ct (intC ((n:Int)+rs.length+1)))])
  (fun _=>(1, .box 144 (taCs n rs.length (.slice ar lr cr) (tst n rs c rs.length bs).goal (.slice ab lb cb)))::(0, .box 75 outZ)::tEnt (.slice ar lr cr) (tst n rs c rs.length bs).rows (.slice ab lb cb) (tst n rs c rs.length bs).bas) (fun _ _=>sol34_end n rs c bs bf s hL hm6 H ar ab lr cr lb cb S w) (fun KK hN=> ?_)
 refine Qj 6 J ?_
 refine QY (α:=Nat) (fun i=>i<=rs.length)
  (fun i=>[(0, .ct (intC n)),(6, .own 0),(8, .own 1),(9, .ct (intC ((n:Int)+rs.length+1))),(15, .ct (intC i))])
  (fun i=>(1, .box 144 (taCs n rs.length (.slice ar lr cr) (goalK n rs c bs i) (.slice ab lb cb)))::(0, .box 75 outZ)::tEnt (.slice ar lr cr) (tst n rs c rs.length bs).rows (.slice ab lb cb) (tst n rs c rs.length bs).bas) (fun i=>rs.length - i) 0 (Nat.zero_le _) (by exact Qx J) ?_
 intro i hi
 (try dsimp only at hi ⊢)
 refine Qj 9 J ?_;refine Qy J (fun hlt=> ?_) (fun hlt=> ?_)
 · have k2:(i:Int).toNat*1=i:=by omega
   have hlt:i<rs.length:=by omega
   have hbi:=tst_bas (n:=n) (rs:=rs) (c:=c) (bs:=bs) (g:=rs.length) hlt
   have hTl:(tst n rs c rs.length bs).bas.length=rs.length:=by simp [tst]
   have hRl:(tst n rs c rs.length bs).rows.length=rs.length:=Yz _;have hv:=hP.vc (by omega) hlt;have hgl:=Jk (n:=n) (rs:=rs) (c:=c) (bs:=bs) i;have hown:=hP.goal_own (by omega) hlt;have e5:((bs.getD i 0:Nat):Int).toNat=bs.getD i 0:=Int.toNat_natCast _;have hS:=Sign_ok (ofQ ((g0 n rs c (bs.getD i 0):Int):Rat));rw [sgnF_q] at hS;refine Qj 5 J (XY 11 0x800a49280726052321040200 J ?_);refine Qq 5 J (Q5 9 rs.length J J J (by simp [ints,hTl]) J sInts (by omega) (by omega) J ?_);rw [k2];refine QK J J J J (XK (by omega)) lInt J ?_
   rw [hbi]
   refine Q8 0 sFracs J (by omega) ?_;refine Qq 1 J ?_
   rw [e5,hown];refine Qv (gT J) hS J (Qq 3 J ?_);refine Qy J (fun hz=> ?_) (fun hz=> ?_)
   · have hQa:=goalK_Q9 hL hm6 hP.bas.len hP.bas.ne (k:=i) (by omega) (fun j hj=>(hP.vc (by omega) (by omega)).2)
     have hQk:Q9 ((g0 n rs c (bs.getD i 0):Int):Rat):=by
      rw [<- hown];exact hQa _ (XX (z:=(0:Rat)) (by omega))
     have hQb:=rowQ_Q9 (i:=i) hL hm6 hP.bas.len hP.bas.ne (by omega);have hLs:=less34_ok (goalK n rs c bs i) (rowQ n rs c bs i) ((g0 n rs c (bs.getD i 0):Int):Rat) (by rw [YZ,hgl]) (by omega) hQa hQb hQk;rw [<- goal_next] at hLs;have hrow:=Yv (n:=n) (rs:=rs) (c:=c) (bs:=bs) (g:=rs.length) hlt
     refine XY 18 0x807211502f0e2c2a0928072523210d0b06040200 J ?_;refine Qq 9 J (Q5 9 rs.length J J J (by simp [ints,hTl]) J sInts (by omega) (by omega) J ?_);rw [k2];refine QK J J J J (XK (by omega)) lInt J ?_
     rw [hbi]
     refine Q8 0 sFracs J (by omega) ?_;refine Qq 2 J ?_;rw [e5,hown];refine Q5 8 rs.length J J J (by rw [rowsR_len,hRl]) J sRat2 (by omega) (by omega) J ?_
     rw [k2]
     refine QK J J J J (rowsR_at (by omega)) lRat1 J ?_
     rw [hrow];refine Qv (gT J) hLs J (QZ 10 J (by omega) ?_);refine Qk (i+1) (by omega) (by omega) (by exact Qx J)
   · have hz0:g0 n rs c (bs.getD i 0)=0:=by
      have h1:(((g0 n rs c (bs.getD i 0):Int):Rat)).num=g0 n rs c (bs.getD i 0):=rfl;rw [h1] at hz
      have h2:(g0 n rs c (bs.getD i 0)).sign=0:=by omega
      exact Int.sign_eq_zero_iff_zero.1 h2
     rw [<- goal_skip hz0];refine Xz 8 J (by omega) ?_;refine Qk (i+1) (by omega) (by omega) (by exact Qx J)
 · have hi' :i=rs.length:=by omega
   subst hi';rw [hP.goal_all (by omega)];refine Qj 1 J ?_;exact Q7 hN () trivial (by exact Qx J)
end Go.Proofs.YtfimckpnnbibcaaGreat
namespace Go.Own
def seqL : Code → Code
  | .seq a _ => a
  | c => c
def condT : Code → Code
  | .cond _ a _ => a
  | c => c
end Go.Own
namespace Go.Proofs.YtfimckpnnbibcaaGreat
open Go.Own Go.Limbs Go.Det Go.Proofs.Tryz
attribute [local irreducible] St Ops Go.Own.Fin Ok OkM OkF
theorem sol34_drive(n:Nat)(rs:List Rw)(c:List Int)(bs:List Nat)(hL:LpOk n rs c)(hm6:Tgt n rs c){T:Tv}(hD:Dr n rs c 0 T bs)(ar ab:Option Addr)(lr cr lb cb:Nat)(S:BSet)(w:World)(Q:Exit ->Act ->World ->Prop)
  (hQ:∀g:List Rat,Go.Own.Fin {P:=prog,n:=261,S0:=S,w0:=w,bor:=noBor} [(0, .ct (intC n)),(2, .ct (intsC c)),(6, .own 0),(8, .own 1),(9, .ct (intC ((n:Int)+rs.length+1)))]
   ((1, .box 144 (taCs n rs.length (.slice ar lr cr) g (.slice ab lb cb)))::(0, .box 75 outZ)::tEnt (.slice ar lr cr) (tst n rs c rs.length (dv n rs c bs rs.length)).rows (.slice ab lb cb) (tst n rs c rs.length (dv n rs c bs rs.length)).bas) (fun a w=>Q .normal a w)):
  St {P:=prog,n:=261,S0:=S,w0:=w,bor:=noBor} [(0, .ct (intC n)),(2, .ct (intsC c)),(6, .own 0),(8, .own 1),(9, .ct (intC ((n:Int)+rs.length+1)))]
   ((1, .box 144 (taCs n rs.length (.slice ar lr cr) (tst n rs c (rs.length+1) bs).goal (.slice ab lb cb)))::(0, .box 75 outZ)::tEnt (.slice ar lr cr) (tst n rs c (rs.length+1) bs).rows (.slice ab lb cb) (tst n rs c (rs.length+1) bs).bas)
   (seqR (seqR (seqR (seqR (seqR (condT (seqR (seqL (seqR (seqR (seqR (seqR (seqR (seqR (bodyOf Tryz.f31)))))))))))))))
   Q:=by
 have hn:=hL.nn;have hmm64:=hL.mm
 have e1:((n:Int)+rs.length+1 - 1)=((n+rs.length:Nat):Int):=by omega
 have hT0:∀b,(tst n rs c rs.length b).rows=(tst n rs c (rs.length+1) b).rows/\ (tst n rs c rs.length b).bas=(tst n rs c (rs.length+1) b).bas:=fun b=>⟨rfl,rfl⟩
 rw [(hT0 _).1,(hT0 _).2] at hQ;clear hT0;refine St.den (Qj 6 Y ?_)
 refine QY (α:=Nat) (fun i=>i<=rs.length)
  (fun i=>[(0, .ct (intC n)),(2, .ct (intsC c)),(6, .own 0),(8, .own 1),(9, .ct (intC ((n:Int)+rs.length+1))),(12, .ct (intC i))])
  (fun i=>(1, .box 144 (taCs n rs.length (.slice ar lr cr) (tst n rs c (rs.length+1) (dv n rs c bs i)).goal (.slice ab lb cb)))::(0, .box 75 outZ)::tEnt (.slice ar lr cr) (tst n rs c (rs.length+1) (dv n rs c bs i)).rows (.slice ab lb cb) (tst n rs c (rs.length+1) (dv n rs c bs i)).bas) (fun i=>rs.length - i) 0 (Nat.zero_le _) (by exact Qx Y) ?_
 intro i hi
 (try dsimp only at hi ⊢)
 refine Qj 9 Y ?_;refine Qy Y (fun hlt=> ?_) (fun hlt=> ?_)
 · have k2:(i:Int).toNat*1=i:=by omega
   have hlt:i<rs.length:=by omega
   obtain ⟨T',hDi⟩:=hD.all hL i (by omega)
   have hdv:dv n rs c bs (i+1)=if (dv n rs c bs i).getD i 0=n+rs.length then (dv n rs c bs i).set i (dvJ n rs c (dv n rs c bs i) i) else dv n rs c bs i:=rfl
   generalize dv n rs c bs i=b at*;obtain ⟨b',hb'⟩:∃b',dv n rs c bs (i+1)=b' :=⟨_,rfl⟩;rw [hb'] at hdv;have hbl:=hDi.ph.bas.len;have hbi:=tst_bas (n:=n) (rs:=rs) (c:=c) (bs:=b) (g:=rs.length+1) hlt
   have hTl:(tst n rs c (rs.length+1) b).bas.length=rs.length:=by simp [tst]
   have hRl:(tst n rs c (rs.length+1) b).rows.length=rs.length:=Yz _;refine Qj 10 Y (Q5 9 rs.length Y Y Y (by simp [ints,hTl]) Y sInts (by omega) (by omega) Y ?_);rw [k2]
   refine QK Y Y Y Y (XK (by omega)) lInt Y ?_
   rw [hbi];refine QZ 5 Y (by omega) ?_;rw [e1];refine Qy Y (fun hz=> ?_) (fun hz=> ?_)
   · rw [if_neg (by omega)] at hdv;subst hdv;refine Xz 8 Y (by omega) ?_;refine Qk (i+1) (by omega) (by omega) (by refine QW ?_ ⟨rfl,rfl,rfl,rfl,rfl,by simp only [Int.natCast_add];rfl,trivial⟩;rw [hb'])
   · have hz:b.getD i 0=n+rs.length:=by omega
     rw [if_pos hz] at hdv;obtain ⟨hJ,hJn,_⟩:=hDi.next hL hlt hz
     have hJl:∀j,j<dvJ n rs c b i ->rq (colA n rs c) b i (colA n rs c j)=0:=fun j hj=>dvJ_least hj
     have hPv:=tst_piv hL hm6 hDi.ph.bas (g:=rs.length+1) (by omega) (by omega) hlt (by omega) hJn;have hbs:=tst_bas_set (n:=n) (rs:=rs) (c:=c) (bs:=b) (g:=rs.length+1) (r:=i) (s:=dvJ n rs c b i) hbl hlt;rw [<- hdv] at hPv hbs;generalize dvJ n rs c b i=J at*;have hP:=pivot34_ok n rs.length (n+rs.length+2) _ _ _ _ (tst n rs c (rs.length+1) b).bas i J hPv (by rw [hTl,hRl]) ar ab lr cr lb cb;rw [<- hbs] at hP;have hrow:=Yv (n:=n) (rs:=rs) (c:=c) (bs:=b) (g:=rs.length+1) hlt;refine Qj 8 Y ?_
     refine QY (α:=Nat) (fun j=>j<=J)
      (fun j=>[(0, .ct (intC n)),(2, .ct (intsC c)),(6, .own 0),(8, .own 1),(9, .ct (intC ((n:Int)+rs.length+1))),(12, .ct (intC i)),(13, .ct (intC j))])
      (fun _=>(1, .box 144 (taCs n rs.length (.slice ar lr cr) (tst n rs c (rs.length+1) b).goal (.slice ab lb cb)))::(0, .box 75 outZ)::tEnt (.slice ar lr cr) (tst n rs c (rs.length+1) b).rows (.slice ab lb cb) (tst n rs c (rs.length+1) b).bas) (fun j=>J - j) 0 (Nat.zero_le _) (by exact Qx Y) ?_
     intro j hj
     (try dsimp only at hj ⊢)
     refine Xz 9 Y (by omega) ?_;rw [e1];refine Qy Y (fun hlt2=> ?_) (fun hlt2=> ?_)
     · have hrl:=YZ (n:=n) (rs:=rs) (c:=c) (bs:=b) i;have e5:(j:Int).toNat=j:=Int.toNat_natCast j
       have hat:(rowQ n rs c b i).getD j 0=rq (colA n rs c) b i (colA n rs c j):=by
        rw [Z8 (by omega),vcA_lo (by omega)]
       have hS:=Sign_ok (ofQ (rq (colA n rs c) b i (colA n rs c j)));rw [sgnF_q] at hS;refine Qj 9 Y (Q5 8 rs.length Y Y Y (by rw [rowsR_len,hRl]) Y sRat2 (by omega) (by omega) Y ?_);rw [k2]
       refine QK Y Y Y Y (rowsR_at (by omega)) lRat1 Y ?_
       rw [hrow];refine Qq 1 Y (Q8 0 sFracs Y (by omega) ?_);refine Qq 1 Y ?_
       rw [e5,hat];refine Qv (gT Y) hS Y (Qq 3 Y ?_);refine Qy Y (fun hz2=> ?_) (fun hz2=> ?_)
       · have hjJ:j=J:=by
          rcases Nat.lt_or_ge j J with h|h
          · rw [hJl j h] at hz2;exact absurd Y hz2
          · omega
         subst hjJ;refine Qj 5 Y (YV [(1,_),(0,_)] (gT Y) hP Y Y Y (fun _ h=>h.elim) Y Y Y (fun _ _=> ?_));refine QZ 11 Y (by omega) ?_;refine Qk (i+1) (by omega) (by omega) (by refine QW ?_ ⟨rfl,rfl,rfl,rfl,rfl,by simp only [Int.natCast_add];rfl,trivial⟩;rw [hb'];rfl)
       · have hjJ:j≠J:=fun e=>by
          subst e
          have h2:(rq (colA n rs c) b i (colA n rs c j)).num≠0:=fun e=>hJn (Rat.num_eq_zero.1 e)
          exact h2 (Int.sign_eq_zero_iff_zero.1 (by omega))
         refine Xz 8 Y (by omega) ?_;refine Qk (j+1) (by omega) (by omega) (by exact Qx Y)
     · exact absurd hlt2 (by omega)
 · have hi' :i=rs.length:=by omega
   subst hi';refine Qj 1 J ?_;exact Yo [(0, .ct (intC n)),(2, .ct (intsC c)),(6, .own 0),(8, .own 1),(9, .ct (intC ((n:Int)+rs.length+1)))] ⟨rfl,rfl,rfl,rfl,rfl,trivial⟩ (hQ _)
end Go.Proofs.YtfimckpnnbibcaaGreat
namespace Go.Proofs.YtfimckpnnbibcaaGreat
open Go.Det Go.Limbs Go.Own Go.Proofs.Tryz
attribute [local irreducible] Go.Own.Fin Ok OkF OkM Ops St
theorem sol34_mid(n:Nat)(rs:List Rw)(c:List Int)(O:Oc)(hL:LpOk n rs c)(hm6:Tgt n rs c)(H:RefRun n rs c O)(ar ab:Option Addr)(lr cr lb cb:Nat)(S:BSet)(w:World):
  St {P:=prog,n:=261,S0:=S,w0:=w,bor:=noBor} [(0, .ct (intC n)),(2, .ct (intsC c)),(6, .own 0),(8, .own 1),(9, .ct (intC ((n:Int)+rs.length+1))),(10, .ct (intC (wrR rs rs.length)))]
   ((1, .box 144 [intC n,intC rs.length, .ex (.slice ar lr cr), .ex (.slice none 0 0), .ex (.slice ab lb cb)])::(0, .box 75 outZ)::tEnt (.slice ar lr cr) (stRows n rs) (.slice ab lb cb) (rng n rs.length))
   (seqR (seqR (seqR (seqR (seqR (seqR (bodyOf Tryz.f31)))))))
   (bodyPost prog Tryz.f31 (okPost {P:=prog,n:=261,S0:=S,w0:=w,bor:=noBor} (.tup [ocC O,intC 0]))):=by
 have hn:=hL.nn;have hmm64:=hL.mm
 have e0:∀g,stRows n rs=(tst n rs c g (bs0 n rs.length)).rows/\ rng n rs.length=(tst n rs c g (bs0 n rs.length)).bas:=fun g=>⟨(tst_bs0_rows hL g).symm,(tst_bs0_bas g).symm⟩
 have bd:=wrR_bd rs rs.length;refine St.den (Qj 7 J ?_);refine Qy J (fun hw=> ?_) (fun hw=> ?_)
 · have e1:((n:Int)+rs.length+1+1)=((n+rs.length+2:Nat):Int):=by omega
   have e2:((n:Int)+rs.length+1 - 1)=((n+rs.length:Nat):Int):=by omega
   have e3:((n:Int)+rs.length+1)=((n+rs.length+1:Nat):Int):=by omega
   obtain ⟨W,hW⟩:∃W:Nat,wrR rs rs.length=W:=⟨(wrR rs rs.length).toNat,by omega⟩
   have hH:∃bs,Half1 n rs c bs/\ (((rq (colA n rs c) bs (rs.length+1) (rhsQ rs)).num<0/\ O=oc3 n rs c bs) \/(¬(rq (colA n rs c) bs (rs.length+1) (rhsQ rs)).num<0/\ ∃bf s T,O=oc2 n rs c bf s/\ Dr n rs c 0 T bs/\ Half2 n rs c (dv n rs c bs rs.length) bf s)):=by
    cases H with
    |keep bf s h0 h=>omega
    |none bs h0 h hv=>exact ⟨bs,h, .inl ⟨hv,rfl⟩⟩
    |some bs bf s h0 h hv T hd h2=>exact ⟨bs,h, .inr ⟨hv,bf,s,T,rfl,hd,h2⟩⟩
   obtain ⟨bs,H1,hO⟩:=hH;clear H;rw [(e0 (rs.length+1)).1,(e0 (rs.length+1)).2,hW]
   have hWl:W<rs.length:=by omega
   have hpv:=H1.piv;obtain ⟨k,s0,hrun⟩:=H1.run;obtain ⟨TE,hPE⟩:=H1.ph;rw [hW,Int.toNat_natCast] at hpv hrun;have hg0:(tst n rs c (rs.length+1) (bs0 n rs.length)).goal=(List.replicate (n+rs.length+2) (0:Rat)).set (n+rs.length) 1:=rowQ_bs0_w
   have hbl:(tst n rs c (rs.length+1) (bs0 n rs.length)).bas.length=(tst n rs c (rs.length+1) (bs0 n rs.length)).rows.length:=by simp [tst]
   have hP:=pivot34_ok n rs.length (n+rs.length+2) _ _ _ _ (tst n rs c (rs.length+1) (bs0 n rs.length)).bas W (n+rs.length) hpv hbl ar ab lr cr lb cb;have hbs0l:=(bs0_bas (n:=n) (rs:=rs) (c:=c)).1.len;rw [<- tst_bas_set hbs0l hWl] at hP;have hI:=improve34_ok n rs.length (n+rs.length+2) (n+rs.length+1) _ _ s0 k hrun J (by omega) ar ab lr cr lb cb;have hTE:Tok (n+rs.length+2) (tst n rs c (rs.length+1) bs):=tst_tok hL hm6 hPE.bas.len hPE.bas.ne (by omega);have hgl:=hTE.g;have hDu:=duals34_ok n rs.length (n+rs.length+2) _ hTE (by omega) ar ab lr cr lb cb
   have hgv:(tst n rs c (rs.length+1) bs).goal.getD (n+rs.length+1) 0=rq (colA n rs c) bs (rs.length+1) (rhsQ rs):=by
    show (rowQ n rs c bs (rs.length+1)).getD _ 0=_;rw [Z8 (by omega),vcA_hi]
   have hS:=Sign_ok (ofQ (rq (colA n rs c) bs (rs.length+1) (rhsQ rs)));rw [sgnF_q] at hS;have hW1:Ok prog 63 [intC 1] (ratC 1):=Whole_ok 1 (by decide) (by decide);clear hpv hrun hTE
   refine Qj 1 J ?_
   refine X4 (α:=Nat × Nat) (fun x=>n+rs.length+2<=x.2/\ x.2<=maxLen) (fun _=>[(0, .ct (intC n)),(2, .ct (intsC c)),(6, .own 0),(8, .own 1),(9, .ct (intC ((n:Int)+rs.length+1))),(10, .ct (intC W))])
    (fun x=>(2, .rowx (.slice (some ⟨x.1,0,none⟩) (n+rs.length+2) x.2) 54 3 (frR ((List.replicate (n+rs.length+2) (0:Rat)).map some)))::(1, .box 144 [intC n,intC rs.length, .ex (.slice ar lr cr), .ex (.slice (some ⟨x.1,0,none⟩) (n+rs.length+2) x.2), .ex (.slice ab lb cb)])::(0, .box 75 outZ)::tEnt (.slice ar lr cr) (tst n rs c (rs.length+1) (bs0 n rs.length)).rows (.slice ab lb cb) (tst n rs c (rs.length+1) (bs0 n rs.length)).bas) (fun x hx=> ?_) (fun KK hN=> ?_)
   rotate_left
   · refine Xz 3 J (by omega) ?_;rw [e1]
     refine Z7 2 (gT J) (zeros34_F (n+rs.length+2) (by omega)) J J J J J J ?_
     rw [show List.replicate (n+rs.length+2) (some (0:Rat))=(List.replicate (n+rs.length+2) (0:Rat)).map some by rw [List.map_replicate]];refine Qe 75 2 (n+rs.length+2) J J (by rw [Xn,List.length_map,List.length_replicate]) (by omega) (by decide) (fun gb cp c1 c2=> ?_);refine Qq 3 J ?_;exact Q7 hN (gb,cp) ⟨c1,c2⟩ (by exact Qx J)
   obtain ⟨gb,cp⟩:=x;dsimp only at hx ⊢
   refine Qj 1 J ?_
   refine X4 (α:=Unit) (fun _=>True) (fun _=>[(0, .ct (intC n)),(2, .ct (intsC c)),(6, .own 0),(8, .own 1),(9, .ct (intC ((n:Int)+rs.length+1))),(10, .ct (intC W))])
    (fun x=>(2, .rowx (.slice (some ⟨gb,0,none⟩) (n+rs.length+2) cp) 54 3 (frR ((tst n rs c (rs.length+1) (bs0 n rs.length)).goal.map some)))::(1, .box 144 [intC n,intC rs.length, .ex (.slice ar lr cr), .ex (.slice (some ⟨gb,0,none⟩) (n+rs.length+2) cp), .ex (.slice ab lb cb)])::(0, .box 75 outZ)::tEnt (.slice ar lr cr) (tst n rs c (rs.length+1) (bs0 n rs.length)).rows (.slice ab lb cb) (tst n rs c (rs.length+1) (bs0 n rs.length)).bas) (fun _ _=> ?_) (fun KK hN=> ?_)
   rotate_left
   · skip
     refine XY 6 0x8066054421030200 J ?_;refine QZ 4 J (by omega) ?_
     rw [e2];refine Qv (gT J) hW1 J (Q5 2 (n+rs.length+2) J J J (by rw [Xn,List.length_map,List.length_replicate]) J sFracs (by omega) (by omega) J ?_);rw [Int.toNat_natCast]
     refine stFrX J J J J (by rw [List.length_map,List.length_replicate];omega) Zs ?_
     rw [show ((List.replicate (n+rs.length+2) (0:Rat)).map some).set (n+rs.length) (some (1:Rat))=(tst n rs c (rs.length+1) (bs0 n rs.length)).goal.map some by rw [hg0,List.map_set]]
     refine Qz ?_
     exact Q7 hN () trivial (by exact Qx J)
   refine St.frzX 2 1 3 _ J J J (frR_rats _ _) (fun _ h=>h.elim) ?_;refine Qj 1 J ?_
   refine X4 (α:=Unit) (fun _=>True) (fun _=>[(0, .ct (intC n)),(2, .ct (intsC c)),(6, .own 0),(8, .own 1),(9, .ct (intC ((n:Int)+rs.length+1)))])
    (fun x=>(1, .box 144 (taCs n rs.length (.slice ar lr cr) (tst n rs c (rs.length+1) ((bs0 n rs.length).set W (n+rs.length))).goal (.slice ab lb cb)))::(0, .box 75 outZ)::tEnt (.slice ar lr cr) (tst n rs c (rs.length+1) ((bs0 n rs.length).set W (n+rs.length))).rows (.slice ab lb cb) (tst n rs c (rs.length+1) ((bs0 n rs.length).set W (n+rs.length))).bas) (fun _ _=> ?_) (fun KK hN=> ?_)
   rotate_left
   · refine Xz 5 J (by omega) ?_;rw [e2];refine YV [(1,_),(0,_)] (gT J) hP J J J (fun _ h=>h.elim) J J J (fun _ _=> ?_);refine Qq 2 J ?_;exact Q7 hN () trivial (by exact Qx J)
   refine Qj 1 J ?_
   refine X4 (α:=Unit) (fun _=>True) (fun _=>[(0, .ct (intC n)),(2, .ct (intsC c)),(6, .own 0),(8, .own 1),(9, .ct (intC ((n:Int)+rs.length+1)))])
    (fun x=>(1, .box 144 (taCs n rs.length (.slice ar lr cr) (tst n rs c (rs.length+1) bs).goal (.slice ab lb cb)))::(0, .box 75 outZ)::tEnt (.slice ar lr cr) (tst n rs c (rs.length+1) bs).rows (.slice ab lb cb) (tst n rs c (rs.length+1) bs).bas) (fun _ _=> ?_) (fun KK hN=> ?_)
   rotate_left
   · refine Qj 3 J ?_;rw [e3];refine YV [(1,_),(0,_)] (gT J) hI J J J (fun _ h=>h.elim) J J J (fun _ _=> ?_);refine Qq 5 J ?_;exact Q7 hN () trivial (by exact Qx J)
   clear hP hI hg0 hbl;refine Qj 6 J (Q8 0 sFracs J (by omega) ?_);refine Qq 1 J ?_
   rw [e3,Int.toNat_natCast,hgv];refine Qv (gT J) hS J (Qq 3 J ?_);refine Qy J (fun hz=> ?_) (fun hz=> ?_)
   · have hz2:(rq (colA n rs c) bs (rs.length+1) (rhsQ rs)).num<0:=Classical.byContradiction fun h=>by
      rcases Int.lt_or_eq_of_le (Int.not_lt.1 h) with h1|h1
      · rw [Int.sign_eq_one_of_pos h1] at hz;omega
      · rw [<- h1] at hz;exact absurd hz (by decide)
     rcases hO with ⟨_,hO⟩|⟨h,_⟩
     · refine Qj 3 J (Qv (gT J) hDu J ?_);rw [JX];refine Qq 6 J ?_
       have hw:argW [.ex (.int .i64 3), .ex (.bool false), .ex (.slice none 0 0), .ex (.slice none 0 0), .ex (.slice none 0 0), .ex (.slice none 0 0),fracsC (((List.range rs.length).map fun i=>(tst n rs c (rs.length+1) bs).goal.getD (n+i) 0).map ofQ)] (ocCs O):=by
        rw [hO];exact ⟨Zx,Zx,w_nat0,w_nat0,Zp,Zp,Zx,trivial⟩
       refine X5 [_,_] rfl (Xv (w_agg hw) (Qi J J lOut J (Q4 J Q3))) J J
     · exact absurd hz2 h
   · rcases hO with ⟨h,_⟩|⟨_,bf,s,T,hO,hd,h2⟩
     · exfalso;have:=Int.sign_eq_neg_one_iff_neg.2 h;omega
     · subst hO;refine Qj 2 J (St.keep [(0, .ct (intC n)),(2, .ct (intsC c)),(6, .own 0),(8, .own 1),(9, .ct (intC ((n:Int)+rs.length+1)))] ⟨rfl,rfl,rfl,rfl,rfl,trivial⟩ ?_);exact sol34_drive n rs c bs hL hm6 hd ar ab lr cr lb cb S w _ (fun g=>Qt (sol34_goal n rs c _ bf s _ J hL hm6 h2 ar ab lr cr lb cb S w))
 · cases H with
   |keep bf s h0 h=>
    rw [(e0 rs.length).1,(e0 rs.length).2];refine Qj 2 J (St.keep [(0, .ct (intC n)),(2, .ct (intsC c)),(6, .own 0),(8, .own 1),(9, .ct (intC ((n:Int)+rs.length+1)))] ⟨rfl,rfl,rfl,rfl,rfl,trivial⟩ ?_);exact sol34_goal n rs c _ bf s (.ex (.slice none 0 0)) J hL hm6 h ar ab lr cr lb cb S w
   |none bs h0 h hv=>omega
   |some bs bf s h0 h hv T hd h2=>omega
theorem rSolve_ok(n:Nat)(rs:List Rw)(c:List Int)(O:Oc)(hL:LpOk n rs c)(hm6:Tgt n rs c)(hv:validR n rs=true)(hc:okCoeffs n c=true)(H:RefRun n rs c O):Ok prog 31 [intC n,rowsC rs,intsC c] (.tup [ocC O,intC 0]):=by
 have hn:=hL.nn;have hmm64:=hL.mm;have hV:=rLValid_ok n rs (by omega) (fun r hr=>by have:=hL.rl r hr;omega);have hC:=rValidGoal_ok n c (by have:=hL.cl;omega);rw [hv] at hV;rw [hc] at hC;have hSt:=start34_ok n rs (by omega) (by omega) (lp_rw hL).1
 refine Ok.enter func31 J _ ntmps31 J ?_
 intro S w;refine Qj 11 J (Qv (gT J) hV J (Qq 4 J (Qv (gT J) hC J (Qq 11 J (Ops.callM [(0,_)] (fun j=>Nat.blt j 8) (gT J) hSt J J J (fun _ h=>h.elim) (fun _=>rfl) (fun j hj=> ?_) (fun j hj=> .inr fun q=>te_none (Nat.le_of_ble_eq_true hj)) (fun p hp=>absurd hp (by simp)) (fun q j hq=> ?_) (fun q hq=> ?_))))))
 · have hj0:j=0:=by
    by_cases h0:0=j
    · exact h0.symm
    · rw [QX _ _ h0] at hj;cases hj
   subst hj0;exact ⟨rfl,fun q=>te_none (by decide)⟩
 · rcases hq with hq|⟨o,hq⟩ <;>cases hq
 have key:∀v,IsH rs.length v ->∃(a:Option Addr) (l c:Nat),v= .slice a l c:=fun v hv=>by
  rcases hv with ⟨_,rfl⟩|⟨_,gb,c,_,_,rfl⟩
  · exact ⟨_,_,_,rfl⟩
  · exact ⟨_,_,_,rfl⟩
 obtain ⟨hR,hB⟩:=q;obtain ⟨hq1,hq2⟩:=hq;obtain ⟨ar,lr,cr,rfl⟩:=key hR hq1;obtain ⟨ab,lb,cb,rfl⟩:=key hB hq2;clear hq1 hq2 key hSt hV hC
 refine Ops.reB (B' :=[(0, .box 75 outZ)]++tEnt _ _ _ _) (fun j=>te_swap J _ _ _ _ j) ?_;refine Qq 5 J (X4 (α:=Unit) (fun _=>True) (fun _=>[(0, .ct (intC n)),(1, .ct (rowsC rs)),(2, .ct (intsC c)),(6, .own 0),(8, .own 1),(9, .ct (intC ((n:Int)+rs.length+1)))]) (fun _=>(1, .box 144 [intC n,intC rs.length, .ex (.slice ar lr cr), .ex (.slice none 0 0), .ex (.slice ab lb cb)])::(0, .box 75 outZ)::tEnt (.slice ar lr cr) (stRows n rs) (.slice ab lb cb) (rng n rs.length)) (fun _ _=> ?_) (fun KK hN=> ?_));rotate_left
 · refine Xz 9 J (by omega) ?_;exact Q7 hN () trivial (by exact Qx J)
 refine Qj 1 J (X4 (α:=Unit) (fun _=>True) (fun _=>[(0, .ct (intC n)),(1, .ct (rowsC rs)),(2, .ct (intsC c)),(6, .own 0),(8, .own 1),(9, .ct (intC ((n:Int)+rs.length+1))),(10, .ct (intC (-1)))]) (fun _=>(1, .box 144 [intC n,intC rs.length, .ex (.slice ar lr cr), .ex (.slice none 0 0), .ex (.slice ab lb cb)])::(0, .box 75 outZ)::tEnt (.slice ar lr cr) (stRows n rs) (.slice ab lb cb) (rng n rs.length)) (fun _ _=> ?_) (fun KK hN=> ?_));rotate_left
 · refine Qj 3 J ?_;exact Q7 hN () trivial (by exact Qx J)
 refine Qj 1 J ?_
 refine X4 (α:=Unit) (fun _=>True) (fun _=>[(0, .ct (intC n)),(2, .ct (intsC c)),(6, .own 0),(8, .own 1),(9, .ct (intC ((n:Int)+rs.length+1))),(10, .ct (intC (wrR rs rs.length)))])
   (fun _=>(1, .box 144 [intC n,intC rs.length, .ex (.slice ar lr cr), .ex (.slice none 0 0), .ex (.slice ab lb cb)])::(0, .box 75 outZ)::tEnt (.slice ar lr cr) (stRows n rs) (.slice ab lb cb) (rng n rs.length)) (fun _ _=>sol34_mid n rs c O hL hm6 H ar ab lr cr lb cb S w) (fun KK hN=> ?_)
 clear H;refine Qj 6 J ?_
 refine QY (α:=Nat) (fun i=>i<=rs.length)
  (fun i=>[(0, .ct (intC n)),(1, .ct (rowsC rs)),(2, .ct (intsC c)),(6, .own 0),(8, .own 1),(9, .ct (intC ((n:Int)+rs.length+1))),(10, .ct (intC (wrR rs i))),(11, .ct (intC i))])
  (fun _=>(1, .box 144 [intC n,intC rs.length, .ex (.slice ar lr cr), .ex (.slice none 0 0), .ex (.slice ab lb cb)])::(0, .box 75 outZ)::tEnt (.slice ar lr cr) (stRows n rs) (.slice ab lb cb) (rng n rs.length)) (fun i=>rs.length - i) 0 (Nat.zero_le _) (by exact Qx J) ?_
 intro i hi
 (try dsimp only at hi ⊢)
 refine Qj 9 J ?_;refine Qy J (fun hlt=> ?_) (fun hlt=> ?_)
 · have e2:(i:Int).toNat=i:=Int.toNat_natCast i
   have hlt:i<rs.length:=by omega
   have bd:=wrR_bd rs i
   have hwr:wrR rs (i+1)=if (rs.getD i rw0).b<0/\ (wrR rs i<0 \/(rs.getD i rw0).b<(rs.getD (wrR rs i).toNat rw0).b) then (i:Int) else wrR rs i:=rfl
   generalize wrR rs i=W at*;refine Qj 5 J (XY 23 0x80161514332e1211100f0d0c0b0a09080706052403020100 J ?_);refine Qq 2 J (Q8 rw0 sRows J (by omega) ?_);refine Qq 4 J ?_;rw [e2];refine QQ 53 J (fun h1=> ?_) (fun h1=> ?_)
   · refine Qq 3 J (QQ 56 J (fun h2=> ?_) (fun h2=> ?_))
     · rw [if_pos ⟨h1, .inl h2⟩] at hwr;refine QZ 27 J (by omega) ?_;refine Qk (i+1) (by omega) (by omega) (by refine QW J ⟨rfl,rfl,rfl,rfl,rfl,rfl,by rw [hwr];rfl,by simp only [Int.natCast_add];rfl,trivial⟩)
     · obtain ⟨W',rfl⟩:=Int.eq_ofNat_of_zero_le (show 0<=W by omega);have e3:(W' :Int).toNat=W' :=Int.toNat_natCast W';rw [e3] at hwr;refine Qq 2 J (Q8 rw0 sRows J (by omega) ?_);refine Qq 3 J (Q8 rw0 sRows J (by omega) ?_);refine Qq 8 J ?_;rw [e2];rw [e3];refine Qy J (fun h3=> ?_) (fun h3=> ?_)
       · rw [if_pos ⟨h1, .inr h3⟩] at hwr;refine Xz 11 J (by omega) ?_;refine Qk (i+1) (by omega) (by omega) (by refine QW J ⟨rfl,rfl,rfl,rfl,rfl,rfl,by rw [hwr];rfl,by simp only [Int.natCast_add];rfl,trivial⟩)
       · rw [if_neg (fun h=>h.2.elim h2 h3)] at hwr;refine Xz 8 J (by omega) ?_;refine Qk (i+1) (by omega) (by omega) (by refine QW J ⟨rfl,rfl,rfl,rfl,rfl,rfl,by rw [hwr];rfl,by simp only [Int.natCast_add];rfl,trivial⟩)
   · rw [if_neg (fun h=>h1 h.1)] at hwr;refine QZ 27 J (by omega) ?_;refine Qk (i+1) (by omega) (by omega) (by refine QW J ⟨rfl,rfl,rfl,rfl,rfl,rfl,by rw [hwr];rfl,by simp only [Int.natCast_add];rfl,trivial⟩)
 · have hi' :i=rs.length:=by omega
   subst hi';refine Qj 1 J ?_;exact Q7 hN () trivial (by exact Qx J)
theorem frz_w:argW [.ex (.bool false), .ex (.slice none 0 0), .ex (.slice none 0 0)] (frCs frz0):=⟨Zx,w_nat0,w_nat0,trivial⟩
theorem rMaximum_of(n:Int)(rs:List Rw)(c:List Int)(O:Oc)(e:Int)(hk:O.kind≠1 ->O.value=frz0)(he:O.kind=1 ->e=0)(hS:Ok prog 31 [intC n,rowsC rs,intsC c] (.tup [ocC O,intC e])):
  Ok prog 12 [intC n,rowsC rs,intsC c] (.tup [fracC O.value,boolC (decide (O.kind=1)),intC e]):=by
 refine Ok.enter func12 J _ ntmps12 J ?_
 intro S w;refine Qj 12 J (Qv (gT J) hS J (Qq 14 J (QQ 20 J (fun h=> ?_) (fun h=> ?_))))
 · have h1:O.kind≠1:=fun h1=>h (he h1)
   refine Qq 17 J ?_;refine X5 [_,_,_] rfl (Xv (w_agg frz_w) (Qi J J lFrac J (Q4 J (Q4 J Q3)))) (by rw [hk h1,decide_eq_false h1];rfl) J
 · obtain rfl:e=0:=by omega
   refine Qq 6 J ?_;refine Qy J (fun h2=> ?_) (fun h2=> ?_)
   · refine Qj 10 J ?_;refine X5 [_,_,_] rfl (Xv (w_agg frz_w) (Qi J J lFrac J (Q4 J (Q4 J Q3)))) (by rw [hk h2,decide_eq_false h2];rfl) J
   · have h3:O.kind=1:=by omega
     refine Qj 5 J (Z5 (n:=3) J J J J (Nat.le_of_ble_eq_true J) lFrac J (Qq 6 J ?_));refine Qw J (by rw [decide_eq_true h3];rfl)
attribute [local irreducible] OkB OkL OkN OkT
theorem up_inj{vs:List Wr}(hu:Up cmpW vs){i j:Nat}(hi:i<vs.length)(hj:j<vs.length)(e:vs.getD i wr0=vs.getD j wr0):i=j:=by
 have h:=List.pairwise_iff_getElem.1 hu;rw [List.getD_eq_getElem?_getD,List.getElem?_eq_getElem hi,List.getD_eq_getElem?_getD,List.getElem?_eq_getElem hj] at e;have e:vs[i]=vs[j]:=e;have a:=ordW.anti vs[j] vs[j];rcases Nat.lt_trichotomy i j with q|q|q
 · have:=h i j hi hj q;rw [e] at this;omega
 · exact q
 · have:=h j i hj hi q;rw [e] at this;omega
theorem bd_err(O1 O2:Oc):(bdF O1 O2).2.2.2=0/\ O1.kind=1/\ O2.kind=1/\ bdF O1 O2=(O1,O2,(-flV O1.value,flV O2.value),0) \/(bdF O1 O2).2.2.2=33:=by
 unfold bdF;split
 · exact .inr J
 · rename_i h
   split
   · exact .inr J
   · refine .inl ⟨rfl,Classical.not_not.1 fun g=>h (.inl g),Classical.not_not.1 fun g=>h (.inr g),rfl⟩
theorem dr_vr{l:List Rs}(hl:l.length<=8)(hp:pwB l=true)(hd:∀r∈l,drR r){mo qu:Int}(hmo:0<=mo/\ mo<=1000)(hqu:0<=qu/\ qu<=1000):
  (rwO l mo qu).2.2=5 \/(rwO l mo qu).2.2=0/\ (vrO l).1=vrF l/\ (vrF l).length<=16/\ (rwO l mo qu).1=rowsD (vrF l) mo qu (msF l):=by
 have hm:=(ms_dr hd).1
 have hc:chkF l=0:=by
  have h2:=sd_len cmpR (l.filter okR);have h3:=List.length_filter_le okR l;unfold chkF
  rw [if_neg (fun h=>by
   obtain ⟨r,hr,h⟩:=List.any_eq_true.1 h
   rw [(hd r hr).1] at h;cases h),if_neg (by omega),if_pos (cons_all (pw_all hp))]
 have ht:tiB mo qu=true:=decide_eq_true (by omega)
 have ev:vrO l=if 16<((vrF l).length:Int) then ([],5) else (vrF l,0):=by unfold vrO;rw [if_neg (fun h=>h hc)]
 unfold rwO;rw [ev,ht,if_neg (by decide)];by_cases h:16<((vrF l).length:Int)
 · rw [if_pos h];exact .inl J
 · rw [if_neg h];dsimp only;rw [if_neg (fun h=>h J),if_neg (by omega)];exact .inr ⟨rfl,rfl,by omega,rfl⟩
structure DpK (l : List Rs) (mo qu : Int) (n : Nat) (rs : List Rw) (k : Nat) (d : Dl) : Prop where
  sm : -1000 ≤ d.2.1 ∧ d.2.1 ≤ 1000 ∧ -1000 ≤ d.2.2 ∧ d.2.2 ≤ 1000
  pr : ∃ (lo up : List Fr) (v : Fr), Ok prog 10 [rssC l, tiC mo qu, wrC d.1] (.tup [fracsC lo, fracsC up, intC 0]) ∧
    (∀ p : Int × Int, (-10000 ≤ p.1 ∧ p.1 ≤ 10000) ∧ -10000 ≤ p.2 ∧ p.2 ≤ 10000 → Ok prog 11 [rssC l, tiC mo qu, wrC d.1, ivC p, fracsC lo, fracsC up] (boolC (decide (d.2.2 ≤ p.2) && decide (-d.2.1 ≤ -p.1)))) ∧
    Ok prog 12 [intC n, rowsC rs, intsC (unL n k 1)] (.tup [fracC v, boolC true, intC 0]) ∧
    Ok prog 13 [intC n, rowsC rs, intsC (unL n k 1), fracsC up, fracC v] (boolC true)
theorem dp_main(l:List Rs)(hl:l.length<=8)(hp:pwB l=true)(hd:∀r∈l,drR r)(mo qu:Int)(hmo:0<=mo/\ mo<=1000)(hqu:0<=qu/\ qu<=1000):
  ∃(ds:List Dl) (e:Int),Ok prog 8 [rssC l,tiC mo qu] (.tup [dlsC ds,intC e])/\
   (e≠0 ->e=33 \/e=5)/\
   (e=0 ->ds.length<=16/\ ∃(rs:List Rw) (is:List Ik),Ok prog 9 [rssC l,tiC mo qu] (.tup [rowsC rs,iksC is,intC 0])/\ ∀k:Nat,k<ds.length ->DpK l mo qu ds.length rs k (ds.getD k dl0)):=by
 obtain ⟨hml,hmm⟩:=ms_dr hd;have hR:=DRows_ok l (by omega) mo qu;have hu:Up cmpW (vrF l):=(Yt ordW _).1;rcases dr_vr hl hp hd hmo hqu with h5|⟨h0,hv,hvl,hrw⟩
 · have hA:=DAll_ok l (by omega) mo qu (fun _=>(oc0,oc0,(0,0),33)) (fun _=> .inr J) (fun h=>by rw [h5] at h;cases h)
   have e:alD l mo qu (fun _=>(oc0,oc0,(0,0),33))=([],5):=by unfold alD;rw [h5];exact if_pos (by decide)
   rw [e] at hA;exact ⟨_,_,hA,fun _=> .inr J,fun h=>by cases h⟩
 rw [h0,hrw] at hR;have hrv:validR ((vrF l).length:Int) (rowsD (vrF l) mo qu (msF l))=true:=rowsD_valid hvl (by omega) (fun m hm=>⟨me_wires l m hm,(me_time l m hm).2⟩) (decide_eq_true (by omega))
 have hrl:(rowsD (vrF l) mo qu (msF l)).length<=32:=by have:=rowsD_len (vrF l) mo qu (msF l);omega
 have hsm:=rowsD_small (vs:=vrF l) (ms:=msF l) hmm hmo hqu
 have hrow:∀k,k<(vrF l).length ->∃r∈rowsD (vrF l) mo qu (msF l),r.b=mo/\ ∀j,j<(vrF l).length ->(unL (vrF l).length k 1).getD j 0<=r.cs.getD j 0:=fun k hk=>
  ⟨⟨cfW (vrF l) [(vrF l).getD k wr0] 1,mo⟩,List.mem_append.2 (.inl (List.mem_map.2 ⟨_,XX hk,rfl⟩)),rfl,fun j hj=>by
   rw [unL_getD 1 hk];dsimp only;rw [cfW_at _ _ hj,List.count_singleton];by_cases e:j=k
   · subst e;simp
   · rw [if_neg e];split <;>decide⟩
 generalize hrs:rowsD (vrF l) mo qu (msF l)=rs at*;generalize hvs:vrF l=vs at*
 have hex:∀k:Nat,∃b:Oc × Oc,k<vs.length ->Sol vs.length rs (unL vs.length k (-1)) b.1/\ Sol vs.length rs (unL vs.length k 1) b.2/\ Ok prog 22 [rowsC rs,intC vs.length,intC k] (.tup [ocC (bdF b.1 b.2).1,ocC (bdF b.1 b.2).2.1,ivC (bdF b.1 b.2).2.2.1,intC (bdF b.1 b.2).2.2.2]):=fun k=>by
  by_cases hk:k<vs.length
  · obtain ⟨O1,s1,k1⟩:=Solve_any hrv (unL_ok hk (f:= -1) (.inr rfl));obtain ⟨O2,s2,k2⟩:=Solve_any hrv (unL_ok hk (f:=1) (.inl rfl));have l1:=sol_len s1 (by omega);have l2:=sol_len s2 (by omega);exact ⟨(O1,O2),fun _=>⟨s1,s2,bounds_ok _ k hk hvl rs O1 O2 k1 k2 (fun a1=>⟨a1,l1.1,l1.2.1,l1.2.2 a1⟩) (fun a2=>⟨a2,l2.1,l2.2.1,l2.2.2 a2⟩)⟩⟩
  · exact ⟨(oc0,oc0),fun h=>absurd h hk⟩
 obtain ⟨bo,hbo⟩:=Classical.axiomOfChoice hex
 have hA:=DAll_ok l (by omega) mo qu (fun k=>bdF (bo k).1 (bo k).2) (fun k=>(bd_err _ _).elim (fun h=> .inl h.1) .inr) (fun _ k hk=>by
  rw [hrw,hv];rw [hv] at hk;exact (hbo k hk).2.2)
 by_cases hz:∀k,k<vs.length ->(bdF (bo k).1 (bo k).2).2.2.2=0;rotate_left
 · have e:alD l mo qu (fun k=>bdF (bo k).1 (bo k).2)=([],33):=by unfold alD;rw [h0,hv,if_neg (by decide),if_neg hz]
   rw [e] at hA;exact ⟨_,_,hA,fun _=> .inl J,fun h=>by cases h⟩
 have e:alD l mo qu (fun k=>bdF (bo k).1 (bo k).2)=((List.range vs.length).map fun k=>(vs.getD k wr0,(bdF (bo k).1 (bo k).2).2.2.1),0):=by unfold alD;rw [h0,hv,if_neg (by decide),if_pos hz]
 rw [e] at hA
 have hdl:((List.range vs.length).map fun k=>(vs.getD k wr0,(bdF (bo k).1 (bo k).2).2.2.1)).length=vs.length:=by rw [List.length_map,List.length_range]
 refine ⟨_,_,hA,fun h=>absurd J h,fun _=>⟨by dsimp only;omega,rs,_,hR,fun k hk=> ?_⟩⟩;dsimp only at hk ⊢;rw [hdl] at hk ⊢;rw [List.getD_eq_getElem?_getD,List.getElem?_map,List.getElem?_range hk,Option.map_some,Option.getD_some];obtain ⟨s1,s2,hB⟩:=hbo k hk;obtain ⟨_,k1,k2,eb⟩:=(bd_err (bo k).1 (bo k).2).resolve_right (by rw [hz k hk];decide);rw [eb] at hB ⊢;generalize (bo k).1=O1 at*;generalize (bo k).2=O2 at*
 have hlu:∀f,(unL vs.length k f).length=vs.length:=fun f=>by unfold unL;rw [List.length_set,List.length_replicate]
 obtain ⟨r,hr,hb,hrc⟩:=hrow k hk;have g1:=sol_un hk hr hrc (.inr J) s1 k1;have g2:=sol_un hk hr hrc (.inl J) s2 k2;rw [hb] at g1 g2;obtain ⟨f1,f3⟩:=btw_fl g1 hmo.2;obtain ⟨f2,f4⟩:=btw_fl g2 hmo.2;obtain ⟨u1,c1,b1⟩:=sol_dual hrv hrl (Nat.le_of_eq (hlu _)) s1 k1;obtain ⟨u2,c2,b2⟩:=sol_dual hrv hrl (Nat.le_of_eq (hlu _)) s2 k2
 have hun:∀f,f=1 \/f= -1 ->(unL vs.length k f).length<=64/\ ∀y∈unL vs.length k f,y.natAbs<=4503599627370496:=fun f hf=>by
  refine ⟨by rw [hlu];omega,fun y hy=> ?_⟩;unfold unL at hy;rcases List.mem_or_eq_of_mem_set hy with h|rfl
  · rw [List.eq_of_mem_replicate h];decide
  · rcases hf with rfl|rfl <;>decide
 have n1:=hun (-1) (.inr J);have n2:=hun 1 (.inl J);have hC1:=Ceiling_ex hrv u1 n1.1 n1.2 c1 (by rw [b1];exact f3);have hC2:=Ceiling_ex hrv u2 n2.1 n2.2 c2 (by rw [b2];exact f4);rw [b1] at hC1;rw [b2] at hC2;have hw:vs.getD k wr0∈vs:=XX hk
 have hpk:posD vs (vs.getD k wr0)=k:=by
  obtain ⟨p1,p2⟩:=(posD_at hu).1 hw;exact up_inj hu p1 hk p2
 have hE:=ends_fine l (by omega) mo qu (vs.getD k wr0) h0 (by rw [hv];exact hw) (by rw [hv];exact hu) (by rw [hv];exact hvl) (by rw [hrw,hv,hpk];exact hB)
 have hc4:∀i,((unL vs.length k 1).getD i 0).natAbs<=4:=fun i=>by rw [unL_getD 1 hk];split <;>decide
 have hT:Tgt vs.length rs (unL vs.length k 1):=Tgt.of hvl (by omega) (fun r hr=>(hsm r hr).1) hc4 (fun r hr=>(hsm r hr).2);obtain ⟨N,eN,hL⟩:=lpOf hrv (unL_ok hk (f:=1) (.inl rfl))
 obtain rfl:vs.length=N:=by omega
 obtain ⟨O,hRu,hS⟩:=ref_run hL hT;obtain ⟨kO,vO⟩:=sol_same s2 hS k2;have hM:=rMaximum_of vs.length rs (unL vs.length k 1) O 0 (fun h=>absurd kO h) (fun _=>rfl) (rSolve_ok _ rs _ O hL hT hrv (unL_ok hk (.inl J)) hRu);rw [decide_eq_true kO,vO] at hM;have hBo:=rBounds_gen vs.length rs (unL vs.length k 1) O2.dual (bsQ rs O2.dual) hrv u2 n2.1 n2.2 u2.b.2;rw [c2,cmpQ_self,decide_eq_false (Int.lt_irrefl _),show ratC (bsQ rs O2.dual)=fracC O2.value by show fracC (ofQ _)=_;rw [b2]] at hBo
 exact ⟨by dsimp only;omega,O1.dual,O2.dual,O2.value,Prove_ok l mo qu _ O1 O2 hE,fun p hp=>by
  dsimp only;rw [Int.neg_neg]
  exact Check_ex (k:=k) l (by omega) mo qu _ p _ _ h0 (by rw [hv];exact hu) (by rw [hv];exact hvl) (by rw [hv];exact hw) (by rw [hv];exact hpk) hp (by rw [hrw,hv];exact hC2) (by rw [hrw,hv];exact hC1),hM,hBo⟩
theorem zvDl:(prog.info? 46).map (·.zero)=some (some (.agg #[.int .u32 0, .int .u32 0, .int .i64 0, .int .i64 0])):=by kernel_rfl
set_option maxRecDepth 20000 in
theorem DelayProves_ok(bs:List Int)(hb:∀b∈bs,0<=b/\ b<256):Ok prog 3 [bytesC bs] (boolC true):=by
 refine Ok.enter func3 J _ ntmps3 J ?_
 intro S w;have hB:Bytes (bs.take 400):=⟨fun b h=>(hb b (List.mem_of_mem_take h)).1,fun b h=>(hb b (List.mem_of_mem_take h)).2,by simp;omega⟩;refine Qj 8 J (Qv (gT J) DAwake_ok J (Qq 9 J (Ops.callN 0 (gT J) (Roll_ok bs) J J J J J J (Qq 6 J (Xy (gT J) (DConsistent_ok2 (bs.take 400) 0 8 (by decide) (by decide) hB) J J J J J (fun q hq=> ?_))))));obtain ⟨x,p1⟩:=q;dsimp only at hq ⊢;obtain ⟨hxl,hpw,hdr,_⟩:=hq;refine Qq 1 J (Xy (gT J) (Timing_ok (bs.take 400) p1 hB) J J J J J (fun q hq=> ?_));obtain ⟨⟨mo,qu⟩,p2⟩:=q;dsimp only at hq ⊢;obtain ⟨ds,e,hA,he,hD⟩:=dp_main x (by omega) hpw hdr mo qu hq.1 hq.2;clear hpw hdr hb hB;generalize bs.take 400=B0;refine Xh 5 J J zvTi J J J (Qq 8 J (Qv (gT J) hA J (Qq 14 J ?_)));refine Qy J (fun g=> ?_) (fun g=> ?_)
 · rcases he g with rfl|rfl
   · refine Qj 12 J ?_;refine Qw J J
   · refine Qj 12 J ?_;refine Qw J J
 obtain rfl:e=0:=Classical.not_not.1 g;obtain ⟨hl16,rs,is,hR,hK'⟩:=hD rfl;clear hA he hD;refine Qj 6 J (Qv (gT J) hR J (Qq 13 J (QV sDls.und J (Qq 4 J ?_))))
 refine QY (α:=Nat) (fun i=>i<=ds.length)
  (fun i=>[(4, .ct (rssC x)),(5, .own 5),(6, .ct (dlsC ds)),(8, .ct (rowsC rs)),(10, .ct (intC 0)),(49, .ct (dlsC ds)),(50, .ct (intC ds.length)),(51, .ct (intC i))])
  (fun _=>[(5, .box 29 (tiCs mo qu)),(0, .box 109 (codes B0 p2))]) (fun i=>ds.length - i) 0 (Nat.zero_le _) (by exact Qx J) ?_
 intro i hi
 try dsimp only at hi ⊢
 refine Qj 6 J ?_;refine Qy J (fun g=> ?_) (fun g=> ?_);rotate_left
 · refine Qj 10 J ?_;refine Qw J J
 refine Qj 7 J (Q8 dl0 sDls J (by omega) ?_);obtain ⟨hsm,lo,up,v,hP,hC,hM,hBo⟩:=hK' i (by omega);rw [show (i:Int).toNat=i from rfl];generalize ds.getD i dl0=d at hsm hP hC ⊢;have c1:=hC (d.2.1,d.2.2) (by dsimp only;omega);have c2:=hC (d.2.1+1,d.2.2) (by dsimp only;omega);have c3:=hC (d.2.1,d.2.2 - 1) (by dsimp only;omega);dsimp only at c1 c2 c3;rw [decide_eq_true (Int.le_refl _),decide_eq_true (Int.le_refl _)] at c1;rw [decide_eq_false (show ¬-d.2.1<= -(d.2.1+1) by omega),Bool.and_false] at c2;rw [decide_eq_false (show ¬d.2.2<=d.2.2 - 1 by omega),Bool.false_and] at c3;clear hC;refine Qq 1 J (Xh 6 J J zvDl J J J (Qq 9 J (Z5 (n:=2) J J J J (Nat.le_of_ble_eq_true J) lWire J (Qv (gT J) hP J (Qq 18 J (Z5 (n:=2) J J J J (Nat.le_of_ble_eq_true J) lWire J (Qq 1 J (Z5 (n:=2) J J J J (Nat.le_of_ble_eq_true J) lIv J (Qq 2 J (Qv (gT J) c1 J (Qq 13 J (Z5 (n:=2) J J J J (Nat.le_of_ble_eq_true J) lWire J (QZ 10 J (by omega) ?_)))))))))))));refine Qv (gT J) c2 J (Qq 4 J (Z5 (n:=2) J J J J (Nat.le_of_ble_eq_true J) lWire J (QZ 10 J (by omega) ?_)));refine Qv (gT J) c3 J ?_;clear c1 c2 c3 hP hR;refine Qq 9 J (QV sDls.und J (ZV 7 ds.length J J J J sInts (by omega) (by omega) J J J ?_));rw [ints_made];refine Qq 7 J (Qf ds.length J J J (by simp [ints]) J sInts (by omega) (by omega) J ?_);refine Qa J J J J J zInt (by simp [Ent.cs];omega) ?_
 simp only [Ent.setc,Zz];rw [show (i:Int).toNat*1=i by omega];refine Qq 5 J (Zw 7 _ J (X2 _ _) noBor_sub (QV sDls.und J (Qq 2 J (Qv (gT J) hM J (Qq 4 J (Xh 8 J J zvFrac J J J (Qq 11 J (QV sDls.und J (Qq 4 J (Qv (gT J) hBo J (QZ 12 J (by omega) ?_)))))))))));refine Qc 8 (Qc 6 (Qk (i+1) (by omega) (by omega) (by exact Qx J)))
section
variable {H : Type} {enc : TypeId × Value → H} {P : Program} {w : World} {base : Nat} {spare : Nat → Bool} {held : Bool}
theorem slice_in{α:Type}{t e:TypeId}{n fuel:Nat}{cs0:List Value}{x:DataW H × List MemPlace}(ht:P.underlying t=some (.slice e))(hn:P.cellsOf e=n)(hn0:0<n)(f:α ->List CT)(hf:∀z,(f z).length=n)(good:α ->Prop)
  (hE:∀m cs y,DataW.trod enc P w base spare held m e cs=some y ->cs.length=n ->∃z,cells (fun _=>True) w (f z) cs/\ good z)
  (h:DataW.trod enc P w base spare held fuel t cs0=some x):∃(v:Value) (zs:List α),cs0=[v]/\ zs.length<=9223372036854775807/\ (∀z∈zs,good z)/\ (CT.fr (sliceT n (zs.map f))).p (fun _=>True) w v:=by
 rcases DataW.trod_slice ht h with ⟨h0,_⟩|⟨a,len,cap,elems,rest,m,_,rfl,rfl,_,hl,hm,hlen,hel,_⟩
 · exact ⟨_,[],h0,Nat.zero_le _,(fun z hz=>nomatch hz),nil_is n _ w⟩
 rw [hn] at hel
 have key:∀k,k<=len ->∃(zs:List α) (vs:List Value),zs.length=k/\ (∀z∈zs,good z)/\ cells (fun _=>True) w (zs.map f).flatten vs/\ vs.length=k*n/\ ∀i u,vs[i]? =some u ->w.cell? (a.add i)=some u:=by
  intro k
  induction k with
  |zero=>intro _;exact ⟨[],[],rfl,(fun z hz=>nomatch hz),trivial,(Nat.zero_mul n).symm,fun i u hu=>by simp at hu⟩
  |succ k ih=>
   intro hk;obtain ⟨zs,vs,e1,e2,e3,e4,e5⟩:=ih (by omega);have h1:=hel k (by omega);rw [List.getElem?_eq_getElem (show k<elems.length by omega),Option.bind_eq_some_iff] at h1;obtain ⟨cs,h2,h3⟩:=h1;obtain ⟨_,h4,h5⟩:=World.cells?_some h2;obtain ⟨z,h6,h7⟩:=hE _ _ _ h3 h4;refine ⟨zs++ [z],vs++cs,by simp [e1],?_,?_,by rw [List.length_append,e4,h4,Nat.succ_mul],?_⟩
   · intro y hy;rcases List.mem_append.1 hy with hy|hy
     · exact e2 y hy
     · rw [List.mem_singleton.1 hy];exact h7
   · rw [List.map_append,List.flatten_append]
     refine cells.append e3 ?_
     simpa using h6
   · intro i u hu;rcases Nat.lt_or_ge i (k*n) with hi|hi
     · rw [List.getElem?_append_left (by omega)] at hu;exact e5 i u hu
     · rw [List.getElem?_append_right (by omega),e4] at hu
       have hlt:i - k*n<n:=by
        have:=(List.getElem?_eq_some_iff.1 hu).1;omega
       have:=h5 (i - k*n) hlt;rw [Addr.add_add,show k*n+(i - k*n)=i by omega] at this;rw [this,hu]
 obtain ⟨zs,vs,e1,e2,e3,e4,e5⟩:=key len (Nat.le_refl _)
 have hmx:maxLen=9223372036854775807:=by decide
 refine ⟨_,zs,rfl,by omega,e2,some a,cap,by rw [List.length_map,e1],by rw [List.length_map,e1];exact hl,hm,fun y hy=>by obtain ⟨z,_,rfl⟩:=List.mem_map.1 hy;exact hf z,fun hne=> ?_⟩
 have hpos:0<len:=by
  rcases Nat.eq_zero_or_pos len with h0|h0
  · rw [h0] at e1;rw [List.length_eq_zero_iff.1 e1] at hne;exact absurd J hne
  · exact h0
 have hvl:0<vs.length:=by rw [e4];exact Nat.mul_pos hpos hn0
 have h0:=e5 0 _ (List.getElem?_eq_getElem hvl);obtain ⟨b,o,sp⟩:=a
 have hsp:sp=none/\ b<w.heap.size:=by
  simp only [Addr.add,if_true,World.cell?] at h0
  cases e:w.heap[b]? with
  |none=>rw [e] at h0;cases h0
  |some ob=>
   rw [e] at h0
   cases ob with
   |cells c t r=>
    refine ⟨?_,Z9 e⟩
    cases sp with
    |none=>rfl
    |some q=>simp at h0
   |_=>cases h0
 obtain ⟨rfl,hb⟩:=hsp;refine ⟨b,o,rfl,trivial,hb,vs,e3,fun i u hu=> ?_⟩;have h1:=e5 i u hu
 have h3:(⟨b,o,none⟩:Addr).add i=⟨b,o+i,none⟩:=by
  unfold Addr.add;split
  · rename_i h;subst h;rfl
  · rfl
 rw [h3] at h1;exact h1
theorem bytes_in{t e:TypeId}{fuel:Nat}{cs0:List Value}{x:DataW H × List MemPlace}(ht:P.underlying t=some (.slice e))(he:P.underlying e=some (.int .u8))(hn:P.cellsOf e=1)
  (h:DataW.trod enc P w base spare held fuel t cs0=some x):∃(v:Value) (zs:List Int),cs0=[v]/\ (∀z∈zs,0<=z/\ z<256)/\ (bytesC zs).p (fun _=>True) w v:=by
 obtain ⟨v,zs,h1,_,h2,h3⟩:=slice_in ht hn (by decide) (fun z:Int=>[CT.ex (Value.int .u8 z)]) (fun _=>rfl) (fun z=>0<=z/\ z<256) (fun m cs y hy _=>by
  obtain ⟨z,rfl,_,hw⟩:=DataW.trod_int he hy
  exact ⟨z,⟨rfl,trivial⟩,by have:=bounds_u8 hw;omega⟩) h
 exact ⟨v,zs,h1,h2,h3⟩
end
end Go.Proofs.YtfimckpnnbibcaaGreat
