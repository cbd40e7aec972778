/- The proof that DelayProves holds for every input, without conditions: part 2 of 7. -/
import Derived.Test.YtfimckpnnbibcaaGreatZ1
import Derived.Laws.Slices
import Derived.Shelf.SlSortCmp.NoneTotal
import Derived.Test.YtfimckpnnbibcaaGreatProg
import Derived.KernelRfl
import Derived.Shelf.SlLaysF0
set_option maxHeartbeats 32000000
set_option maxRecDepth 100000
namespace Go.Own
open Go.RowKit
section
variable {X : Ctx} {L : AL} {B : BL} {ops : Array Oper} {K : Act → World → Prop} {r : Pl} {k : Kd}
  {x y z : Operand} {d : Nat} {t t2 t' : TypeId} {pos : String} {af : Array Edge} {g : Option (Nat × Bool)}
theorem St.cutN{c y:Code}{Q:Exit ->Act ->World ->Prop}{α:Type}(J:α ->Prop)(Lx:α ->AL)(Bx:α ->BL)(h1:∀q,J q ->St X (Lx q) (Bx q) y Q)
  (h2:∀K:Exit ->Act ->World ->Prop,(∀q,J q ->Fin X (Lx q) (Bx q) (fun a w=>K .normal a w)) ->St X L B c K):St X L B c (Exit.then (y.wp X.P Q) Q):=
 h2 _ (fun q hq=>h1 q hq)
theorem X4{c y:Code}{Q:Exit ->Act ->World ->Prop}{k:List Kf}{α:Type}(J:α ->Prop)(Lx:α ->AL)(Bx:α ->BL)(h1:∀q,J q ->St X (Lx q) (Bx q) y (den X.P Q k))
  (h2:∀K:Exit ->Act ->World ->Prop,(∀q,J q ->Fin X (Lx q) (Bx q) (fun a w=>K .normal a w)) ->St X L B c (den X.P K [])):St X L B c (den X.P Q (.th y::k)):=
 h2 _ (fun q hq=>h1 q hq)
theorem Fin.nameS(dd i m:Nat){el n:Nat}{cs:List CT}(hd:look L dd=some (.own i))(hi:bget B i=some (.row el n cs))(hl:cs.length=m*n)(hm:0<m)(hp:0<n)
  (h:∀gb c,m<=c ->c<=maxLen ->Fin X ((dd, .ct (.ex (.slice (some ⟨gb,0,none⟩) m c)))::L) (bset B i (.rowx (.slice (some ⟨gb,0,none⟩) m c) el n cs)) K):Fin X L B K:=fun a ρ w hI=>by
 have h1:a.tmps.getD dd undef=ρ i:=hI.slot dd _ hd
 obtain ⟨n',vs,how,hc⟩:=(hI.ent i _ hi).1
 have hl' :=hc.length
 rw [how.1,hl] at hl'
 have hnm:n' =m:=Nat.eq_of_mul_eq_mul_right hp hl'
 subst hnm
 rcases how.2 with ⟨h2,h3⟩|⟨gb,cap,cur,h2,h3,h4,h5,h6⟩
 · omega
 · have hx:(Ent.rowx (.slice (some ⟨gb,0,none⟩) n' cap) el n cs).ok (Sof X B ρ) w (ρ i):=⟨h2,n',vs,how,hc⟩
   refine h gb cap (by omega) ?_ a ρ w ((hI.retype (e' := .rowx (.slice (some ⟨gb,0,none⟩) n' cap) el n cs) hi hx rfl).slotx (s:= .ct (.ex _)) (h1.trans h2))
   omega
end
section
inductive Oq where
  | done
  | non
  | p (i : Nat) (r : Oq)
  | f (i : Nat) (r : Oq)
  | m (i : Nat) (r o : Oq)
  | a (i : Nat) (r o : Oq)
def wpQ (P : Program) (l : List Oper) (K : Act → World → Prop) : Oq → Act → World → Prop
  | .done, a, w => K a w
  | .non, _, _ => True
  | .p i r, a, w => ∃ v, Yields P l.toArray (nth l i) v a ∧ wpQ P l K r (a.put (nth l i).dst v) w
  | .f i r, a, w => ∃ v, YieldsIf P l.toArray (fun w' => Below w.heap.size w w') (nth l i) v a ∧ wpQ P l K r (a.put (nth l i).dst v) w
  | .m i r o, a, w => wpO P l.toArray (fun a' w' => Below w.heap.size w w' ∧ wpQ P l K r a' w') (nth l i) a w ∧ wpQ P l K o a w
  | .a i r o, a, w => wpO P l.toArray (fun a' w' => wpQ P l K r a' w') (nth l i) a w ∧ wpQ P l K o a w
def altsQ : Oq → List Nat
  | .m i _ o => i :: altsQ o
  | .a i _ o => i :: altsQ o
  | _ => []
def chkQ (ops : Array Oper) (late : List Nat) : Bool → Oq → Nat → Array Bool → Bool
  | true, .done, _, listed => (Region.ready .any ops listed).isEmpty
  | true, .p i r, n + 1, listed => (Region.ready .any ops listed).contains i && Region.free .any ops listed i && chkQ ops late true r n (listed.setIfInBounds i true)
  | true, .f i r, n + 1, listed => (Region.ready .any ops listed).contains i && Region.free .any ops listed i && waitsL ops late listed i && chkQ ops late true r n (listed.setIfInBounds i true)
  | tp, .m i r o, n + 1, listed => (!tp || Region.ready .any ops listed == altsQ (.m i r o)) && !late.contains i && chkQ ops late true r n (listed.setIfInBounds i true) && chkQ ops late false o (n + 1) listed
  | tp, .a i r o, n + 1, listed => (!tp || Region.ready .any ops listed == altsQ (.a i r o)) && late.contains i && chkQ ops late true r n (listed.setIfInBounds i true) && chkQ ops late false o (n + 1) listed
  | false, .non, _, _ => true
  | _, _, _, _ => false
theorem anyL_ofQ{P:Program}{l:List Oper}{K:Act ->World ->Prop}{late:List Nat}(hs:Region.noSelect l.toArray=true):
  ∀(ord:Oq) (fuel:Nat) (listed:Array Bool) (a:Act) (w:World),Shut l.toArray listed ->
   (chkQ l.toArray late true ord fuel listed=true ->wpQ P l K ord a w ->wpAnyL P l.toArray K late fuel listed a w)/\
   (∀f,fuel=f+1 ->chkQ l.toArray late false ord fuel listed=true ->wpQ P l K ord a w ->∀j∈altsQ ord,j∈Region.ready .any l.toArray listed ->wpOp P l.toArray (only K) j (fun a' w' =>(late.contains j=false ->Below w.heap.size w w')/\ wpAnyL P l.toArray K late f (listed.setIfInBounds j true) a' w') a w):=by
 have hidx:∀{listed:Array Bool} {i:Nat},i∈Region.ready .any l.toArray listed ->l.toArray[i]? =some (nth l i):=fun h=>nth_eq (by simpa using ready_lt h)
 intro ord
 induction ord with
 |done=>
  intro fuel listed a w _;refine ⟨fun hc h=> ?_,fun f hf hc h j hj=>by cases hj⟩
  have hr:Region.ready .any l.toArray listed=[]:=by
   cases fuel <;>simpa [chkQ] using hc
  cases fuel with
  |zero=>exact ⟨hr,h⟩
  |succ f=>exact ⟨fun _=>h,by rw [hr];simp⟩
 |non=>intro fuel listed a w _;exact ⟨fun hc h=>by simp [chkQ] at hc,fun f hf hc h j hj=>by cases hj⟩
 |p i r ih=>
  intro fuel listed a w hsh;refine ⟨fun hc h=> ?_,fun f hf hc h j hj=>by cases hj⟩
  cases fuel with
  |zero=>simp [chkQ] at hc
  |succ f=>
   simp only [chkQ,Bool.and_eq_true] at hc;obtain ⟨⟨hr,hfr⟩,hc2⟩:=hc
   have hr' :i∈Region.ready .any l.toArray listed:=by simpa using hr
   obtain ⟨v,hy,h⟩:=h;exact wpAnyL_firstP (hidx hr') (Region.noSelect_spec hs) f listed a w (Region.free_spec (hidx hr') hfr) hr' hy ((ih f _ _ _ (hsh.step hr')).1 hc2 h)
 |f i r ih=>
  intro fuel listed a w hsh;refine ⟨fun hc h=> ?_,fun f hf hc h j hj=>by cases hj⟩
  cases fuel with
  |zero=>simp [chkQ] at hc
  |succ f=>
   simp only [chkQ,Bool.and_eq_true] at hc;obtain ⟨⟨⟨hr,hfr⟩,hw⟩,hc2⟩:=hc
   have hr' :i∈Region.ready .any l.toArray listed:=by simpa using hr
   obtain ⟨v,hy,h⟩:=h;exact wpAnyL_first (hidx hr') (Region.noSelect_spec hs) hw f listed a w hsh (fun _ h=>h) (Region.free_spec (hidx hr') hfr) hr' hy ((ih f _ _ _ (hsh.step hr')).1 hc2 h)
 |m i r o ih1 ih2=>
  have key:∀(fuel:Nat) (listed:Array Bool) (a:Act) (w:World),Shut l.toArray listed ->∀f,fuel=f+1 ->chkQ l.toArray late false (.m i r o) fuel listed=true ->wpQ P l K (.m i r o) a w ->∀j∈altsQ (.m i r o),j∈Region.ready .any l.toArray listed ->wpOp P l.toArray (only K) j (fun a' w' =>(late.contains j=false ->Below w.heap.size w w')/\ wpAnyL P l.toArray K late f (listed.setIfInBounds j true) a' w') a w:=by
   intro fuel listed a w hsh f hf hc h j hj hr;subst hf;simp only [chkQ,Bool.and_eq_true] at hc;obtain ⟨⟨_,hc1⟩,hc2⟩:=hc;rcases List.mem_cons.1 hj with rfl|hj
   · exact Y2 (hidx hr) (Yk h.1 fun a' w' h' =>⟨fun _=>h'.1,(ih1 f _ _ _ (hsh.step hr)).1 hc1 h'.2⟩)
   · exact (ih2 (f+1) listed a w hsh).2 f J hc2 h.2 j hj hr
  intro fuel listed a w hsh;refine ⟨fun hc h=> ?_,key fuel listed a w hsh⟩
  cases fuel with
  |zero=>simp [chkQ] at hc
  |succ f=>
   simp only [chkQ,Bool.and_eq_true,Bool.not_true,Bool.false_or,beq_iff_eq] at hc;obtain ⟨⟨⟨hr,hN⟩,hc1⟩,hc2⟩:=hc;refine ⟨(fun h0=>by rw [hr] at h0;simp [altsQ] at h0),fun j hj=> ?_⟩;exact key (f+1) listed a w hsh f J (by simp only [chkQ,hN,hc1,hc2,Bool.not_false,Bool.true_or,Bool.and_self]) h j (by rw [<- hr];exact hj) hj
 |a i r o ih1 ih2=>
  have key:∀(fuel:Nat) (listed:Array Bool) (a:Act) (w:World),Shut l.toArray listed ->∀f,fuel=f+1 ->chkQ l.toArray late false (.a i r o) fuel listed=true ->wpQ P l K (.a i r o) a w ->∀j∈altsQ (.a i r o),j∈Region.ready .any l.toArray listed ->wpOp P l.toArray (only K) j (fun a' w' =>(late.contains j=false ->Below w.heap.size w w')/\ wpAnyL P l.toArray K late f (listed.setIfInBounds j true) a' w') a w:=by
   intro fuel listed a w hsh f hf hc h j hj hr;subst hf;simp only [chkQ,Bool.and_eq_true] at hc;obtain ⟨⟨⟨_,hl⟩,hc1⟩,hc2⟩:=hc;rcases List.mem_cons.1 hj with rfl|hj
   · exact Y2 (hidx hr) (Yk h.1 fun a' w' h' =>⟨(fun hlt=>by rw [hlt] at hl;cases hl),(ih1 f _ _ _ (hsh.step hr)).1 hc1 h'⟩)
   · exact (ih2 (f+1) listed a w hsh).2 f J hc2 h.2 j hj hr
  intro fuel listed a w hsh;refine ⟨fun hc h=> ?_,key fuel listed a w hsh⟩
  cases fuel with
  |zero=>simp [chkQ] at hc
  |succ f=>
   simp only [chkQ,Bool.and_eq_true,Bool.not_true,Bool.false_or,beq_iff_eq] at hc;obtain ⟨⟨⟨hr,hN⟩,hc1⟩,hc2⟩:=hc;refine ⟨(fun h0=>by rw [hr] at h0;simp [altsQ] at h0),fun j hj=> ?_⟩;exact key (f+1) listed a w hsh f J (by simp only [chkQ,hN,hc1,hc2,Bool.not_false,Bool.true_or,Bool.and_self]) h j (by rw [<- hr];exact hj) hj
variable {X : Ctx} {L : AL} {B : BL} {K : Act → World → Prop}
theorem St.drawQ{id:Nat}{l:List Oper}{Q:Exit ->Act ->World ->Prop}(hm:X.P.follows .mixedOrders=true)(late:List Nat)(ord:Oq)
  (hc:(Region.noSelect l.toArray&&chkQ l.toArray late true ord l.length (Array.replicate l.length false))=true)
  (h:∀K,(∀L' B',Fin X L' B' (fun a w=>Q .normal a w) ->Fin X L' B' K) ->Fin X L B (wpQ X.P l K ord)):St X L B (.region id l.toArray true) Q:=by
 intro a ρ w hI;simp only [Bool.and_eq_true] at hc;obtain ⟨hs,hc⟩:=hc;have h1:=h _ (fun _ _ h=>h) a ρ _ (hI.below (Below.drewOnce w));have h2:=(anyL_ofQ hs ord l.length _ a _ (Shut.start _ _)).1 hc h1;have h3:=wpAny_of_L _ _ _ _ h2
 refine Go.wp_mono (wp_region_any (Q:=only fun a w=>Q .normal a w) hm ?_) ?_
 · simpa using h3
 · intro e a w h
   cases e with
   |normal=>exact h
   |exit _=>exact h.elim
   |goto _=>exact h.elim
   |ret=>exact h.elim
   |panic _=>exact h.elim
   |outgrown=>exact h.elim
theorem Qb{l:List Oper}(h:Fin X L B K):Fin X L B (wpQ X.P l K .done):=h
theorem Qu{l:List Oper}:Fin X L B (wpQ X.P l K .non):=fun _ _ _ _=>trivial
theorem X7{l:List Oper}{i:Nat}{r:Oq}(h:Ops X l.toArray (.cons (nth l i) .pure .nil) L B (wpQ X.P l K r)):Fin X L B (wpQ X.P l K (.p i r)):=h
theorem Xt{l:List Oper}{i:Nat}{r:Oq}(h:Ops X l.toArray (.cons (nth l i) .free .nil) L B (wpQ X.P l K r)):Fin X L B (wpQ X.P l K (.f i r)):=h
theorem Ql{l:List Oper}{i:Nat}{r o:Oq}(h:Ops X l.toArray (.cons (nth l i) .makes .nil) L B (wpQ X.P l K r))(h2:Fin X L B (wpQ X.P l K o)):Fin X L B (wpQ X.P l K (.m i r o)):=fun a ρ w hI=>⟨h a ρ w hI,h2 a ρ w hI⟩
theorem Q0{l:List Oper}{i:Nat}{r o:Oq}(h:Ops X l.toArray (.cons (nth l i) .any .nil) L B (wpQ X.P l K r))(h2:Fin X L B (wpQ X.P l K o)):Fin X L B (wpQ X.P l K (.a i r o)):=fun a ρ w hI=>⟨h a ρ w hI,h2 a ρ w hI⟩
variable {ops : Array Oper} {r : Pl} {k : Kd} {x y z : Operand} {d : Nat} {t t2 t' : TypeId} {pos : String} {af : Array Edge} {g : Option (Nat × Bool)}
theorem Ops.makeX(i m:Nat){el n bytes:Nat}{zv:Value}{j:Int}(hk:k.mk=true)(hg:gd ops L g=some true)(hx:ev L x=some (.ct (.ex (.int .i64 j))))(hm:j=(m:Int))(hT:SlcT X.P t el n bytes zv)(hb:bytes*m<=140737488355328)(hmx:m<=140737488355328)(hN:noN i L=true)(hB:bget B i=none)(hn:Nat.blt d X.n=true)
  (h:∀gb,Ops X ops r ((d, .ct (.ex (.slice (some ⟨gb,0,none⟩) m m)))::L) ((i, .rowx (.slice (some ⟨gb,0,none⟩) m m) el n (zinit zv m))::B) K):Ops X ops (.cons ⟨some d, .makeSlice t x x,t',pos,af,g⟩ k r) L B K:=fun a ρ w hI=>by
 refine wpX_makes k hk ?_
 unfold wpO
 rw [if_pos (Z3 (o:=⟨some d,_,t',pos,af,g⟩) hI hg)]
 unfold Oper.wp
 obtain ⟨nf,h1,h2,h3,h4⟩:=hT.inf
 obtain ⟨w',h5,h6,h7⟩:=run_make_full (P:=X.P) w 0 t el nf zv n hT.und h1 h4 h2 .i64 .i64 m (by rw [h3];omega) (by simp only [maxLen];omega) (Nat.zero_le _)
 have hbel:Below w.heap.size w w' := .of ((Go.RowKit.Below.refl _ _).grown h7 (Nat.le_refl _) (fun _ hk=>by cases hk)) (run_drawn _ _ h5)
 have hrun:(execOp a.eval ⟨some d, .makeSlice t x x,t',pos,af,g⟩).run X.P w= .ok (.value (.slice (some ⟨w.heap.size,0,none⟩) m m)) w' :=by
  show (do pure (Next.value (<- Instr.makeSlice t (a.eval x) (a.eval x))):Sem Next).run X.P w=_;rw [hI.evx hx,hm];exact X9 h5
 rw [hrun];have hW:=hI.new (v:= .slice (some ⟨w.heap.size,0,none⟩) m m) (e:= .rowx (.slice (some ⟨w.heap.size,0,none⟩) m m) el n (zinit zv m)) hN hB hbel (fun g hg=>by injection hg with hg;subst hg;exact Nat.le_refl _) (fun S' _=>⟨rfl,m,_,h6,by rw [Yi,<- hT.zs,made_flat];exact Zn _⟩);exact ⟨hbel,h w.heap.size _ _ w' (hW.put (s:= .ct (.ex _)) (Xp hn) J)⟩
end
section
variable {X : Ctx} {L : AL} {B : BL} {ops : Array Oper} {K : Act → World → Prop} {r : Pl} {k : Kd}
  {x y z : Operand} {d : Nat} {t t2 t' : TypeId} {pos : String} {af : Array Edge} {g : Option (Nat × Bool)}
abbrev kh (gb o m c : Nat) : Value := .slice (some ⟨gb, o, none⟩) m c
theorem Jy{el n bytes gb o m c:Nat}{zv:Value}{kk:IntKind}{j:Int}(q:Nat)(hg:gd ops L g=some true)(hx:ev L x=some (.ct (.ex (kh gb o m c))))(hy:ev L y=some (.ct (.ex (.int kk j))))(hj:j=(q:Int))(hT:SlcT X.P t el n bytes zv)(h1:q<=c)(hn:Nat.blt d X.n=true)
  (h:Ops X ops r ((d, .ct (.ex (kh gb o q c)))::L) B K):Ops X ops (.cons ⟨some d, .slice t x none (some y) none,t',pos,af,g⟩ k r) L B K:=
 XW (s:= .ct (.ex (kh gb o q c))) hg rfl hn (fun a ρ w hI=>by
  refine ⟨kh gb o q c,fun w' _=> ?_,rfl⟩
  obtain ⟨nf,i1,i2,_⟩:=hT.inf
  have he:=elem_eq hT.und
  have hu:X.P.underlying t=some (.slice (X.P.elem t)):=by rw [he];exact hT.und
  show (do pure (Next.value (<- Instr.sliceAt t (a.eval x) (Option.map a.eval none) ((some y).map a.eval) (Option.map a.eval none))):Sem Next).run X.P w' =_
  simp only [Option.map_some,Option.map_none,hI.evx hx,hI.evx hy,hj]
  refine X9 ?_
  simp only [Instr.sliceAt,Sem.run_bind,run_underlying hT.und,Result.andThen_ok]
  rw [run_slice_h (P:=X.P) (w:=w') t _ m c hu kk q (by omega) (by omega)]
  rw [he,ZJ i1]
  simp [sliced,Addr.add]) h
theorem Yq{el n bytes gb o m c:Nat}{zv:Value}{kk:IntKind}{j:Int}(q:Nat)(hg:gd ops L g=some true)(hx:ev L x=some (.ct (.ex (kh gb o m c))))(hy:ev L y=some (.ct (.ex (.int kk j))))(hj:j=(q:Int))(hT:SlcT X.P t el n bytes zv)(h1:q<=m)(hn:Nat.blt d X.n=true)
  (h:Ops X ops r ((d, .ct (.ex (kh gb (if c=q then o else o+q*n) (m - q) (c - q))))::L) B K):Ops X ops (.cons ⟨some d, .slice t x (some y) none none,t',pos,af,g⟩ k r) L B K:=
 XW (s:= .ct (.ex (kh gb (if c=q then o else o+q*n) (m - q) (c - q)))) hg rfl hn (fun a ρ w hI=>by
  refine ⟨_,fun w' _=> ?_,rfl⟩
  obtain ⟨nf,i1,i2,_⟩:=hT.inf
  have he:=elem_eq hT.und
  have hu:X.P.underlying t=some (.slice (X.P.elem t)):=by rw [he];exact hT.und
  show (do pure (Next.value (<- Instr.sliceAt t (a.eval x) ((some y).map a.eval) (Option.map a.eval none) (Option.map a.eval none))):Sem Next).run X.P w' =_
  simp only [Option.map_some,Option.map_none,hI.evx hx,hI.evx hy,hj]
  refine X9 ?_
  simp only [Instr.sliceAt,Sem.run_bind,run_underlying hT.und,Result.andThen_ok]
  rw [run_slice_l (P:=X.P) (w:=w') t _ m c hu kk q (by omega) (by omega)]
  rw [he,ZJ i1,i2]
  simp only [sliced,Result.andThen_ok,Int.toNat_natCast]
  by_cases hc:c=q
  · simp [hc]
  · simp [hc,Yp]) h
theorem Ops.cutKlh{el n bytes gb o m c:Nat}{zv:Value}{kk kk2:IntKind}{j j2:Int}(p q:Nat)(hg:gd ops L g=some true)(hx:ev L x=some (.ct (.ex (kh gb o m c))))(hy:ev L y=some (.ct (.ex (.int kk j))))(hz:ev L z=some (.ct (.ex (.int kk2 j2))))(hj:j=(p:Int))(hj2:j2=(q:Int))(hT:SlcT X.P t el n bytes zv)(h1:p<=q)(h2:q<=c)(hn:Nat.blt d X.n=true)
  (h:Ops X ops r ((d, .ct (.ex (kh gb (if c=p then o else o+p*n) (q - p) (c - p))))::L) B K):Ops X ops (.cons ⟨some d, .slice t x (some y) (some z) none,t',pos,af,g⟩ k r) L B K:=
 XW (s:= .ct (.ex (kh gb (if c=p then o else o+p*n) (q - p) (c - p)))) hg rfl hn (fun a ρ w hI=>by
  refine ⟨_,fun w' _=> ?_,rfl⟩
  obtain ⟨nf,i1,i2,_⟩:=hT.inf
  have he:=elem_eq hT.und
  have hu:X.P.underlying t=some (.slice (X.P.elem t)):=by rw [he];exact hT.und
  show (do pure (Next.value (<- Instr.sliceAt t (a.eval x) ((some y).map a.eval) ((some z).map a.eval) (Option.map a.eval none))):Sem Next).run X.P w' =_
  simp only [Option.map_some,Option.map_none,hI.evx hx,hI.evx hy,hI.evx hz,hj,hj2]
  refine X9 ?_
  simp only [Instr.sliceAt,Sem.run_bind,run_underlying hT.und,Result.andThen_ok]
  rw [run_slice_lh (P:=X.P) (w:=w') t _ m c hu kk kk2 p q (by omega) (by omega) (by omega)]
  rw [he,ZJ i1,i2]
  simp only [sliced,Result.andThen_ok,Int.toNat_natCast]
  by_cases hc:c=p
  · simp [hc]
  · simp [hc,Yp]) h
theorem Ops.cutK3{el n bytes gb o m c:Nat}{zv:Value}{kk kk2 kk3:IntKind}{j j2 j3:Int}{u:Operand}(hg:gd ops L g=some true)(hx:ev L x=some (.ct (.ex (kh gb o m c))))(hy:ev L y=some (.ct (.ex (.int kk j))))(hz:ev L z=some (.ct (.ex (.int kk2 j2))))(hu:ev L u=some (.ct (.ex (.int kk3 j3))))(hT:SlcT X.P t el n bytes zv)(h0:0<=j)(h1:j<=j2)(h2:j2<=j3)(h3:j3<=c)(hn:Nat.blt d X.n=true)
  (h:Ops X ops r ((d, .any)::L) B K):Ops X ops (.cons ⟨some d, .slice t x (some y) (some z) (some u),t',pos,af,g⟩ k r) L B K:=
 XW (s:= .any) hg rfl hn (fun a ρ w hI=>by
  refine ⟨sliced (some ⟨gb,o,none⟩) j.toNat j2.toNat j3.toNat n,fun w' _=> ?_,trivial⟩
  obtain ⟨nf,i1,i2,_⟩:=hT.inf
  have he:=elem_eq hT.und
  have hu' :X.P.underlying t=some (.slice (X.P.elem t)):=by rw [he];exact hT.und
  show (do pure (Next.value (<- Instr.sliceAt t (a.eval x) ((some y).map a.eval) ((some z).map a.eval) ((some u).map a.eval))):Sem Next).run X.P w' =_
  simp only [Option.map_some,hI.evx hx,hI.evx hy,hI.evx hz,hI.evx hu]
  refine X9 ?_
  simp only [Instr.sliceAt,Sem.run_bind,run_underlying hT.und,Result.andThen_ok]
  rw [run_slice_lhm (P:=X.P) (w:=w') t _ m c hu' kk kk2 kk3 j j2 j3 h0 h1 h2 (by omega)]
  rw [he,ZJ i1,i2]
  rfl) h
theorem YK{el:Nat}{A:Option Addr}{m c:Nat}(hg:gd ops L g=some true)(hx:ev L x=some (.ct (.ex (.slice A m c))))(hu:X.P.underlying t=some (.slice el))(hn:Nat.blt d X.n=true)(h:Ops X ops r ((d, .ct (.ex (.int .i64 m)))::L) B K):
  Ops X ops (.cons ⟨some d, .call {callee:= .builtin .len,args:= #[x],argTypes:= #[t]},t',pos,af,g⟩ k r) L B K:=
 XW (s:= .ct (.ex (.int .i64 m))) hg rfl hn (fun a ρ w hI=>by
  refine ⟨_,fun w' _=>ZY (args:=[x]) ?_,rfl⟩
  intro cs
  simp only [List.map_cons,List.map_nil,hI.evx hx]
  exact run_lenSlice hu A m c cs w') h
theorem Ops.capKv{el:Nat}{A:Option Addr}{m c:Nat}(hg:gd ops L g=some true)(hx:ev L x=some (.ct (.ex (.slice A m c))))(hu:X.P.underlying t=some (.slice el))(hn:Nat.blt d X.n=true)(h:Ops X ops r ((d, .ct (.ex (.int .i64 c)))::L) B K):
  Ops X ops (.cons ⟨some d, .call {callee:= .builtin .cap,args:= #[x],argTypes:= #[t]},t',pos,af,g⟩ k r) L B K:=
 XW (s:= .ct (.ex (.int .i64 c))) hg rfl hn (fun a ρ w hI=>by
  refine ⟨_,fun w' _=>ZY (args:=[x]) ?_,rfl⟩
  intro _
  simp only [List.map_cons,List.map_nil,hI.evx hx]
  refine X9 ?_
  simp [Builtin.cap_,run_underlying hu,goInt]) h
theorem Is.rowK{a:Act}{ρ:Nat ->Value}{w:World}(hI:Is X L B a ρ w){i gb m c el n:Nat}{cs:List CT}(hi:bget B i=some (.rowx (kh gb 0 m c) el n cs))(hl:cs.length=m*n)(hp:0<n):
  ρ i=kh gb 0 m c/\ ∃(vs:List Value) (cur:Array Value),cells (Sof X B ρ) w cs vs/\ vs.length=m*n/\ w.heap[gb]? =some (.cells cur el (0,0))/\ m<=c/\ c<=maxLen/\ cur.size=c*n/\ cur.toList.take (m*n)=vs:=by
 obtain ⟨hρ,m',vs,how,hc⟩:=(hI.ent i _ hi).1;have hlv:=hc.length;have h1:=how.1;rw [hlv,hl] at h1;have hmm:m=m' :=Nat.eq_of_mul_eq_mul_right hp h1;subst hmm;rcases how.2 with ⟨h2,_⟩|⟨gb',cap,cur,h2,_,hg,hnc,hcm,hcz,htk⟩
 · have h3:=hρ.symm.trans h2;cases h3
 · have h3:=hρ.symm.trans h2
   injection h3 with e1 e2 e3
   injection e1 with e1
   injection e1 with e1
   subst e1;subst e3;exact ⟨hρ,vs,cur,hc,by rw [hlv,hl],hg,hnc,hcm,hcz,htk⟩
theorem Ops.appIn{el n bytes gb m c oy q cq:Nat}{zv:Value}{cs:List CT}(e i j:Nat)(cs' :List CT)(hg:gd ops L g=some true)(hx:ev L x=some (.ct (.ex (kh gb 0 i c))))(hy:ev L y=some (.ct (.ex (kh gb oy q cq))))(hoy:q=0 \/oy=j*n)(hi:bget B e=some (.rowx (kh gb 0 m c) el n cs))(hl:cs.length=m*n)
  (h1:i+q<=m) (h2:j+q<=m) (hT:SlcT X.P t el n bytes zv) (ho:ones cs=true) (hcs:cs' =cs.take (i*n)++(cs.drop (j*n)).take (q*n)) (hn:Nat.blt d X.n=true)
  (h:Ops X ops r ((d, .ct (.ex (kh gb 0 (i+q) c)))::killL e L) (bset B e (.rowx (kh gb 0 (i+q) c) el n cs')) K):Ops X ops (.cons ⟨some d, .call {callee:= .builtin .append,args:= #[x,y],argTypes:= #[t,t]},t',pos,af,g⟩ .any r) L B K:=fun a ρ w hI=>by
 show wpO _ _ _ _ _ _
 unfold wpO
 rw [if_pos (Z3 (o:=⟨some d,_,t',pos,af,g⟩) hI hg)]
 obtain ⟨hρ,vs,cur,hc,hlv,hgb,hmc,hcm,hcz,htk⟩:=hI.rowK hi hl hT.pos
 obtain ⟨nf,i1,i2,i3,i4⟩:=hT.inf
 have hmn:(i+q)*n<=m*n:=Nat.mul_le_mul_right _ h1
 have hjn:(j+q)*n<=m*n:=Nat.mul_le_mul_right _ h2
 have hcn:m*n<=c*n:=Nat.mul_le_mul_right _ hmc
 rw [Nat.add_mul] at hmn hjn
 have hcl:cur.toList.length=c*n:=by simpa using hcz
 have hnl:((vs.drop (j*n)).take (q*n)).length=q*n:=by rw [List.length_take,List.length_drop,hlv];omega
 have hone:∀u∈(vs.drop (j*n)).take (q*n),u.oneCell' =true:=fun u hu=>ones_cells ho hc u (List.mem_of_mem_drop (List.mem_of_mem_take hu))
 have hnews:∀p u,((vs.drop (j*n)).take (q*n))[p]? =some u ->w.cell? ((⟨gb,oy,none⟩:Addr).add p)=some u:=fun p u hu=>by
  rcases hoy with h0|h0
  · have h9:(vs.drop (j*n)).take (q*n)=[]:=List.eq_nil_of_length_eq_zero (by rw [hnl,h0,Nat.zero_mul])
    rw [h9] at hu;simp at hu
  · rw [h0]
    exact take_cells (by rw [hlv];exact htk) hgb p u hu
 generalize hN:(vs.drop (j*n)).take (q*n)=news at*
 have hrun:=run_append_room (P:=X.P) w t t' el nf hT.und i1 gb i c cur hgb ⟨gb,oy,none⟩ q cq news (by rw [i2];exact hnl) hnews hone (by omega) (by rw [i2,hnl,<- Array.length_toList,hcl];omega)
 rw [i2] at hrun
 unfold Oper.wp
 rw [show (execOp a.eval ⟨some d, .call {callee:= .builtin .append,args:= #[x,y],argTypes:= #[t,t]},t',pos,af,g⟩).run X.P w= .ok (.value (kh gb 0 (i+q) c)) (w.setRow gb (cur.toList.take (i*n)++news++cur.toList.drop (i*n+news.length)).toArray) from
  ZY (args:=[x,y]) (fun _=>by simp only [List.map_cons,List.map_nil,hI.evx hx,hI.evx hy];exact X9 hrun)]
 show wpX _ _ _ _ (a.put (some d) _) _
 have hvt:vs.take (i*n)=cur.toList.take (i*n):=by rw [<- htk,List.take_take,Nat.min_eq_left (by omega)]
 have hcc:cells (Sof X B ρ) w cs' (vs.take (i*n)++news):=by rw [hcs];exact (hc.take _).append (by rw [<- hN];exact (hc.drop _).take _)
 have hW:=Is.write (i:=e) (v:=kh gb 0 (i+q) c) (e' := .rowx (kh gb 0 (i+q) c) el n cs') (w' :=w.setRow gb (cur.toList.take (i*n)++news++cur.toList.drop (i*n+news.length)).toArray) (hI.killL e) hi rfl rfl rfl (by simp)
  (fun p hp hne=>setRow_other _ _ _ _ (fun e=>hne (by rw [e,hρ];rfl))) (.inl (by rw [hρ];rfl))
  (fun S' hk=>⟨rfl,i+q,vs.take (i*n)++news,⟨by rw [List.length_append,List.length_take,hnl,hlv,Nat.add_mul];omega, .inr ⟨gb,c,_,rfl,Nat.zero_le _,setRow_heap w gb cur _ el _ hgb,by omega,hcm,by
   simp only [List.size_toArray,List.length_append,List.length_take,List.length_drop,hnl,hcl];omega,by
   rw [List.append_assoc,<- List.append_assoc,hvt]
   have:(cur.toList.take (i*n)++news).length=(i+q)*n:=by rw [List.length_append,List.length_take,hnl,hcl,Nat.add_mul];omega
   rw [<- this];exact List.take_left⟩⟩,hcc.mono hk⟩) (.inr (noN_killL e L)) (.inr rfl)
 exact h _ _ _ ((hW.bext (Xi hi)).put (s:= .ct (.ex _)) (Xp hn) rfl)
theorem Ops.clearK{el n bytes gb m c oy q cq:Nat}{zv:Value}{cs:List CT}(e:Nat)(hg:gd ops L g=some true)(hx:ev L x=some (.ct (.ex (kh gb oy q cq))))(hoy:q=0 \/oy=m*n)(hi:bget B e=some (.rowx (kh gb 0 m c) el n cs))(hl:cs.length=m*n)(h1:m+q<=c)(hT:SlcT X.P t el n bytes zv)(hz1:∀v∈zv.cells.toList,v.oneCell' =true)
  (h:Ops X ops r L (bset B e (.rowx (kh gb 0 m c) el n cs)) K):Ops X ops (.cons ⟨none, .call {callee:= .builtin .clear,args:= #[x],argTypes:= #[t]},t',pos,af,g⟩ .any r) L B K:=fun a ρ w hI=>by
 show wpO _ _ _ _ _ _
 unfold wpO
 rw [if_pos (Z3 (o:=⟨none,_,t',pos,af,g⟩) hI hg)]
 obtain ⟨hρ,vs,cur,hc,hlv,hgb,hmc,hcm,hcz,htk⟩:=hI.rowK hi hl hT.pos
 obtain ⟨nf,i1,i2,i3,i4⟩:=hT.inf
 have hcn:(m+q)*n<=c*n:=Nat.mul_le_mul_right _ h1
 rw [Nat.add_mul] at hcn
 have hcl:cur.toList.length=c*n:=by simpa using hcz
 have hzl:(Builtin.zeroCells zv.cells q).toList.length=q*n:=by rw [Array.length_toList,size_zeroCells,hT.zs]
 have hone:∀u∈(Builtin.zeroCells zv.cells q).toList,u.oneCell' =true:=fun u hu=>by
  rw [zero_flat] at hu
  obtain ⟨l,hl,hu⟩:=List.mem_flatten.1 hu
  rw [List.eq_of_mem_replicate hl] at hu
  exact hz1 u hu
 have hrun:∃cur' :Array Value,(Builtin.clear_ #[t] t' #[kh gb oy q cq]).run X.P w= .ok (.tuple #[]) (w.setRow gb cur')/\ cur'.size=c*n/\ cur'.toList.take (m*n)=vs:=by
  rcases Nat.eq_zero_or_pos q with h0|h0
  · subst h0;refine ⟨cur,?_,hcz,htk⟩;rw [setRow_self w gb cur el (0,0) hgb];simp [Builtin.clear_,run_underlying hT.und]
  · have hoy' :oy=m*n:=by omega
    subst hoy';have hst:=run_storeCells_at (P:=X.P) gb (m*n) el (Builtin.zeroCells zv.cells q).toList 0 cur w hgb (by rw [hzl,<- Array.length_toList,hcl];omega) hone;simp only [Nat.add_zero] at hst;refine ⟨(cur.toList.take (m*n)++(Builtin.zeroCells zv.cells q).toList++cur.toList.drop (m*n+(Builtin.zeroCells zv.cells q).toList.length)).toArray,?_,?_,?_⟩;rotate_left
    · show (cur.toList.take (m*n)++(Builtin.zeroCells zv.cells q).toList++cur.toList.drop (m*n+(Builtin.zeroCells zv.cells q).toList.length)).toArray.size=_;simp only [List.size_toArray,List.length_append,List.length_take,List.length_drop,hzl,hcl];omega
    · show ((cur.toList.take (m*n)++(Builtin.zeroCells zv.cells q).toList++cur.toList.drop (m*n+(Builtin.zeroCells zv.cells q).toList.length)).toArray.toList).take (m*n)=_;rw [List.append_assoc,htk,<- hlv];exact List.take_left
    · obtain ⟨q',rfl⟩:∃q',q=q' +1:=⟨q - 1,by omega⟩;have hz:(zeroValue el).run X.P w= .ok zv w:=ZK (by rw [i1];simp [i4]) w;simp only [Builtin.clear_,List.getElem?_toArray,List.getElem?_cons_zero,Sem.run_bind,Sem.run_pure,Result.andThen_ok,run_underlying hT.und,hz,hst]
 obtain ⟨cur',hrun,hs1,hs2⟩:=hrun;unfold Oper.wp
 rw [show (execOp a.eval ⟨none, .call {callee:= .builtin .clear,args:= #[x],argTypes:= #[t]},t',pos,af,g⟩).run X.P w= .ok (.value (.tuple #[])) (w.setRow gb cur') from
  ZY (args:=[x]) (fun _=>by simp only [List.map_cons,List.map_nil,hI.evx hx];exact X9 hrun)]
 show wpX _ _ _ _ (a.put none _) _;rw [put_none]
 have hW:=Is.write (i:=e) (v:=ρ e) (e' := .rowx (kh gb 0 m c) el n cs) (w' :=w.setRow gb cur') hI hi J J J (by simp)
  (fun p hp hne=>setRow_other _ _ _ _ (fun e=>hne (by rw [e,hρ];rfl))) (.inl J)
  (fun S' hk=>⟨hρ,m,vs,⟨hlv, .inr ⟨gb,c,cur',hρ,Nat.zero_le _,setRow_heap w gb cur _ el _ hgb,hmc,hcm,hs1,hs2⟩⟩,hc.mono hk⟩) (.inl J) (.inr J)
 exact h _ _ _ (hW.bext (Xi hi))
end
section
variable {X : Ctx} {L : AL} {B : BL} {ops : Array Oper} {K : Act → World → Prop} {r : Pl} {k : Kd}
  {x y z : Operand} {d : Nat} {t t2 t' : TypeId} {pos : String} {af : Array Edge} {g : Option (Nat × Bool)}
theorem run_append_grow_zeros{P:Program}(w:World)(t tn ty e:TypeId)(i:TypeInfo)(z:Value)(k kn:IntKind)(ht:P.underlying t=some (.slice e))(htn:P.underlying tn=some (.int kn))(hi:P.info? e=some i)(hz:i.zero=some z)
  (b:Addr) (sLen sCap:Nat) (olds:List Value) (hlo:olds.length=sLen*i.size) (holds:∀j v,olds[j]? =some v ->w.cell? (b.add j)=some v)
  (n:Nat) (h0:0<n) (hs:0<i.size) (hg:sCap<sLen+n) (h63:((sLen+n:Nat):Int)<=9223372036854775807) (h48:n*i.bytes<=281474976710656) (hfit:Builtin.nextslicecap (sLen+n) sCap*i.bytes<=281474976710656):
  (Builtin.append_ #[t,tn] ty #[.slice (some b) sLen sCap, .int k n]).run P w=
   .ok (.slice (some ⟨w.heap.size,0,none⟩) (sLen+n) (grownCap w (sLen+n) sCap e)) (w.drew.alloc (.cells (olds.toArray++Builtin.zeroCells z.cells n++Builtin.zeroCells z.cells (grownCap w (sLen+n) sCap e - (sLen+n))) e)):=by
 have hw:IntKind.i64.wrap (n:Int)=n:=by rw [IntKind.wrap_i64];omega
 have hn:¬(sLen+n<=sCap):=by omega
 have h63' :¬(9223372036854775807<((sLen:Int)+(n:Int))):=by omega
 have h48' :¬(281474976710656<Builtin.nextslicecap (sLen+n) sCap*i.bytes):=by omega
 have h48i:¬(281474976710656<(n:Int)*(i.bytes:Int)):=by
  rw [<- Int.natCast_mul];omega
 have hneg:¬((n:Int)<0):=by omega
 have hns:¬(n*i.size=0):=Nat.mul_ne_zero (by omega) (by omega);have hfo:=run_firstCells_some (P:=P) w.drew i.size sLen b sLen sCap olds hlo (by simpa using holds);simp [Builtin.append_,run_underlying ht,run_underlying htn,sizeOf,typeInfo,zeroValue,hi,hz,asInt,asIntOf,hw,hn,hneg,hns,h63',h48',h48i,Question.forced,hfo,newRow,grownCap]
theorem Ops.appZK{el n bytes gb m c i tn:Nat}{zv:Value}{kk:IntKind}{j:Int}{cs:List CT}(e b q:Nat)(hg:gd ops L g=some true)(hx:ev L x=some (.ct (.ex (kh gb 0 i c))))(hy:ev L y=some (.ct (.ex (.int .i64 j))))(hj:j=(q:Int))(hi:bget B e=some (.rowx (kh gb 0 m c) el n cs))(hl:cs.length=m*n)
  (him:i<=m) (hq:0<q) (hc:c<i+q) (hT:SlcT X.P t el n bytes zv) (htn:X.P.underlying tn=some (.int kk)) (hb:(i+q)*bytes<=140737488355328) (hmx:i+q<=140737488355328) (hN:noN b L=true) (hB:bget B b=none) (hn:Nat.blt d X.n=true)
  (h:Ops X ops r ((d, .own b)::L) ((b, .row el n (cs.take (i*n)++zinit zv q))::B) K):Ops X ops (.cons ⟨some d, .call {callee:= .builtin .append,args:= #[x,y],argTypes:= #[t,tn]},t',pos,af,g⟩ .any r) L B K:=
 Ops.mkE (k:= .any) rfl hg rfl hn hN hB (fun a ρ w hI=>by
  obtain ⟨hρ,vs,cur,hcl,hlv,hgb,hmc,hcm,hcz,htk⟩:=hI.rowK hi hl hT.pos
  obtain ⟨nf,i1,i2,i3,i4⟩:=hT.inf
  have hin:i*n<=m*n:=Nat.mul_le_mul_right _ him
  have hbq:q*bytes<=(i+q)*bytes:=Nat.mul_le_mul_right _ (by omega)
  have hol:(vs.take (i*n)).length=i*n:=by rw [List.length_take,hlv];omega
  have holds:∀p u,(vs.take (i*n))[p]? =some u ->w.cell? ((⟨gb,0,none⟩:Addr).add p)=some u:=fun p u hu=>by
   have:=take_cells (vs:=vs) (q:=i*n) (o:=0) (by rw [hlv];exact htk) hgb p u (by simpa using hu)
   exact this
  have hr:=run_append_grow_zeros (P:=X.P) w t tn t' el nf zv .i64 kk hT.und htn i1 i4 ⟨gb,0,none⟩ i c (vs.take (i*n)) (by rw [i2];exact hol) holds q hq (by rw [i2];exact hT.pos) hc (by omega) (by rw [i3];omega) (by rw [i3];exact growslice_fits hc hb)
  refine ⟨_,_,ZY (args:=[x,y]) (fun _=>by
   simp only [List.map_cons,List.map_nil,hI.evx hx,hI.evx hy,hj]
   exact X9 hr),((Below.refl _ _).drew).alloc (Nat.le_refl _) _,fun g hg=> ?_,fun S' hk=>⟨i+q,vs.take (i*n)++(List.replicate q zv.cells.toList).flatten,?_,?_⟩⟩
  · injection hg with hg;subst hg;exact Nat.le_refl _
  · have hge:=grownCap_ge w (i+q) c el
    have hlen:∀q,(List.replicate q zv.cells.toList).flatten.length=q*n:=fun q=>by
     rw [Xe (k:=n) (fun e he=>by rw [List.eq_of_mem_replicate he];simpa using hT.zs)];simp
    refine ⟨by rw [List.length_append,hol,hlen,Nat.add_mul], .inr ⟨w.heap.size,grownCap w (i+q) c el,_,rfl,Nat.zero_le _,heap_alloc_new w.drew _,hge,grownCap_le_maxLen w (i+q) c el (by simp only [maxLen];omega),?_,?_⟩⟩
    · rw [<- Array.length_toList,Array.toList_append,Array.toList_append,zero_flat,zero_flat,List.length_append,List.length_append,hlen,hlen,List.toList_toArray,hol,<- Nat.add_mul,<- Nat.add_mul];congr 1;omega
    · rw [Array.toList_append,Array.toList_append,zero_flat,List.toList_toArray]
      have:(vs.take (i*n)++(List.replicate q zv.cells.toList).flatten).length=(i+q)*n:=by rw [List.length_append,hol,hlen,Nat.add_mul]
      rw [<- this];exact List.take_left
  · have h1:=(hcl.take (i*n)).append (Zn (S:=Sof X B ρ) (w:=w) (List.replicate q zv.cells.toList).flatten)
    rw [Yi]
    exact h1.mono hk) h
theorem Ops.copyG{el n bytes gb m c o dl dc:Nat}{zv:Value}{cs:List CT}(e lo q:Nat)(ds cs' :List CT)(hg:gd ops L g=some true)(hx:ev L x=some (.ct (.ex (kh gb o dl dc))))(ho:o=lo*n)(hi:bget B e=some (.rowx (kh gb 0 m c) el n cs))(hl:cs.length=m*n)(hq:q<=dl)(hlo:lo+q<=m)(hT:SlcT X.P t el n bytes zv)
  (hy:∀a ρ w,Is X L B a ρ w ->∃A cc us,a.eval y= .slice (some A) q cc/\ us.length=q*n/\ cells (Sof X B ρ) w ds us/\ ∀j u,us[j]? =some u ->w.cell? (A.add j)=some u) (hone:ones ds=true) (hcs:cs' =spl cs (lo*n) ds) (hn:Nat.blt d X.n=true)
  (h:Ops X ops r ((d, .any)::L) (bset B e (.rowx (kh gb 0 m c) el n cs')) K):Ops X ops (.cons ⟨some d, .call {callee:= .builtin .copy,args:= #[x,y],argTypes:= #[t,t2]},t',pos,af,g⟩ .any r) L B K:=fun a ρ w hI=>by
 show wpO _ _ _ _ _ _
 unfold wpO
 rw [if_pos (Z3 (o:=⟨some d,_,t',pos,af,g⟩) hI hg)]
 obtain ⟨hρ,vs,cur,hc,hlv,hgb,hmc,hcm,hcz,htk⟩:=hI.rowK hi hl hT.pos
 obtain ⟨nf,i1,i2,i3,i4⟩:=hT.inf
 obtain ⟨A,cc,us,hA,hul,huc,hum⟩:=hy a ρ w hI
 have hcl:cur.toList.length=c*n:=by simpa using hcz
 have hmn:(lo+q)*n<=m*n:=Nat.mul_le_mul_right _ hlo
 have hcn:m*n<=c*n:=Nat.mul_le_mul_right _ hmc
 rw [Nat.add_mul] at hmn
 have hds:ds.length=q*n:=by rw [<- huc.length,hul]
 have hones:∀u∈us,u.oneCell' =true:=ones_cells hone huc
 have hload:(loadCells A (q*n)).run X.P w= .ok us.toArray w:=by
  have:=run_loadCells_list (P:=X.P) w A us hum
  rwa [hul] at this
 have hstore:(storeCells ⟨gb,lo*n,none⟩ us).run X.P w= .ok () (w.setRow gb (cur.toList.take (lo*n)++us++cur.toList.drop (lo*n+us.length)).toArray):=by
  have:=run_storeCells_at (P:=X.P) gb (lo*n) el us 0 cur w hgb (by rw [hul,<- Array.length_toList,hcl];omega) hones
  simpa using this
 have hrun:(execOp a.eval ⟨some d, .call {callee:= .builtin .copy,args:= #[x,y],argTypes:= #[t,t2]},t',pos,af,g⟩).run X.P w= .ok (.value (goInt q)) (w.setRow gb (cur.toList.take (lo*n)++us++cur.toList.drop (lo*n+us.length)).toArray):=
  ZY (args:=[x,y]) (fun _=>by
   simp only [List.map_cons,List.map_nil,hI.evx hx,hA]
   refine X9 ?_
   have hmin:Nat.min q dl=q:=Nat.min_eq_left hq
   simp [Builtin.copy_,run_underlying hT.und,Builtin.lenOf,hmin,ZJ i1,i2,Builtin.firstCells,hload,hstore,ho])
 unfold Oper.wp;rw [hrun];show wpX _ _ _ _ (a.put (some d) (goInt q)) _
 have hW:=Is.write (i:=e) (v:=ρ e) (e' :=(Ent.rowx (kh gb 0 m c) el n cs).putc (lo*n) ds) (w' :=w.setRow gb (cur.toList.take (lo*n)++us++cur.toList.drop (lo*n+us.length)).toArray) hI hi J J J (by simp)
  (fun p hp hne=>setRow_other _ _ _ _ (fun e=>hne (by rw [e,hρ];rfl))) (.inl J) (fun S' hk=>Ent.put_ok (hI.ent e _ hi).1 (by rw [hρ];rfl) hgb huc (by rw [hds];show _<=cs.length;rw [hl];omega) hk) (.inl J) (.inr J)
 have hpc:(Ent.rowx (kh gb 0 m c) el n cs).putc (lo*n) ds= .rowx (kh gb 0 m c) el n cs' :=by rw [hcs];rfl
 rw [hpc] at hW;exact h _ _ _ ((hW.bext (Xi hi)).put (s:= .any) (Xp hn) trivial)
theorem src_fr{n:Nat}{es:List (List CT)}(hy:ev L y=some (.ct (.fr (sliceT n es))))(hne:es≠ []):∀a ρ w,Is X L B a ρ w ->∃A cc us,a.eval y= .slice (some A) es.length cc/\ us.length=es.length*n/\ cells (Sof X B ρ) w es.flatten us/\ ∀j u,us[j]? =some u ->w.cell? (A.add j)=some u:=fun a ρ w hI=>by
 obtain ⟨A,c,h1,h2,h3,h4,h5⟩:=hI.ev hy
 obtain ⟨b,o,rfl,hS,hb,us,hc,hm⟩:=h5 hne
 exact ⟨_,c,us,h1,by rw [hc.length,Xe h4],hc,fun j u hu=>by rw [Yp];exact hm j u hu⟩
theorem src_kh{gb m c o q qc el n bytes tt:Nat}{zv:Value}{cs:List CT}(e lo:Nat)(hy:ev L y=some (.ct (.ex (kh gb o q qc))))(ho:o=lo*n)(hi:bget B e=some (.rowx (kh gb 0 m c) el n cs))(hl:cs.length=m*n)(hlo:lo+q<=m)(hT:SlcT X.P tt el n bytes zv):
  ∀a ρ w,Is X L B a ρ w ->∃A cc us,a.eval y= .slice (some A) q cc/\ us.length=q*n/\ cells (Sof X B ρ) w ((cs.drop (lo*n)).take (q*n)) us/\ ∀j u,us[j]? =some u ->w.cell? (A.add j)=some u:=fun a ρ w hI=>by
 obtain ⟨hρ,vs,cur,hc,hlv,hgb,hmc,hcm,hcz,htk⟩:=hI.rowK hi hl hT.pos
 have hmn:(lo+q)*n<=m*n:=Nat.mul_le_mul_right _ hlo
 rw [Nat.add_mul] at hmn
 refine ⟨⟨gb,o,none⟩,qc,(vs.drop (lo*n)).take (q*n),hI.evx hy,by rw [List.length_take,List.length_drop,hlv];omega,(hc.drop _).take _,fun j u hu=> ?_⟩
 rw [ho]
 exact take_cells (by rw [hlv];exact htk) hgb j u hu
theorem Ops.callRO{f:FuncId}{args:List Operand}{tys:Array TypeId}{As:List CT}{u:Value}(i:Nat){e:Ent}(hgo:InGo X.P f)(hok:Ok X.P f As (.ex u))(hg:gd ops L g=some true)(hi:bget B i=some e)(hargs:∀a ρ w,Is X L B a ρ w ->cells (Sof X (bdel B i) ρ) w As (args.map a.eval))(hk:k.mk=true)(hn:Nat.blt d X.n=true)
  (h:Ops X ops r ((d, .ct (.ex u))::L) B K):Ops X ops (.cons ⟨some d, .call {callee:= .value (.func f),args:=args.toArray,argTypes:=tys},t,pos,af,g⟩ k r) L B K:=fun a ρ w hI=>by
 refine wpX_makes k hk ?_
 unfold wpO
 rw [if_pos (Z3 (o:=⟨some d,_,t,pos,af,g⟩) hI hg)]
 unfold Oper.wp
 have hrun:(execOp a.eval ⟨some d, .call {callee:= .value (.func f),args:=args.toArray,argTypes:=tys},t,pos,af,g⟩).run X.P w= .ok (.enter f (args.map a.eval).toArray) w:=by
  show (do let D <- resolve a.eval {callee:= .value (.func f),args:=args.toArray,argTypes:=tys} t;invoke D.target D.args:Sem Next).run X.P w=_;have hf:a.eval (.func f)= .func (.func f) #[] #[]:=rfl;simp only [resolve,hf,Deferred.ofValue,Sem.run_bind,Sem.run_pure,Result.andThen_ok,invoke];rw [hgo]
  congr 2
  simp
 rw [hrun]
 have hfr:∀k,w.heap.size<=k ->Sof X (bdel B i) ρ k:=fun k hk=>⟨(hI.freshS k hk).1,fun j e' hj=>by
  by_cases hji:j=i
  · subst hji;rw [Za] at hj;cases hj
  · rw [XU _ hji] at hj;exact (hI.freshS k hk).2 j e' hj⟩
 refine Calls.mono (hok (Sof X (bdel B i) ρ) w _ hfr (hargs a ρ w hI)) ?_
 rintro e w' ⟨v,rfl,hv,hb⟩
 exact ⟨hb,h _ ρ w' ((hI.below hb).put (s:= .ct (.ex u)) (Xp hn) hv)⟩
theorem Is.readX{a:Act}{ρ:Nat ->Value}{w:World}(hI:Is X L B a ρ w){i el n:Nat}{v:Value}{es:List (List CT)}(hi:bget B i=some (.rowx v el n es.flatten))(hk:∀e∈es,e.length=n)(hp:0<n)(hbor:∀gb,X.bor gb ->X.S0 gb):(CT.fr (sliceT n es)).p (Sof X (bdel B i) ρ) w v:=by
 have h:=(hI.ent i _ hi).1;have:=hI.frozen_val (e2:= .row el n es.flatten) (T:= .fr (sliceT n es)) hi ⟨es,rfl,hk,hp,rfl⟩ h.2 (fun g _ hb=>hbor g hb);rw [h.1] at this;exact this
theorem Is.readK{a:Act}{ρ:Nat ->Value}{w:World}(hI:Is X L B a ρ w){i el n gb m c:Nat}{es:List (List CT)}(q:Nat)(hi:bget B i=some (.rowx (kh gb 0 m c) el n es.flatten))(hm:es.length=m)(hk:∀e∈es,e.length=n)(hp:0<n)(hq:q<=m)(hm0:0<m)(hbor:∀gb,X.bor gb ->X.S0 gb):(CT.fr (sliceT n (es.take q))).p (Sof X (bdel B i) ρ) w (kh gb 0 q c):=by
 obtain ⟨A,cc,h1,h2,h3,h4,h5⟩:=hI.readX hi hk hp hbor
 injection h1 with e1 e2 e3
 subst e3;obtain ⟨b,o,h6,h7⟩:=h5 (fun h=>by rw [h] at hm;simp at hm;omega);rw [h6] at e1
 injection e1 with e1
 injection e1 with e1 e4
 subst e1;subst e4;refine ⟨some ⟨gb,0,none⟩,c,by rw [List.length_take,Nat.min_eq_left (by omega)],by rw [List.length_take];omega,h3,fun e he=>hk e (List.mem_of_mem_take he),fun _=>⟨gb,0,rfl,?_⟩⟩;have:=cut_memAt h7 hk 0 q
 simpa using this
def Sl.ren (a : Nat) : Sl → Sl
  | .own _ => .own a
  | s => s
theorem OkM.nm {P : Program} {f : FuncId} {As : List CT} {e : Ent} {α : Type} {J : α → Prop} {R : α → Sl} {k : Nat} {e' : α → Ent} (a : Nat) (h : OkM P f (As.map Sl.ct) [(0, e)] [] J R (fun q => [(k, e' q)])) (hR : ∀ q, J q → (∃ c, R q = .ct c) ∨ R q = .own k) :
    OkM P f (As.map Sl.ct) [(a, e)] [] J (fun q => (R q).ren a) (fun q => [(a, e' q)]) := by
  intro S w ρ vs hS hSe hH hsl
  have g1 : ∀ {α' : Type} (c : Nat) (x : Ent) (i : Nat) (y : Ent), bget [(c, x)] i = some y ↔ i = c ∧ y = x := fun c x i y => by
    by_cases hc : c = i
    · subst hc; rw [QU]; constructor
      · intro h; injection h with h; exact ⟨rfl, h.symm⟩
      · rintro ⟨_, rfl⟩; rfl
    · rw [QX _ _ hc]; constructor
      · intro h; cases h
      · rintro ⟨h, _⟩; exact absurd h.symm hc
  have g := @g1 Unit
  have hSn : Sn S [(0, e)] (fun _ => ρ a) = Sn S [(a, e)] ρ := by
    funext k
    refine propext ⟨fun h => ⟨h.1, fun i x hi => ?_⟩, fun h => ⟨h.1, fun i x hi => ?_⟩⟩
    · obtain ⟨rfl, rfl⟩ := (g a e i x).1 hi; exact h.2 0 _ ((g 0 _ 0 _).2 ⟨rfl, rfl⟩)
    · obtain ⟨rfl, rfl⟩ := (g 0 e i x).1 hi; exact h.2 a _ ((g a _ a _).2 ⟨rfl, rfl⟩)
  have hslots : ∀ (As : List CT) (vs : List Value) (ρ' : Nat → Value), slots (Sn S [(a, e)] ρ) ρ w (As.map Sl.ct) vs → slots (Sn S [(a, e)] ρ) ρ' w (As.map Sl.ct) vs := by
    intro As
    induction As with
    | nil =>
      intro vs ρ' h
      cases vs with
      | nil => trivial
      | cons v vs => exact h.elim
    | cons c As ih =>
      intro vs ρ' h
      cases vs with
      | nil => exact h.elim
      | cons v vs => exact ⟨h.1, ih vs ρ' h.2⟩
  refine Calls.mono (h S w (fun _ => ρ a) vs hS (fun i x hi gb hgb => hSe a e ((g a _ a _).2 ⟨rfl, rfl⟩) gb hgb) ⟨fun i x hi => ?_, fun i j x x' hi hj hij => ?_⟩ (by rw [hSn]; exact hslots As vs _ hsl)) ?_
  · obtain ⟨rfl, rfl⟩ := (g 0 e i x).1 hi; rw [hSn]; exact hH.ent a _ ((g a _ a _).2 ⟨rfl, rfl⟩)
  · obtain ⟨rfl, rfl⟩ := (g 0 e i x).1 hi; obtain ⟨rfl, rfl⟩ := (g 0 _ j x').1 hj; exact absurd Y hij
  · rintro en w' ⟨v, q, ρ', rfl, hJ, hv, hH', hfx, hnew, hF⟩
    have hSn2 : Sn S [(a, e' q)] (fun _ => ρ' k) = Sn S [(k, e' q)] ρ' := by
      funext b
      refine propext ⟨fun h => ⟨h.1, fun i x hi => ?_⟩, fun h => ⟨h.1, fun i x hi => ?_⟩⟩
      · obtain ⟨rfl, rfl⟩ := (g k _ i x).1 hi; exact h.2 a _ ((g a _ a _).2 ⟨rfl, rfl⟩)
      · obtain ⟨rfl, rfl⟩ := (g a _ i x).1 hi; exact h.2 k _ ((g k _ k _).2 ⟨rfl, rfl⟩)
    refine ⟨v, q, fun _ => ρ' k, rfl, hJ, ?_, ⟨fun i x hi => ?_, fun i j x x' hi hj hij => ?_⟩, fun i hi => absurd hi (by simp), fun i x hi gb hgb => ?_, ?_⟩
    · show Sl.p (Sn S [(a, e' q)] (fun _ => ρ' k)) (fun _ => ρ' k) w' ((R q).ren a) v; rw [hSn2]; rcases hR q hJ with ⟨c, hc⟩ | hc
      · rw [hc] at hv ⊢; exact hv
      · rw [hc] at hv ⊢; exact hv
    · obtain ⟨rfl, rfl⟩ := (g a _ i x).1 hi; rw [hSn2]; exact hH'.ent k _ ((g k _ k _).2 ⟨rfl, rfl⟩)
    · obtain ⟨rfl, rfl⟩ := (g a _ i x).1 hi; obtain ⟨rfl, rfl⟩ := (g _ _ j x').1 hj; exact absurd Y hij
    · obtain ⟨rfl, rfl⟩ := (g a _ i x).1 hi; rcases hnew k _ ((g k _ k _).2 ⟨rfl, rfl⟩) gb hgb with h1 | ⟨j, f', h1, h2⟩
      · exact .inl h1
      · exact .inr ⟨i, e, (g i _ i _).2 ⟨rfl, rfl⟩, h2⟩
    · have hb : (fun kk => ∃ j f', bget [(0, e)] j = some f' ∧ blk ((fun _ => ρ a) j) = some kk) = fun kk => ∃ j f', bget [(a, e)] j = some f' ∧ blk (ρ j) = some kk := by
        funext kk
        refine propext ⟨fun ⟨j, f', h1, h2⟩ => ⟨a, e, (g a _ a _).2 ⟨rfl, rfl⟩, h2⟩, fun ⟨j, f', h1, h2⟩ => ?_⟩; obtain ⟨rfl, rfl⟩ := (g a _ j f').1 h1; exact ⟨0, _, (g 0 _ 0 _).2 ⟨rfl, rfl⟩, h2⟩
      rw [hb] at hF; exact hF
theorem St.factI{c:Code}{Q:Exit ->Act ->World ->Prop}(p:Prop)(hp:∀a ρ w,Is X L B a ρ w ->p)(h:p ->St X L B c Q):St X L B c Q:=fun a ρ w hI=>h (hp a ρ w hI) a ρ w hI
def notN (a j : Nat) : Bool := !Nat.beq a j
theorem Ops.call1{f:FuncId}{args:List Operand}{tys:Array TypeId}{As:List CT}{e:Ent}{α:Type}{J:α ->Prop}{R:α ->Sl}{e' :α ->Ent}(a:Nat)(hgo:InGo X.P f)(hok:OkM X.P f (As.map Sl.ct) [(a,e)] [] J R (fun q=>[(a,e' q)]))(hg:gd ops L g=some true)(hargs:evS L args=some (As.map Sl.ct))(hn:Nat.blt d X.n=true)
  (hbor:∀gb,X.bor gb ->X.S0 gb) (hi:bget B a=some e) (hfix:∀p∈X.fix,p.1≠a/\ (bget B p.1).isSome=true) (hR:∀q j,(R q= .own j \/∃o,R q= .loc j o) ->j=a)
  (h:∀q,J q ->Ops X ops r ((d,R q)::keepL (notN a) L) ((a,e' q)::bdel B a) K):Ops X ops (.cons ⟨some d, .call {callee:= .value (.func f),args:=args.toArray,argTypes:=tys},t,pos,af,g⟩ .any r) L B K:=by
 refine Ops.callM (bdel B a) (notN a) hgo hok hg hargs hn hbor (fun j=> ?_) (fun j hj=> ?_) (fun j hj=> ?_) (fun p hp=> ?_) (fun q j hq=> ?_) h
 · show _=bget ((a,e)::bdel B a) j;by_cases hja:a=j
   · subst hja;rw [QU];exact hi
   · rw [QX _ _ hja,XU _ (Ne.symm hja)]
 · have hja:a≠j:=fun he=>by subst he;rw [Za] at hj;cases hj
   exact ⟨by rw [QX _ _ hja];rfl,fun q=>by rw [QX _ _ hja];rfl⟩
 · have hja:a≠j:=fun he=>by subst he;simp [notN] at hj
   exact .inr fun q=>by rw [QX _ _ hja];rfl
 · have:=hfix p hp;exact .inl (by rw [XU _ this.1];exact this.2)
 · rw [hR q j hq,QU];rfl
end
section
variable {X : Ctx} {L : AL} {B : BL} {ops : Array Oper} {K : Act → World → Prop} {r : Pl} {k : Kd}
  {x y z : Operand} {d : Nat} {t t2 t' : TypeId} {pos : String} {af : Array Edge} {g : Option (Nat × Bool)}
section
variable {α : Type} {f : α → List CT} {n : Nat}
theorem el_len(hf:∀a,(f a).length=n)(l:List α):(l.map f).flatten.length=l.length*n:=by
 rw [Xe (k:=n) (fun e he=>by obtain ⟨m,_,rfl⟩:=List.mem_map.mp he;exact hf m)];simp
theorem el_take(hf:∀a,(f a).length=n)(l:List α)(i:Nat):(l.map f).flatten.take (i*n)=((l.take i).map f).flatten:=by
 induction l generalizing i with
 |nil=>simp
 |cons c l ih=>
  cases i with
  |zero=>simp
  |succ i=>
   rw [List.map_cons,List.flatten_cons,List.take_succ_cons,List.map_cons,List.flatten_cons,List.take_append,List.take_of_length_le (by rw [hf,Nat.succ_mul];omega),<- ih]
   congr 2;rw [hf,Nat.succ_mul];omega
theorem el_drop(hf:∀a,(f a).length=n)(l:List α)(i:Nat):(l.map f).flatten.drop (i*n)=((l.drop i).map f).flatten:=by
 induction l generalizing i with
 |nil=>simp
 |cons c l ih=>
  cases i with
  |zero=>simp
  |succ i=>
   rw [List.map_cons,List.flatten_cons,List.drop_succ_cons,List.drop_append,List.drop_of_length_le (by rw [hf,Nat.succ_mul];omega),List.nil_append,<- ih]
   congr 1;rw [hf,Nat.succ_mul];omega
theorem el_get(hf:∀a,(f a).length=n){l:List α}{i:Nat}(z:α)(h:i<l.length):((l.map f).flatten.drop (i*n)).take n=f (l.getD i z):=by
 rw [el_drop hf]
 conv=>lhs;rw [<- Nat.one_mul n]
 rw [el_take hf]
 have:(l.drop i).take 1=[l.getD i z]:=by
  rw [List.getD_eq_getElem?_getD,List.getElem?_eq_getElem h,List.drop_eq_getElem_cons h];rfl
 rw [this];simp
theorem el_put(hf:∀a,(f a).length=n){l:List α}{i:Nat}(c:α)(h:i<l.length):spl (l.map f).flatten (i*n) (f c)=((l.set i c).map f).flatten:=by
 unfold spl;rw [el_take hf,hf,<- Nat.succ_mul,el_drop hf,List.set_eq_take_append_cons_drop,if_pos h];simp
theorem el_cell(hf:∀a,(f a).length=n){l:List α}{i o:Nat}(z:α)(h:i<l.length)(ho:o<n):(l.map f).flatten[i*n+o]? =(f (l.getD i z))[o]? :=by
 rw [<- el_get hf z h,List.getElem?_take,if_pos ho,List.getElem?_drop]
theorem el_put1(hf:∀a,(f a).length=n){l:List α}{i o:Nat}(z c:α){ds:List CT}(h:i<l.length)(ho:o+ds.length<=n)(hc:spl (f (l.getD i z)) o ds=f c):spl (l.map f).flatten (i*n+o) ds=((l.set i c).map f).flatten:=by
 rw [<- el_put hf c h,<- hc];have e:=el_get hf z h
 have hl:i*n+n<=(l.map f).flatten.length:=by rw [el_len hf,<- Nat.succ_mul];exact Nat.mul_le_mul_right _ h
 have hn:=hf (l.getD i z);generalize (l.map f).flatten=q at e hl;generalize f (l.getD i z)=p at e hn;unfold spl;subst e;generalize i*n=s at hl hn ⊢
 have hlen:(List.take o (List.take n (List.drop s q))++ds++List.drop (o+ds.length) (List.take n (List.drop s q))).length=n:=by simp;omega
 rw [hlen]
 have e1:q.take (s+o)=q.take s++((q.drop s).take n).take o:=by
  rw [List.take_take,Nat.min_eq_left (by omega),<- List.take_add]
 have e2:q.drop (s+o+ds.length)=((q.drop s).take n).drop (o+ds.length)++q.drop (s+n):=by
  rw [List.drop_take,List.drop_drop,<- Nat.add_assoc,show q.drop (s+n)=(q.drop (s+o+ds.length)).drop (n - (o+ds.length)) by rw [List.drop_drop];congr 1;omega,List.take_append_drop]
 rw [e1,e2];simp only [List.append_assoc]
theorem ones_append:∀a b:List CT,ones (a++b)=(ones a&&ones b)
 | [],b=>rfl
 |c::a,b=>by simp only [List.cons_append,ones,ones_append a b,Bool.and_assoc]
theorem el_ones(h:∀a,ones (f a)=true):∀l:List α,ones (l.map f).flatten=true
 | []=>rfl
 |a::l=>by rw [List.map_cons,List.flatten_cons,ones_append,h a,el_ones h l];rfl
theorem stE1{i j o el:Nat}{l:List α}{c:CT}(f:α ->List CT)(z a:α)(hf:∀a,(f a).length=n)(hg:gd ops L g=some true)(hx:ev L x=some (.loc i (j*n+o)))(hi:bget B i=some (.row el n ((l.map f).flatten)))(hy:ev L y=some (.ct c))(ho:c.one=true)(hj:j<l.length)(ho2:o<n)(hc:spl (f (l.getD j z)) o [c]=f a)(hsz:(X.P.info? t).map (·.size)=some 1)
  (h:Ops X ops r L (bset B i (.row el n (((l.set j a).map f).flatten))) K):Ops X ops (.cons ⟨none, .store t x y,t',pos,af,g⟩ .any r) L B K:=
 Ops.stG hg hx (.inl rfl) hi (one_val ho hy) hsz (by
  show j*n+o+1<=(l.map f).flatten.length
  rw [el_len hf]
  have:=Nat.mul_le_mul_right n hj
  rw [Nat.succ_mul] at this;omega) (by
  have:(Ent.row el n ((l.map f).flatten)).putc (j*n+o) [c]= .row el n (((l.set j a).map f).flatten):=by rw [<- el_put1 hf z a (ds:=[c]) hj ho2 hc];rfl
  rw [this];exact h)
theorem ldE{i j:Nat}{e:Ent}{l:List α}(f:α ->List CT)(z:α)(hf:∀a,(f a).length=n)(hk:k.rd=true)(hg:gd ops L g=some true)(hx:ev L x=some (.loc i (j*n)))(hi:bget B i=some e)(he:e.cs=(l.map f).flatten)(hj:j<l.length)(hT:LdN X.P t n)(hn:Nat.blt d X.n=true)
  (h:Ops X ops r ((d, .ct (.agg (f (l.getD j z))))::L) B K):Ops X ops (.cons ⟨some d, .load t x,t',pos,af,g⟩ k r) L B K:=
 Z5 hk hg hx hi (by rw [he,el_len hf,<- Nat.succ_mul];exact Nat.mul_le_mul_right _ hj) hT hn (by rw [he,el_get hf z hj];exact h)
end
end
section
inductive Am where
  | i (k : IntKind) (n : Int)
  | b (x : Bool)
deriving DecidableEq
def Am.v : Am → Value
  | .i k n => .int k n
  | .b x => .bool x
def Am.ty : Am → TypeDesc
  | .i k _ => .int k
  | .b _ => .bool
abbrev amC (aq : List Am) : List CT := aq.map fun a => CT.ex a.v
theorem run_part_am{P:Program}{t:TypeId}{a:Am}{cs:Array Value}{o:Nat}(h:P.underlying t=some a.ty)(hv:cs[o]? =some a.v)(w:World):(part t cs o).run P w= .ok a.v w:=by
 cases a with
 |i k n=>exact run_part_int h hv w
 |b x=>
  have h:P.underlying t=some .bool:=h;simp [part,isAgg,run_underlying h,hv]
theorem run_eqAm{P:Program}{t:TypeId}{a b:Am}(d:Nat)(w:World)(h:P.underlying t=some a.ty)(hb:a.ty=b.ty):(Op.equalIn (d+1) t a.v b.v).run P w= .ok (decide (a=b)) w:=by
 cases a with
 |i k n=>
  cases b with
  |i k' n' =>
   injection hb with hb;subst hb
   show (Op.equalIn (d+1) t (.int k n) (.int k n')).run P w=_;rw [run_equalIn_int w d t k k n n' h]
   congr 1
   by_cases hn:n=n' <;>simp [hn]
  |b x=>cases hb
 |b x=>
  cases b with
  |i k n=>cases hb
  |b y=>
   show (Op.equalIn (d+1) t (.bool x) (.bool y)).run P w=_;rw [run_equalIn_bool' w d t x y h]
   congr 1
   cases x <;>cases y <;>rfl
theorem run_eqAtoms{P:Program}(d:Nat)(xs ys:Array Value)(w:World)(rest:List Field):∀(fs:List Field) (aq bs:List Am) (s:Nat),aq.map Am.ty=bs.map Am.ty ->
  fs.map (fun f=>(f.name== "_",f.offset,P.underlying f.type))=(aq.zipIdx s).map (fun p=>(false,p.2,some p.1.ty)) ->
  (∀j a,aq[j]? =some a ->xs[s+j]? =some a.v) ->(∀j a,bs[j]? =some a ->ys[s+j]? =some a.v) ->
  (Op.eqFields (d+1) xs ys (fs++rest)).run P w=if aq=bs then (Op.eqFields (d+1) xs ys rest).run P w else .ok false w
 | [],[],[],_,_,_,_,_=>by simp
 | [],_::_,_,_,_,h,_,_=>by simp at h
 |_::_,[],_,_,_,h,_,_=>by simp at h
 | [],[],_::_,_,h,_,_,_=>by simp at h
 |_::_,_::_,[],_,h,_,_,_=>by simp at h
 |f::fs,a::aq,b::bs,s,h1,hf,hx,hy=>by
  simp only [List.map_cons,List.zipIdx_cons] at hf h1
  injection hf with hf1 hf2
  injection hf1 with hn ho
  injection ho with ho hu
  injection h1 with h1 h2
  have hx0:=hx 0 a rfl
  have hy0:=hy 0 b rfl
  rw [Nat.add_zero] at hx0 hy0
  have hne:f.name≠ "_" :=by simpa using hn
  have ih:=run_eqAtoms d xs ys w rest fs aq bs (s+1) h2 hf2 (fun j a' e=>by rw [show s+1+j=s+(j+1) by omega];exact hx (j+1) a' e) (fun j a' e=>by rw [show s+1+j=s+(j+1) by omega];exact hy (j+1) a' e)
  simp only [List.cons_append,Op.eqFields,if_pos hne,Sem.run_bind]
  rw [run_part_am hu (by rw [ho];exact hx0)]
  simp only [Result.andThen_ok]
  rw [run_part_am (a:=b) (hu.trans (by rw [h1])) (by rw [ho];exact hy0)]
  simp only [Result.andThen_ok]
  rw [run_eqAm d w hu h1]
  simp only [Result.andThen_ok]
  by_cases hab:a=b
  · subst hab
    simp only [decide_true,Bool.not_true,Bool.false_eq_true,if_false]
    rw [ih]
    by_cases h3:aq=bs <;>simp [h3]
  · simp [hab]
structure EqN (P : Program) (t ta : TypeId) (k1 k2 : List TypeDesc) : Prop where
  und : P.underlying t = some (.struct (P.fieldsOf t))
  held : P.stoodInHeld t = false
  guard : P.eqGuardType P.depth t = false
  fields : (P.fieldsOf t).toList.map (fun f => (f.name == "_", f.offset, P.underlying f.type)) = k1.zipIdx.map (fun p => (false, p.2, some p.1)) ++ [(false, k1.length, some (.struct (P.fieldsOf ta)))]
  last : ((P.fieldsOf t).toList.getLast?).map (·.type) = some ta
  unda : P.underlying ta = some (.struct (P.fieldsOf ta))
  helda : P.stoodInHeld ta = false
  size : (P.info? ta).map (·.size) = some k2.length
  fieldsa : (P.fieldsOf ta).toList.map (fun f => (f.name == "_", f.offset, P.underlying f.type)) = k2.zipIdx.map (fun p => (false, p.2, some p.1))
theorem zipIdx_ty(aq:List Am)(s:Nat):((aq.map Am.ty).zipIdx s).map (fun p=>(false,p.2,some p.1))=(aq.zipIdx s).map (fun p=>(false,p.2,some p.1.ty)):=by
 induction aq generalizing s with
 |nil=>rfl
 |cons a aq ih=>simp only [List.map_cons,List.zipIdx_cons,ih]
theorem EqN.run{P:Program}{t ta:TypeId}{k1 k2:List TypeDesc}(h:EqN P t ta k1 k2)(a1 b1 a2 b2:List Am)(e1:a1.map Am.ty=k1)(e2:b1.map Am.ty=k1)(e3:a2.map Am.ty=k2)(e4:b2.map Am.ty=k2)(w:World):
  (Op.equalIn 10000 t (.agg ((a1++a2).map Am.v).toArray) (.agg ((b1++b2).map Am.v).toArray)).run P w= .ok (decide (a1=b1/\ a2=b2)) w:=by
 rw [run_equalIn_struct w 9999 t _ _ h.und h.held]
 have hl1:a1.length=k1.length:=by rw [<- e1,List.length_map]
 have hl2:b1.length=k1.length:=by rw [<- e2,List.length_map]
 have hl3:a2.length=k2.length:=by rw [<- e3,List.length_map]
 have hl4:b2.length=k2.length:=by rw [<- e4,List.length_map]
 obtain ⟨fs,fa,hfs⟩:∃fs fa,(P.fieldsOf t).toList=fs++ [fa]:=by
  rcases List.eq_nil_or_concat (P.fieldsOf t).toList with h0|⟨fs,fa,h0⟩
  · have:=h.last;rw [h0] at this;cases this
  · exact ⟨fs,fa,by rw [h0];simp⟩
 have hF:=h.fields;rw [hfs,List.map_append] at hF;have hF2:=List.append_inj' hF J
 have hlast:fa.type=ta:=by
  have:=h.last;rw [hfs,List.getLast?_append] at this
  simpa using this
 have hfa:=hF2.2;simp only [List.map_cons,List.map_nil,List.cons.injEq,and_true,Prod.mk.injEq] at hfa;obtain ⟨hn,ho,hu⟩:=hfa
 have hne:fa.name≠ "_" :=by simpa using hn
 have gx:∀(p q:List Am) (j:Nat) (a:Am),p[j]? =some a ->((p++q).map Am.v).toArray[0+j]? =some a.v:=fun p q j a e=>by
  have hj:j<p.length:=(List.getElem?_eq_some_iff.1 e).1;rw [Nat.zero_add,List.getElem?_toArray,List.getElem?_map,List.getElem?_append_left hj,e];rfl
 rw [hfs,run_eqAtoms 9998 _ _ w [fa] fs a1 b1 0 (e1.trans e2.symm) (by rw [hF2.1,<- e1,zipIdx_ty]) (gx a1 a2) (gx b1 b2)];by_cases h1:a1=b1
 · rw [if_pos h1]
   have hpart:∀(p q:List Am),p.length=k1.length ->q.length=k2.length ->(part fa.type ((p++q).map Am.v).toArray fa.offset).run P w= .ok (.agg (q.map Am.v).toArray) w:=fun p q hp hq=>by
    have hs:(sizeOf fa.type).run P w= .ok k2.length w:=by
     rw [hlast];obtain ⟨i,hi,hs⟩:=Option.map_eq_some_iff.1 h.size;simp [sizeOf,typeInfo,hi,hs]
    have ha:(isAgg fa.type).run P w= .ok true w:=by simp [isAgg,run_underlying (hlast▸h.unda)]
    simp only [part,Sem.run_bind,ha,Result.andThen_ok,if_true,hs,Sem.run_pure]
    congr 2
    rw [ho]
    apply Array.ext'
    simp only [Array.toList_extract,List.extract_eq_take_drop,List.map_append];rw [show k1.length+k2.length - k1.length=k2.length by omega,List.drop_append,List.drop_of_length_le (by rw [List.length_map];omega),List.nil_append,List.length_map,hp,Nat.sub_self,List.drop_zero,List.take_of_length_le (by rw [List.length_map];omega)]
   simp only [Op.eqFields,if_pos hne,Sem.run_bind];rw [hpart a1 a2 hl1 hl3];simp only [Result.andThen_ok];rw [hpart b1 b2 hl2 hl4];simp only [Result.andThen_ok];rw [hlast,run_equalIn_struct w 9998 ta _ _ h.unda h.helda]
   have gy:∀(q:List Am) (j:Nat) (a:Am),q[j]? =some a ->(q.map Am.v).toArray[0+j]? =some a.v:=fun q j a e=>by
    rw [Nat.zero_add,List.getElem?_toArray,List.getElem?_map,e];rfl
   have:=run_eqAtoms 9997 (a2.map Am.v).toArray (b2.map Am.v).toArray w [] (P.fieldsOf ta).toList a2 b2 0 (e3.trans e4.symm) (by rw [h.fieldsa,<- e3,zipIdx_ty]) (gy a2) (gy b2);rw [List.append_nil] at this;rw [this];by_cases h2:a2=b2
   · rw [if_pos h2];simp [Op.eqFields,h1,h2]
   · rw [if_neg h2];simp [h2]
 · rw [if_neg h1];simp [h1]
theorem am_cells{S:BSet}{w:World}:∀{aq:List Am} {vs:List Value},cells S w (amC aq) vs ->vs=aq.map Am.v
 | [],[],_=>rfl
 |a::aq,v::vs,⟨h1,h2⟩=>by
  have h1:v=a.v:=h1
  rw [h1,am_cells h2];rfl
 | [],_::_,h=>h.elim
 |_::_,[],h=>h.elim
variable {X : Ctx} {L : AL} {B : BL} {ops : Array Oper} {K : Act → World → Prop} {r : Pl} {k : Kd}
  {x y z : Operand} {d : Nat} {t t2 t' ta : TypeId} {pos : String} {af : Array Edge} {g : Option (Nat × Bool)}
theorem Ops.eqN{k1 k2:List TypeDesc}(a1 a2 b1 b2:List Am)(hg:gd ops L g=some true)(hx:ev L x=some (.ct (.agg (amC (a1++a2)))))(hy:ev L y=some (.ct (.agg (amC (b1++b2)))))(e1:a1.map Am.ty=k1)(e2:b1.map Am.ty=k1)(e3:a2.map Am.ty=k2)(e4:b2.map Am.ty=k2)(hE:EqN X.P t ta k1 k2)(hn:Nat.blt d X.n=true)
  (h:Ops X ops r ((d, .ct (.ex (.bool (decide (a1=b1/\ a2=b2)))))::L) B K):Ops X ops (.cons ⟨some d, .binOp .eql t x y t2,t',pos,af,g⟩ k r) L B K:=
 XW (s:= .ct (.ex (.bool (decide (a1=b1/\ a2=b2))))) hg rfl hn (fun a ρ w hI=>⟨_,fun w' _=>by
  obtain ⟨us,f1,c1⟩:=hI.ev hx
  obtain ⟨vs,f2,c2⟩:=hI.ev hy
  have d1:=am_cells c1
  have d2:=am_cells c2
  subst d1;subst d2
  show (do pure (Next.value (<- (do eqGuard .eql t x y (a.eval x) (a.eval y);binOp .eql t (a.eval x) (a.eval y):Sem Value))):Sem Next).run X.P w' =_
  rw [f1,f2]
  refine X9 ?_
  simp only [Sem.run_bind,run_eqGuard_agg w' _ t x y _ _ hE.guard,Result.andThen_ok]
  rw [run_eql_struct,hE.run a1 b1 a2 b2 e1 e2 e3 e4 w'];rfl,rfl⟩) h
theorem Ops.neN{k1 k2:List TypeDesc}(a1 a2 b1 b2:List Am)(hg:gd ops L g=some true)(hx:ev L x=some (.ct (.agg (amC (a1++a2)))))(hy:ev L y=some (.ct (.agg (amC (b1++b2)))))(e1:a1.map Am.ty=k1)(e2:b1.map Am.ty=k1)(e3:a2.map Am.ty=k2)(e4:b2.map Am.ty=k2)(hE:EqN X.P t ta k1 k2)(hn:Nat.blt d X.n=true)
  (h:Ops X ops r ((d, .ct (.ex (.bool (!decide (a1=b1/\ a2=b2)))))::L) B K):Ops X ops (.cons ⟨some d, .binOp .neq t x y t2,t',pos,af,g⟩ k r) L B K:=
 XW (s:= .ct (.ex (.bool (!decide (a1=b1/\ a2=b2))))) hg rfl hn (fun a ρ w hI=>⟨_,fun w' _=>by
  obtain ⟨us,f1,c1⟩:=hI.ev hx
  obtain ⟨vs,f2,c2⟩:=hI.ev hy
  have d1:=am_cells c1
  have d2:=am_cells c2
  subst d1;subst d2
  show (do pure (Next.value (<- (do eqGuard .neq t x y (a.eval x) (a.eval y);binOp .neq t (a.eval x) (a.eval y):Sem Value))):Sem Next).run X.P w' =_
  rw [f1,f2]
  refine X9 ?_
  simp only [Sem.run_bind,run_eqGuard_agg w' _ t x y _ _ hE.guard,Result.andThen_ok]
  rw [run_neq_struct,hE.run a1 b1 a2 b2 e1 e2 e3 e4 w'];rfl,rfl⟩) h
end
def dcQ : Nat → Nat → Option (Oq × Nat)
  | _, 0 => none
  | 0, _ => none
  | k + 1, m + 1 => match (m + 1) % 256 / 32 with
    | 0 => match dcQ k ((m + 1) / 256) with | some (t, r) => some (.p ((m + 1) % 32) t, r) | none => none
    | 1 => match dcQ k ((m + 1) / 256) with | some (t, r) => some (.f ((m + 1) % 32) t, r) | none => none
    | 2 => match dcQ k ((m + 1) / 256) with
      | some (t, r) => match dcQ k r with | some (u, r) => some (.m ((m + 1) % 32) t u, r) | none => none
      | none => none
    | 3 => match dcQ k ((m + 1) / 256) with
      | some (t, r) => match dcQ k r with | some (u, r) => some (.a ((m + 1) % 32) t u, r) | none => none
      | none => none
    | 4 => some (.done, (m + 1) / 256)
    | _ => some (.non, (m + 1) / 256)
def dcO : Nat → Nat → Option (Od × Nat)
  | _, 0 => none
  | 0, _ => none
  | k + 1, m + 1 => match (m + 1) % 256 / 32 with
    | 0 => match dcO k ((m + 1) / 256) with | some (t, r) => some (.p ((m + 1) % 32) t, r) | none => none
    | 1 => match dcO k ((m + 1) / 256) with | some (t, r) => some (.f ((m + 1) % 32) t, r) | none => none
    | 2 => match dcO k ((m + 1) / 256) with | some (t, r) => some (.m ((m + 1) % 32) t, r) | none => none
    | 3 => match dcO k ((m + 1) / 256) with | some (t, r) => some (.a ((m + 1) % 32) t, r) | none => none
    | 4 => some (.done, (m + 1) / 256)
    | _ => match dcO k ((m + 1) / 65536) with
      | some (t, r) => match dcO k r with | some (u, r) => some (.fork ((m + 1) % 32) t ((m + 1) / 256 % 256) u, r) | none => none
      | none => none
section
variable {X : Ctx} {L : AL} {B : BL} {id : Nat} {l : List Oper} {Q : Exit → Act → World → Prop}
theorem Yx(hm:X.P.follows .mixedOrders=true)(late:List Nat)(n:Nat){ord:Oq}(_:dcQ 999 n=some (ord,0))
  (hc:(Region.noSelect l.toArray&&chkQ l.toArray late true ord l.length (Array.replicate l.length false))=true)
  (h:∀K,(∀L' B',Fin X L' B' (fun a w=>Q .normal a w) ->Fin X L' B' K) ->Fin X L B (wpQ X.P l K ord)):St X L B (.region id l.toArray true) Q:=St.drawQ hm late ord hc h
theorem YU(hm:X.P.follows .mixedOrders=true)(N n:Nat){ord:Od}(_:dcO 999 n=some (ord,0))
  (hc:(Region.noSelect l.toArray&&chk l.toArray N ord l.length (Array.replicate l.length false))=true)
  (h:∀K,(∀L' B',Fin X L' B' (fun a w=>Q .normal a w) ->Fin X L' B' K) ->Ops X l.toArray (pick l ord) L B K):St X L B (.region id l.toArray true) Q:=St.drawK hm N ord hc h
end
structure Tab where
  one : List Nat
  str : List (Nat × Value × List (Nat × Nat))
  zro : List (Nat × Value)
  ik : List (Nat × IntKind)
  ar : List (Nat × Value × Nat)
def lkp {α : Type} : List (Nat × α) → Nat → Option α
  | [], _ => none
  | (j, a) :: l, i => match Nat.beq j i with | true => some a | false => lkp l i
def has : List Nat → Nat → Bool
  | [], _ => false
  | j :: l, i => match Nat.beq j i with | true => true | false => has l i
def nthC {α : Type} : List α → Nat → Option α
  | [], _ => none
  | c :: _, 0 => some c
  | _ :: cs, n + 1 => nthC cs n
def lenC {α : Type} : List α → Nat
  | [] => 0
  | _ :: l => Nat.succ (lenC l)
def setC {α : Type} : List α → Nat → α → Option (List α)
  | [], _, _ => none
  | _ :: cs, 0, c => some (c :: cs)
  | x :: cs, n + 1, c => match setC cs n c with | some l => some (x :: l) | none => none
def dropC {α : Type} : Nat → List α → Option (List α)
  | 0, l => some l
  | _ + 1, [] => none
  | n + 1, _ :: l => dropC n l
def takeC {α : Type} : Nat → List α → Option (List α)
  | 0, _ => some []
  | _ + 1, [] => none
  | n + 1, c :: l => match takeC n l with | some r => some (c :: r) | none => none
theorem nthC_eq{α:Type}:∀(l:List α) (n:Nat),nthC l n=l[n]?
 | [],_=>rfl
 |_::_,0=>rfl
 |_::l,n+1=>by rw [List.getElem?_cons_succ];exact nthC_eq l n
theorem lenC_eq{α:Type}:∀l:List α,lenC l=l.length
 | []=>rfl
 |_::l=>congrArg Nat.succ (lenC_eq l)
theorem setC_eq{α:Type}:∀{l m:List α} {n:Nat} {c:α},setC l n c=some m ->n<l.length/\ m=l.set n c
 |_::_,_,0,_,h=>by injection h with h;exact ⟨Nat.succ_pos _,h.symm⟩
 |x::l,_,n+1,c,h=>by
  unfold setC at h
  split at h
  · rename_i r hr
    injection h with h;subst h
    obtain ⟨h1,h2⟩:=setC_eq hr
    exact ⟨Nat.succ_lt_succ h1,by rw [h2];rfl⟩
  · cases h
theorem dropC_eq{α:Type}:∀{n:Nat} {l m:List α},dropC n l=some m ->m=l.drop n/\ n<=l.length
 |0,_,_,h=>by injection h with h;exact ⟨h.symm,Nat.zero_le _⟩
 |n+1,_::l,m,h=>by obtain ⟨h1,h2⟩:=dropC_eq (l:=l) h;exact ⟨h1,Nat.succ_le_succ h2⟩
theorem takeC_eq{α:Type}:∀{n:Nat} {l m:List α},takeC n l=some m ->m=l.take n/\ n<=l.length
 |0,_,_,h=>by injection h with h;exact ⟨h.symm,Nat.zero_le _⟩
 |n+1,c::l,m,h=>by
  unfold takeC at h
  split at h
  · rename_i r hr
    injection h with h;subst h
    obtain ⟨h1,h2⟩:=takeC_eq hr
    exact ⟨by rw [h1];rfl,Nat.succ_le_succ h2⟩
  · cases h
def strE (P : Program) (x : Nat × Value × List (Nat × Nat)) : Option (Value × List (Nat × Option Nat)) × Option Bool × Option Nat × List (Option (Nat × Option Nat)) :=
  (bInfo P x.1, (P.underlying x.1).map isAggD, (P.info? x.1).map (·.size), (List.range x.2.2.length).map (fldInfo P x.1))
def strR (x : Nat × Value × List (Nat × Nat)) : Option (Value × List (Nat × Option Nat)) × Option Bool × Option Nat × List (Option (Nat × Option Nat)) :=
  (some (x.2.1, x.2.2.map fun p => (p.1, some (p.2 + 1))), some true, some (lenC x.2.1.cells.toList), x.2.2.map fun p => some (p.1, some (p.2 + 1)))
def arE (P : Program) (x : Nat × Value × Nat) : Option (Option Nat × Option (Option Value)) :=
  match P.underlying x.1 with
  | some (.array _ el) => some ((P.info? el).map (·.size), (P.info? x.1).map (·.zero))
  | _ => none
structure TabOk (P : Program) (T : Tab) : Prop where
  one : T.one.map (fun t => ((P.underlying t).map isAggD, (P.info? t).map (·.size))) = T.one.map fun _ => (some false, some 1)
  str : T.str.map (strE P) = T.str.map strR
  zro : T.zro.map (fun x => (P.info? x.1).map (·.zero)) = T.zro.map fun x => some (some x.2)
  ik : T.ik.map (fun x => P.underlying x.1) = T.ik.map fun x => some (.int x.2)
  ar : T.ar.map (arE P) = T.ar.map fun x => some (some x.2.2, some (some x.2.1))
structure HasTab (P : Program) where
  T : Tab
  ok : TabOk P T
  mx : P.follows .mixedOrders = true
theorem has_map{α:Type}{f g:Nat ->α}{i:Nat}:∀{l:List Nat},l.map f=l.map g ->has l i=true ->f i=g i
 |j::l,h,hi=>by
  injection h with h1 h2
  unfold has at hi
  split at hi
  · rename_i e;rw [<- Nat.eq_of_beq_eq_true e];exact h1
  · exact has_map h2 hi
theorem lkp_map{α β:Type}{f g:Nat × α ->β}{i:Nat}{a:α}:∀{l:List (Nat × α)},l.map f=l.map g ->lkp l i=some a ->f (i,a)=g (i,a)
 |(j,b)::l,h,hi=>by
  injection h with h1 h2
  unfold lkp at hi
  split at hi
  · rename_i e;injection hi with hi;rw [<- Nat.eq_of_beq_eq_true e,<- hi];exact h1
  · exact lkp_map h2 hi
section
variable {P : Program} {T : Tab}
theorem TabOk.ld1(h:TabOk P T){t:Nat}(ht:has T.one t=true):Ld1 P t/\ (P.info? t).map (·.size)=some 1:=by
 have:=has_map h.one ht
 injection this with h1 h2
 refine ⟨?_,h2⟩
 cases e:P.underlying t with
 |none=>rw [e] at h1;cases h1
 |some D=>rw [e] at h1;injection h1 with h1;exact ⟨D,e,h1⟩
theorem TabOk.st(h:TabOk P T){t:Nat}{zv:Value}{fs:List (Nat × Nat)}(ht:lkp T.str t=some (zv,fs)):bInfo P t=some (zv,fs.map fun p=>(p.1,some (p.2+1)))/\ LdN P t (lenC zv.cells.toList)/\
  (P.info? t).map (·.size)=some (lenC zv.cells.toList)/\ ∀f o s,nthC fs f=some (o,s) ->fldInfo P t f=some (o,some (s+1)):=by
 have:=lkp_map h.str ht
 simp only [strE,strR,Prod.mk.injEq] at this
 obtain ⟨h1,h2,h3,h4⟩:=this
 refine ⟨h1,?_,h3,fun f o s hf=> ?_⟩
 · cases e:P.underlying t with
   |none=>rw [e] at h2;cases h2
   |some D=>rw [e] at h2;injection h2 with h2;exact LdN.of D e h2 h3
 · rw [nthC_eq] at hf
   have hlt:=(List.getElem?_eq_some_iff.1 hf).1
   have:=congrArg (fun l=>l[f]?) h4
   simp only [List.getElem?_map,hf,List.getElem?_range hlt,Option.map_some] at this
   injection this
end
theorem TabOk.arr{P:Program}{T:Tab}(h:TabOk P T){t n:Nat}{zv:Value}(ht:lkp T.ar t=some (zv,n)):∃el len,ArrT P t el len n zv:=by
 have:=lkp_map h.ar ht
 unfold arE at this
 split at this
 · rename_i len el hu
   injection this with h1
   injection h1 with h1 h2
   exact ⟨el,len,hu,h1,h2⟩
 · cases this
inductive Cf where
  | ops (a : Array Oper) (l : Pl) (k : List Kf)
  | code (c : Code) (k : List Kf)
  | fin (e : Exit) (k : List Kf)
  | lp (f : Act → World → Prop)
abbrev Cf.goal (X : Ctx) (Q : Exit → Act → World → Prop) (L : AL) (B : BL) : Cf → Prop
  | .ops a l k => Ops X a l L B (fun x w => den X.P Q k .normal x w)
  | .code c k => St X L B c (den X.P Q k)
  | .fin e k => Fin X L B (fun x w => den X.P Q k e x w)
  | .lp f => Fin X L B f
def ob : Option Prop → Prop
  | none => True
  | some p => p
def arB : BinOp → IntKind → Int → IntKind → Int → Option (Option Prop × Value)
  | .add, .i64, p, .i64, q => some (some (-9223372036854775808 ≤ p + q ∧ p + q ≤ 9223372036854775807), .int .i64 (p + q))
  | .sub, .i64, p, .i64, q => some (some (-9223372036854775808 ≤ p - q ∧ p - q ≤ 9223372036854775807), .int .i64 (p - q))
  | .mul, .i64, p, .i64, q => some (some (-9223372036854775808 ≤ p * q ∧ p * q ≤ 9223372036854775807), .int .i64 (p * q))
  | .quo, .i64, p, .i64, q => some (some (0 ≤ p ∧ 0 < q ∧ p ≤ 9223372036854775807), .int .i64 (p / q))
  | .rem, .i64, p, .i64, q => some (some (0 ≤ p ∧ 0 < q), .int .i64 (p % q))
  | op, k1, p, k2, q => match decide (k1 = k2) with
    | true => match op with
      | .lss => some (none, .bool (decide (p < q)))
      | .leq => some (none, .bool (decide (p ≤ q)))
      | .gtr => some (none, .bool (decide (q < p)))
      | .geq => some (none, .bool (decide (q ≤ p)))
      | .eql => some (none, .bool (decide (p = q)))
      | .neq => some (none, .bool (decide (p ≠ q)))
      | _ => none
    | false => none
theorem arB_ok{op:BinOp}{k1 k2:IntKind}{p q:Int}{v:Value}{o:Option Prop}(h:arB op k1 p k2 q=some (o,v))(ho:ob o):IBin op k1 p k2 q v:=by
 unfold arB at h
 split at h
 · cases h;exact iadd ho.1 ho.2
 · cases h;exact isub ho.1 ho.2
 · cases h;exact imul ho.1 ho.2
 · cases h;exact iquo ho.1 ho.2.1 ho.2.2
 · cases h;exact irem ho.1 ho.2
 · split at h
   · rename_i hk
     obtain rfl:=of_decide_eq_true hk
     split at h
     · cases h;exact ilss
     · cases h;exact ileq
     · cases h;exact igtr
     · cases h;exact igeq
     · cases h;exact ieql
     · cases h;exact ineq
     · cases h
   · cases h
def bPts (L : AL) (pl : Nat → Option (Nat × Nat)) : List (Nat × Operand) → List CT → Option (List CT)
  | [], cs => some cs
  | (i, x) :: q, cs =>
    match pl i with
    | none => none
    | some (off, n) =>
      match ev L x with
      | some (.ct (.agg ds)) =>
        match Nat.beq (lenC ds) n, takeC off cs, dropC (off + n) cs with
        | true, some a, some b => bPts L pl q (a ++ ds ++ b)
        | _, _, _ => none
      | some (.ct c) =>
        match Nat.beq n 1, c.one, setC cs off c with
        | true, true, some cs' => bPts L pl q cs'
        | _, _, _ => none
      | _ => none
theorem bPts_ok{L:AL}{pl:Nat ->Option (Nat × Nat)}:∀{ps:List (Nat × Operand)} {cs ds:List CT},bPts L pl ps cs=some ds ->BParts L pl ps cs ds
 | [],cs,ds,h=>by injection h with h;subst h;exact .nil
 |(i,x)::q,cs,ds,h=>by
  unfold bPts at h
  split at h
  · cases h
  rename_i off n hp
  split at h
  · rename_i es hx
    split at h
    · rename_i a b hb ha hd
      have hn:=Nat.eq_of_beq_eq_true hb
      rw [lenC_eq] at hn
      obtain ⟨h1,_⟩:=takeC_eq ha
      obtain ⟨h2,h3⟩:=dropC_eq hd
      refine .agg hp hx hn (Nat.ble_eq_true_of_le h3) ?_
      have:spl cs off es=a++es++b:=by unfold spl;rw [h1,h2,hn]
      rw [this];exact bPts_ok h
    · cases h
  · rename_i c hna hx
    split at h
    · rename_i cs' hn ho hs
      obtain ⟨h1,h2⟩:=setC_eq hs
      obtain rfl:=Nat.eq_of_beq_eq_true hn
      refine .one hp hx ho (by rw [Nat.blt_eq];exact h1) ?_
      rw [<- h2];exact bPts_ok h
    · cases h
  · cases h
def freeB (L : AL) (B : BL) : Nat → Nat → Option Nat
  | 0, _ => none
  | n + 1, i => match noN i L, bget B i with
    | true, none => some i
    | _, _ => freeB L B n (i + 1)
theorem freeB_ok{L:AL}{B:BL}:∀{n i j:Nat},freeB L B n i=some j ->noN j L=true/\ bget B j=none
 |n+1,i,j,h=>by
  unfold freeB at h
  split at h
  · rename_i h1 h2;injection h with h;subst h;exact ⟨h1,h2⟩
  · exact freeB_ok h
def bsetS : BL → Nat → Ent → Option BL
  | [], _, _ => none
  | (j, e) :: B, i, f => match Nat.beq j i with
    | true => some ((j, f) :: B)
    | false => match bsetS B i f with | some B' => some ((j, e) :: B') | none => none
theorem bsetS_eq:∀{B B' :BL} {i:Nat} {f:Ent},bsetS B i f=some B' ->bset B i f=B'
 |(j,e)::B,B',i,f,h=>by
  unfold bsetS at h
  split at h
  · rename_i hb;injection h with h;subst h;simp only [bset,hb]
  · rename_i hb
    split at h
    · rename_i r hr;injection h with h;subst h;simp only [bset,hb,bsetS_eq hr]
    · cases h
def ctS : List Value → Option (List CT)
  | [] => some []
  | v :: l => match ctS l with | some r => some (.ex v :: r) | none => none
theorem ctS_eq:∀{l:List Value} {m:List CT},ctS l=some m ->m=l.map CT.ex
 | [],_,h=>by injection h with h;exact h.symm
 |v::l,m,h=>by
  unfold ctS at h
  split at h
  · rename_i r hr;injection h with h;rw [<- h,ctS_eq hr];rfl
  · cases h
def newB (L : AL) (B : BL) (t : Nat) (cs : List CT) : Option (Option Prop × Sl × BL) :=
  match freeB L B 12 0 with | some i => some (none, .own i, (i, .box t cs) :: B) | none => none
def vS (T : Tab) (L : AL) (B : BL) (kd : Kd) : Op → Option (Option Prop × Sl × BL)
  | .move x => match ev L x with | some s => some (none, s, B) | none => none
  | .assign x => match ev L x with | some s => some (none, s, B) | none => none
  | .pick x y z =>
    match ev L x with
    | some (.ct (.ex (.bool true))) => match ev L y with | some s => some (none, s, B) | none => none
    | some (.ct (.ex (.bool false))) => match ev L z with | some s => some (none, s, B) | none => none
    | _ => none
  | .unOp .not _ x => match ev L x with | some (.ct (.ex (.bool b))) => some (none, .ct (.ex (.bool (!b))), B) | _ => none
  | .unOp .neg _ x => match ev L x with | some (.ct (.ex (.int .i64 p))) => some (some (-9223372036854775807 ≤ p ∧ p ≤ 9223372036854775807), .ct (.ex (.int .i64 (-p))), B) | _ => none
  | .binOp op _ x y _ =>
    match ev L x, ev L y with
    | some (.ct (.ex (.int k1 p))), some (.ct (.ex (.int k2 q))) => match arB op k1 p k2 q with | some (o, v) => some (o, .ct (.ex v), B) | none => none
    | _, _ => none
  | .nilCheck x =>
    match ev L x with
    | some (.own i) => match bget B i with | some (.box _ _) => some (none, .own i, B) | _ => none
    | _ => none
  | .extract x i => match ev L x with | some (.ct (.tup cs)) => (match nthC cs i with | some c => some (none, .ct c, B) | none => none) | _ => none
  | .fieldAddr t x f =>
    match lkp T.str t with
    | some (_, fs) =>
      match nthC fs f with
      | some (o, _) =>
        match ev L x with
        | some (.own i) => match bget B i with | some (.box _ _) => some (none, .loc i o, B) | _ => none
        | some (.loc i q) => some (none, .loc i (q + o), B)
        | some (.ct (.ptr cs)) => match dropC o cs with | some ds => some (none, .ct (.ptr ds), B) | none => none
        | _ => none
      | none => none
    | none => none
  | .load t x =>
    match kd.rd with
    | false => none
    | true =>
      match ev L x with
      | some (.own i) =>
        match bget B i with
        | some (.box _ cs) =>
          match has T.one t with
          | true => match nthC cs 0 with | some c => some (none, .ct c, B) | none => none
          | false => match lkp T.str t with
            | some (zv, _) => match Nat.beq (lenC cs) (lenC zv.cells.toList) with | true => some (none, .ct (.agg cs), B) | false => none
            | none => none
        | _ => none
      | some (.loc i o) =>
        match bget B i with
        | some e =>
          match has T.one t with
          | true => match nthC e.cs o with | some c => some (none, .ct c, B) | none => none
          | false => none
        | none => none
      | some (.ct (.ptr cs)) =>
        match has T.one t with
        | true => match cs with | c :: _ => some (none, .ct c, B) | [] => none
        | false => match lkp T.str t with
          | some (zv, _) => match takeC (lenC zv.cells.toList) cs with | some ds => some (none, .ct (.agg ds), B) | none => none
          | none => none
      | _ => none
  | .alloc t =>
    match kd.mk with
    | false => none
    | true => match lkp T.str t with
      | some (zv, _) => match ctS zv.cells.toList with | some cs => newB L B t cs | none => none
      | none => match lkp T.zro t with
        | some zv => match ctS zv.cells.toList with | some cs => newB L B t cs | none => none
        | none => none
  | .box t x =>
    match kd.mk with
    | false => none
    | true => match ev L x with
      | some (.ct (.agg cs)) => match ones cs with | true => newB L B t cs | false => none
      | some (.ct c) => match c.one with | true => newB L B t [c] | false => none
      | _ => none
  | .build t ps =>
    match lkp T.str t with
    | some (zv, fs) => match ctS zv.cells.toList with
      | some zs => match bPts L (plOf (fs.map fun p => (p.1, some (p.2 + 1)))) ps.toList zs with
        | some cs => some (none, .ct (.agg cs), B)
        | none => none
      | none => none
    | none => match lkp T.ar t with
      | some (zv, n) => match ctS zv.cells.toList with
        | some zs => match bPts L (fun i => some (i * n, n)) ps.toList zs with
          | some cs => some (none, .ct (.agg cs), B)
          | none => none
        | none => none
      | none => none
  | .convert s t x =>
    match has T.one s, lkp T.ik t, ev L x with
    | true, some k, some (.ct (.ex (.int _ p))) => some (none, .ct (.ex (.int k (k.wrap p))), B)
    | _, _, _ => none
  | _ => none
theorem known_map:∀fs:List (Nat × Nat),known (fs.map fun p=>(p.1,some (p.2+1)))=true
 | []=>rfl
 |_::l=>known_map l
section
variable {X : Ctx} {L : AL} {B : BL} {ops : Array Oper} {K : Act → World → Prop} {r : Pl} {kd : Kd} {d t : Nat} {pos : String} {af : Array Edge} {g : Option (Nat × Bool)} {T : Tab}
theorem newB_ok{cs:List CT}{p:Option Prop}{s:Sl}{B' :BL}(h:newB L B t cs=some (p,s,B')):∃i,noN i L=true/\ bget B i=none/\ s= .own i/\ B' =(i, .box t cs)::B:=by
 unfold newB at h
 split at h
 · rename_i i hi
   obtain ⟨h1,h2⟩:=freeB_ok hi
   injection h with h;injection h with _ h;injection h with h3 h4
   exact ⟨i,h1,h2,h3.symm,h4.symm⟩
 · cases h
theorem Ops.buildT{zv:Value}{pl:List (Nat × Option Nat)}{cs:List CT}{t t' :TypeId}:∀{ps:Array (Nat × Operand)},gd ops L g=some true ->bInfo X.P t=some (zv,pl) ->known pl=true ->BParts L (plOf pl) ps.toList (zv.cells.toList.map CT.ex) cs ->Nat.blt d X.n=true ->
  Ops X ops r ((d, .ct (.agg cs))::L) B K ->Ops X ops (.cons ⟨some d, .build t ps,t',pos,af,g⟩ kd r) L B K
 |⟨_⟩,hg,hi,hk,hb,hn,h=>Yf hg hi hk hb hn h
theorem Ops.buildAT{el len n:Nat}{zv:Value}{cs:List CT}{t t' :TypeId}:∀{ps:Array (Nat × Operand)},gd ops L g=some true ->ArrT X.P t el len n zv ->BParts L (fun i=>some (i*n,n)) ps.toList (zv.cells.toList.map CT.ex) cs ->Nat.blt d X.n=true ->
  Ops X ops r ((d, .ct (.agg cs))::L) B K ->Ops X ops (.cons ⟨some d, .build t ps,t',pos,af,g⟩ kd r) L B K
 |⟨_⟩,hg,hA,hb,hn,h=>Ops.buildA hg hA hb hn h
theorem Ops.vS(hT:TabOk X.P T){op:Op}{s:Sl}{B' :BL}{p:Option Prop}(he:Own.vS T L B kd op=some (p,s,B'))(hp:ob p)(hg:gd ops L g=some true)(hn:Nat.blt d X.n=true)(h:Ops X ops r ((d,s)::L) B' K):Ops X ops (.cons ⟨some d,op,t,pos,af,g⟩ kd r) L B K:=by
 unfold Own.vS at he
 split at he
 · split at he
   · rename_i hx;cases he;exact Qg hg hx hn h
   · cases he
 · split at he
   · rename_i hx;cases he;exact Xa hg hx hn h
   · cases he
 · split at he
   · rename_i hx
     split at he
     · rename_i hy;cases he;exact Y0 hg hx hy hn h
     · cases he
   · rename_i hx
     split at he
     · rename_i hy;cases he;exact Ops.pickF hg hx hy hn h
     · cases he
   · cases he
 · split at he
   · rename_i hx;cases he;exact Ops.inot hg hx hn h
   · cases he
 · split at he
   · rename_i hx;cases he;exact Ops.ineg hg hx hp.1 hp.2 hn h
   · cases he
 · split at he
   · rename_i hx hy
     split at he
     · rename_i hb;cases he;exact Qh (arB_ok hb hp) hg hx hy hn h
     · cases he
   · cases he
 · split at he
   · rename_i hx
     split at he
     · rename_i hi;cases he;exact Ops.nilCheckO hg hx hi hn h
     · cases he
   · cases he
 · split at he
   · rename_i hx
     split at he
     · rename_i hc;cases he;rw [nthC_eq] at hc;exact Ops.extract hg hx hc hn h
     · cases he
   · cases he
 · split at he
   · rename_i ht
     split at he
     · rename_i hf
       have hF:=(hT.st ht).2.2.2 _ _ _ hf
       split at he
       · rename_i hx
         split at he
         · rename_i hi;cases he;exact Z1 hg hx hi hF hn h
         · cases he
       · rename_i hx;cases he;exact Ops.fldA hg hx hF hn h
       · rename_i hx
         split at he
         · rename_i hd;cases he;obtain ⟨rfl,_⟩:=dropC_eq hd;exact Ops.fldF hg hx hF hn h
         · cases he
       · cases he
     · cases he
   · cases he
 · split at he
   · cases he
   rename_i hk
   split at he
   · rename_i hx
     split at he
     · rename_i hi
       split at he
       · rename_i h1
         split at he
         · rename_i hc;cases he;rw [nthC_eq] at hc;exact Ops.ld1O hk hg hx hi hc (hT.ld1 h1).1 hn h
         · cases he
       · split at he
         · rename_i ht
           split at he
           · rename_i hl;cases he
             have hl:=Nat.eq_of_beq_eq_true hl
             rw [lenC_eq] at hl
             exact Xb hk hg hx hi hl (hT.st ht).2.1 hn h
           · cases he
         · cases he
     · cases he
   · rename_i hx
     split at he
     · rename_i hi
       split at he
       · rename_i h1
         split at he
         · rename_i hc;cases he;rw [nthC_eq] at hc;exact QK hk hg hx hi hc (hT.ld1 h1).1 hn h
         · cases he
       · cases he
     · cases he
   · rename_i hx
     split at he
     · rename_i h1
       split at he
       · cases he;exact Ops.ld1F hk hg hx (hT.ld1 h1).1 hn h
       · cases he
     · split at he
       · rename_i ht
         split at he
         · rename_i hl;cases he
           obtain ⟨rfl,h5⟩:=takeC_eq hl
           exact Ops.ldNF hk hg hx (hT.st ht).2.1 (Nat.ble_eq_true_of_le h5) hn h
         · cases he
       · cases he
   · cases he
 · split at he
   · cases he
   rename_i hk
   split at he
   · rename_i ht
     split at he
     · rename_i hc
       obtain ⟨i,h1,h2,rfl,rfl⟩:=newB_ok he
       have hb:=(hT.st ht).1
       rw [ctS_eq hc] at h
       refine Xh i hk hg ?_ h1 h2 hn h
       unfold bInfo at hb
       split at hb
       · rename_i hz;injection hb with hb;injection hb with hb _;subst hb;exact hz
       · cases hb
     · cases he
   · split at he
     · rename_i ht
       split at he
       · rename_i hc
         obtain ⟨i,h1,h2,rfl,rfl⟩:=newB_ok he
         rw [ctS_eq hc] at h
         exact Xh i hk hg (lkp_map hT.zro ht) h1 h2 hn h
       · cases he
     · cases he
 · split at he
   · cases he
   rename_i hk
   split at he
   · rename_i hx
     split at he
     · rename_i ho
       obtain ⟨i,h1,h2,rfl,rfl⟩:=newB_ok he
       exact Ops.boxN i hk hg hx ho h1 h2 hn h
     · cases he
   · rename_i _ hx
     split at he
     · rename_i ho
       obtain ⟨i,h1,h2,rfl,rfl⟩:=newB_ok he
       exact Ops.box1 i hk hg hx ho h1 h2 hn h
     · cases he
   · cases he
 · split at he
   · rename_i ht
     split at he
     · rename_i hc
       split at he
       · rename_i hb
         cases he
         have hq:=bPts_ok hb
         rw [ctS_eq hc] at hq
         exact Ops.buildT hg (hT.st ht).1 (known_map _) hq hn h
       · cases he
     · cases he
   · split at he
     · rename_i ht
       split at he
       · rename_i hc
         split at he
         · rename_i hb
           cases he
           have hq:=bPts_ok hb
           rw [ctS_eq hc] at hq
           obtain ⟨el,len,hA⟩:=hT.arr ht
           exact Ops.buildAT hg hA hq hn h
         · cases he
       · cases he
     · cases he
 · split at he
   · rename_i h1 h2 hx
     cases he
     have hD:=lkp_map hT.ik h2
     cases hu:X.P.underlying _ with
     |none=>exact absurd (has_map hT.one h1) (by rw [hu];simp)
     |some D=>exact Z0 hg hx hu hD rfl hn h
   · cases he
 · cases he
def stS (T : Tab) (L : AL) (B : BL) (kd : Kd) : Op → Option BL
  | .store t x y =>
    match kd with
    | .any =>
      match ev L x with
      | some (.own i) =>
        match bget B i with
        | some (.box tt cs) =>
          match ev L y with
          | some (.ct (.agg ds)) =>
            match lkp T.str t with
            | some (zv, _) => match Nat.beq (lenC ds) (lenC zv.cells.toList), Nat.beq (lenC cs) (lenC zv.cells.toList), ones ds with
              | true, true, true => bsetS B i (.box tt ds)
              | _, _, _ => none
            | none => none
          | some (.ct c) =>
            match has T.one t, c.one, cs with
            | true, true, [_] => bsetS B i (.box tt [c])
            | _, _, _ => none
          | _ => none
        | _ => none
      | some (.loc i o) =>
        match bget B i with
        | some (.box tt cs) =>
          match ev L y with
          | some (.ct c) =>
            match has T.one t, c.one, setC cs o c with
            | true, true, some cs' => bsetS B i (.box tt cs')
            | _, _, _ => none
          | _ => none
        | _ => none
      | _ => none
    | _ => none
  | _ => none
theorem Ops.stS(hT:TabOk X.P T){op:Op}{B' :BL}(he:Own.stS T L B kd op=some B')(hg:gd ops L g=some true)(h:Ops X ops r L B' K):Ops X ops (.cons ⟨none,op,t,pos,af,g⟩ kd r) L B K:=by
 unfold Own.stS at he
 split at he
 · split at he
   · split at he
     · rename_i hx
       split at he
       · rename_i hi
         split at he
         · rename_i hy
           split at he
           · rename_i ht
             split at he
             · rename_i h1 h2 ho
               have h1:=Nat.eq_of_beq_eq_true h1
               have h2:=Nat.eq_of_beq_eq_true h2
               have hs:=(hT.st ht).2.2.1
               rw [<- h1,lenC_eq] at hs
               rw [<- h1,lenC_eq,lenC_eq] at h2
               refine Ops.stWO hg hx hi hy ho hs h2 ?_
               rw [bsetS_eq he];exact h
             · cases he
           · cases he
         · rename_i _ hy
           split at he
           · rename_i h1 ho
             refine Ops.st1O hg hx hi hy ho (hT.ld1 h1).2 ?_
             rw [bsetS_eq he];exact h
           · cases he
         · cases he
       · cases he
     · rename_i hx
       split at he
       · rename_i hi
         split at he
         · rename_i hy
           split at he
           · rename_i h1 ho hs
             obtain ⟨h2,h3⟩:=setC_eq hs
             refine Qa hg hx hi hy ho (hT.ld1 h1).2 h2 ?_
             show Ops X ops r L (bset B _ (.box _ (List.set _ _ _))) K
             rw [<- h3,bsetS_eq he];exact h
           · cases he
         · cases he
       · cases he
     · cases he
   · cases he
 · cases he
def stO (T : Tab) (ops : Array Oper) (n : Nat) (L : AL) (B : BL) (kd : Kd) (o : Oper) : Option (Option Prop × AL × BL) :=
  match gd ops L o.guard with
  | none => none
  | some false => match o.dst with
    | some d => match Nat.blt d n with | true => some (none, (d, .ct (.ex undef)) :: L, B) | false => none
    | none => none
  | some true => match o.dst with
    | none => match Own.stS T L B kd o.op with | some B' => some (none, L, B') | none => none
    | some d => match Nat.blt d n with
      | false => none
      | true => match Own.vS T L B kd o.op with | some (p, s, B') => some (p, (d, s) :: L, B') | none => none
theorem Ops.stO(hT:TabOk X.P T){o:Oper}{L' :AL}{B' :BL}{p:Option Prop}(he:Own.stO T ops X.n L B kd o=some (p,L',B'))(hp:ob p)(h:Ops X ops r L' B' K):Ops X ops (.cons o kd r) L B K:=by
 obtain ⟨dst,op,t,pos,af,g⟩:=o
 unfold Own.stO at he
 dsimp only at he
 split at he
 · cases he
 · rename_i hg
   split at he
   · split at he
     · rename_i hn;cases he;exact Xr hg rfl hn h
     · cases he
   · cases he
 · rename_i hg
   split at he
   · split at he
     · rename_i hs;cases he;exact Ops.stS hT hs hg h
     · cases he
   · split at he
     · cases he
     · rename_i hn
       split at he
       · rename_i hv;cases he;exact Ops.vS hT hv hp hg hn h
       · cases he
end
def popK : Exit → List Kf → Exit × List Kf
  | e, [] => (e, [])
  | .ret, _ :: k => popK .ret k
  | .exit i, .bl id :: k => match Nat.beq i id with | true => popK .normal k | false => popK (.exit i) k
  | .exit i, .th _ :: k => popK (.exit i) k
  | .exit i, .lp _ :: k => popK (.exit i) k
  | .normal, .bl _ :: k => popK .normal k
  | e, k => (e, k)
theorem popK_ok{X:Ctx}{L:AL}{B:BL}{Q:Exit ->Act ->World ->Prop}:∀{k:List Kf} {e:Exit},Fin X L B (fun x w=>den X.P Q (popK e k).2 (popK e k).1 x w) ->Fin X L B (fun x w=>den X.P Q k e x w)
 | [],e,h=>by cases e <;>exact h
 |f::k,e,h=>by
  cases e with
  |ret=>cases f <;>first|exact Zl (popK_ok h)|exact Fin.blockRet (popK_ok h)
  |exit i=>
   cases f with
   |th y=>exact Fin.thenExit (popK_ok h)
   |lp y=>exact Fin.thenExit (popK_ok h)
   |bl id=>
    cases hb:Nat.beq i id with
    |true=>simp only [popK,hb] at h;rw [Nat.eq_of_beq_eq_true hb];exact Fin.blockE (popK_ok h)
    |false=>simp only [popK,hb] at h;exact Fin.blockX hb (popK_ok h)
  |normal=>cases f <;>first|exact Qd (popK_ok h)|exact h
  |_=>exact h
def popC : Cf → Cf
  | .fin e k => match popK e k with | (e', k') => .fin e' k'
  | c => c
def stC (T : Tab) (n : Nat) (L : AL) (B : BL) : Cf → Option (Option Prop × AL × BL × Cf)
  | .ops _ .nil k => some (none, L, B, .fin .normal k)
  | .ops a (.cons o kd r) k => match stO T a n L B kd o with | some (p, L', B') => some (p, L', B', .ops a r k) | none => none
  | .ops _ (.fork _ _ _ _) _ => none
  | .code c k => match c with
    | .seq x y => some (none, L, B, .code x (.th y :: k))
    | .region _ ops false => some (none, L, B, .ops ops (kind2 ops.toList) k)
    | .skip => some (none, L, B, .fin .normal k)
    | .exit i => some (none, L, B, .fin (.exit i) k)
    | .ret => some (none, L, B, .fin .ret k)
    | .block i x => some (none, L, B, .code x (.bl i :: k))
    | .cond c x y => match ev L c with
      | some (.ct (.ex (.bool true))) => some (none, L, B, .code x k)
      | some (.ct (.ex (.bool false))) => some (none, L, B, .code y k)
      | _ => none
    | _ => none
  | .fin e k => match popK e k with
    | (.normal, .th y :: k) => some (none, L, B, .code y k)
    | (.normal, .lp f :: _) => some (none, L, B, .lp f)
    | _ => none
  | .lp _ => none
section
variable {X : Ctx} {L : AL} {B : BL} {Q : Exit → Act → World → Prop} {T : Tab}
theorem St.regA{id:Nat}:∀{ops:Array Oper},Ops X ops (kind2 ops.toList) L B (fun a w=>Q .normal a w) ->St X L B (.region id ops false) Q
 |⟨_⟩,h=>XJ h
theorem Cf.st(hT:TabOk X.P T){c c' :Cf}{L' :AL}{B' :BL}{p:Option Prop}(he:stC T X.n L B c=some (p,L',B',c'))(hp:ob p)(h:c'.goal X Q L' B'):c.goal X Q L B:=by
 unfold stC at he
 split at he
 · cases he;exact Qz h
 · split at he
   · rename_i ho;cases he;exact Ops.stO hT ho hp h
   · cases he
 · cases he
 · split at he
   · cases he;exact Xc h
   · cases he;exact St.regA h
   · cases he;exact St.skip h
   · cases he;exact St.exit h
   · cases he;exact St.ret h
   · cases he;exact St.block h
   · split at he
     · rename_i hc;cases he;exact St.condT hc h
     · rename_i hc;cases he;exact St.condF hc h
     · cases he
   · cases he
 · split at he
   · rename_i h5;cases he;refine popK_ok ?_;rw [h5];exact Qt h
   · rename_i h5;cases he;refine popK_ok ?_;rw [h5];exact Fin.thenN h
   · cases he
 · cases he
theorem Cf.pop:∀{c:Cf},(popC c).goal X Q L B ->c.goal X Q L B
 | .fin _ _,h=>popK_ok h
 | .ops _ _ _,h=>h
 | .code _ _,h=>h
 | .lp _,h=>h
def stN (T : Tab) (n : Nat) : Nat → Option Prop → AL → BL → Cf → Option (Option Prop × AL × BL × Cf)
  | 0, p, L, B, c => some (p, L, B, popC c)
  | m + 1, p, L, B, c => match stC T n L B c with
    | some (none, L', B', c') => stN T n m p L' B' c'
    | some (some q, L', B', c') => match p with
      | none => stN T n m (some q) L' B' c'
      | some p => stN T n m (some (p ∧ q)) L' B' c'
    | none => none
theorem Cf.run(hT:TabOk X.P T):∀(m:Nat) {p q:Option Prop} {c c' :Cf} {L L' :AL} {B B' :BL},stN T X.n m p L B c=some (q,L',B',c') ->ob q ->ob p/\ (c'.goal X Q L' B' ->c.goal X Q L B)
 |0,p,q,c,c',L,L',B,B',h,hq=>by cases h;exact ⟨hq,Cf.pop⟩
 |m+1,p,q,c,c',L,L',B,B',h,hq=>by
  unfold stN at h
  split at h
  · rename_i hs
    obtain ⟨h1,h2⟩:=Cf.run hT m h hq
    exact ⟨h1,fun hg=>Cf.st hT hs trivial (h2 hg)⟩
  · rename_i hs
    split at h
    · obtain ⟨h1,h2⟩:=Cf.run hT m h hq
      exact ⟨trivial,fun hg=>Cf.st hT hs h1 (h2 hg)⟩
    · obtain ⟨h1,h2⟩:=Cf.run hT m h hq
      exact ⟨h1.1,fun hg=>Cf.st hT hs h1.2 (h2 hg)⟩
  · cases h
end
section
variable {X : Ctx} [H : Inhabited (HasTab X.P)] {L L' : AL} {B B' : BL} {Q : Exit → Act → World → Prop} {K : Act → World → Prop} {ops : Array Oper} {l : Pl} {c : Code} {e : Exit} {k : List Kf} {c' : Cf} {p : Prop} (n : Nat)
theorem Qq(h:stN H.1.T X.n n none L B (.ops ops l k)=some (none,L',B',c'))(g:c'.goal X Q L' B'):Ops X ops l L B (fun x w=>den X.P Q k .normal x w):=(Cf.run H.1.ok n h trivial).2 g
theorem QZ(h:stN H.1.T X.n n none L B (.ops ops l k)=some (some p,L',B',c'))(hp:p)(g:c'.goal X Q L' B'):Ops X ops l L B (fun x w=>den X.P Q k .normal x w):=(Cf.run H.1.ok n h hp).2 g
theorem Q2(h:stN H.1.T X.n n none L B (.ops ops l [])=some (none,L',B',c'))(g:c'.goal X (fun _=>K) L' B'):Ops X ops l L B K:=(Cf.run (Q:=fun _=>K) H.1.ok n h trivial).2 g
theorem Zf(h:stN H.1.T X.n n none L B (.ops ops l [])=some (some p,L',B',c'))(hp:p)(g:c'.goal X (fun _=>K) L' B'):Ops X ops l L B K:=(Cf.run (Q:=fun _=>K) H.1.ok n h hp).2 g
theorem Qj(h:stN H.1.T X.n n none L B (.code c k)=some (none,L',B',c'))(g:c'.goal X Q L' B'):St X L B c (den X.P Q k):=(Cf.run H.1.ok n h trivial).2 g
theorem Xz(h:stN H.1.T X.n n none L B (.code c k)=some (some p,L',B',c'))(hp:p)(g:c'.goal X Q L' B'):St X L B c (den X.P Q k):=(Cf.run H.1.ok n h hp).2 g
theorem Xs(h:stN H.1.T X.n n none L B (.fin e k)=some (none,L',B',c'))(g:c'.goal X Q L' B'):Fin X L B (fun x w=>den X.P Q k e x w):=(Cf.run H.1.ok n h trivial).2 g
theorem Fin.Ro(h:stN H.1.T X.n n none L B (.fin e k)=some (some p,L',B',c'))(hp:p)(g:c'.goal X Q L' B'):Fin X L B (fun x w=>den X.P Q k e x w):=(Cf.run H.1.ok n h hp).2 g
end
section
variable {X : Ctx} {L : AL} {B : BL}
theorem St.den{c:Code}{Q:Exit ->Act ->World ->Prop}(h:St X L B c (den X.P Q [])):St X L B c Q:=h
theorem subL_e:∀(L' :AL),(L'.map fun p=>look L p.1)=(L'.map fun p=>some p.2) ->subL L L'
 | [],_=>trivial
 |(d,s)::r,h=>by
  injection h with h1 h2
  exact ⟨h1,subL_e r h2⟩
theorem Qx{L' :AL}{B' :BL}(h:(B,L'.map fun p=>look L p.1)=(B',L'.map fun p=>some p.2)):Entails X L B L' B' :=QW (congrArg (·.1) h) (subL_e L' (congrArg (·.2) h))
end
section
variable {X : Ctx} {L : AL} {B : BL} {ops : Array Oper} {K : Act → World → Prop} {r : Pl} {k : Kd}
  {x y : Operand} {d : Nat} {t t' : TypeId} {pos : String} {af : Array Edge} {g : Option (Nat × Bool)}
def resT (T : Tab) (L : AL) (B : BL) : List ResultVar → Option (List CT)
  | [] => some []
  | .tmp s :: r => match look L s with
    | some (.ct c) => match resT T L B r with | some cs => some (c :: cs) | none => none
    | _ => none
  | .cell s t :: r => match look L s with
    | some (.own i) => match bget B i with
      | some (.box _ cs) => match has T.one t with
        | true => match cs, resT T L B r with | c :: _, some ds => some (c :: ds) | _, _ => none
        | false => match lkp T.str t with
          | some (zv, _) => match Nat.beq (lenC cs) (lenC zv.cells.toList), resT T L B r with | true, some ds => some (.agg cs :: ds) | _, _ => none
          | none => none
      | _ => none
    | _ => none
theorem resT_ok{T:Tab}(hT:TabOk X.P T):∀{rv:List ResultVar} {cs:List CT},resT T L B rv=some cs ->AllRes X L B rv cs
 | [],cs,h=>by injection h with h;subst h;exact Q3
 | .tmp s::r,cs,h=>by
  unfold resT at h
  split at h
  · rename_i hl
    split at h
    · rename_i hr;injection h with h;subst h;exact Q4 hl (resT_ok hT hr)
    · cases h
  · cases h
 | .cell s t::r,cs,h=>by
  unfold resT at h
  split at h
  · rename_i hl
    split at h
    · rename_i hi
      split at h
      · rename_i h1
        split at h
        · rename_i hr;injection h with h;subst h;exact AllRes.cell1 hl hi (hT.ld1 h1).1 (resT_ok hT hr)
        · cases h
      · split at h
        · rename_i ht
          split at h
          · rename_i hb hr
            injection h with h;subst h
            have hb:=Nat.eq_of_beq_eq_true hb
            rw [lenC_eq] at hb
            exact Qi hl hi (hT.st ht).2.1 hb (resT_ok hT hr)
          · cases h
        · cases h
    · cases h
  · cases h
theorem Qw [H:Inhabited (HasTab X.P)]{fn:Func}{cs:List CT}{R:CT}(h:(resT H.1.T L B fn.results.toList,X.bor)=(some cs,noBor))(hR:R=retC cs):Fin X L B (fun a w=>bodyPost X.P fn (okPost X R) .ret a w):=
 X5 fn.results.toList (Array.toArray_toList).symm (resT_ok H.1.ok (congrArg (·.1) h)) hR (congrArg (·.2) h)
theorem Qv{f:FuncId}{args:List Operand}{tys:Array TypeId}{As:List CT}{R:CT}(hgo:InGo X.P f)(hok:Ok X.P f As R)(h:(gd ops L g,evs L args,k.mk,Nat.blt d X.n)=(some true,some As,true,true))
  (h2:Ops X ops r ((d, .ct R)::L) B K):Ops X ops (.cons ⟨some d, .call {callee:= .value (.func f),args:=args.toArray,argTypes:=tys},t,pos,af,g⟩ k r) L B K:=by
 injection h with h1 h;injection h with h3 h;injection h with h4 h5
 exact Zy hgo hok h1 h3 h4 h5 h2
theorem QV{α:Type}{l:List α}{f:α ->List CT}{el n:Nat}(hu:X.P.underlying t=some (.slice el))(h:(gd ops L g,ev L x,Nat.blt d X.n)=(some true,some (.ct (.fr (sliceT n (l.map f)))),true))
  (h2:Ops X ops r ((d, .ct (.ex (.int .i64 l.length)))::L) B K):Ops X ops (.cons ⟨some d, .call {callee:= .builtin .len,args:= #[x],argTypes:= #[t]},t',pos,af,g⟩ k r) L B K:=by
 injection h with h1 h;injection h with h3 h4
 exact Ops.lenF h1 h3 hu (List.length_map ..) h4 h2
theorem Q8{α:Type}{l:List α}{f:α ->List CT}{el n bytes:Nat}{zv:Value}{kk:IntKind}{j:Int}(z:α)(hT:SlcT X.P t el n bytes zv)
  (h:(gd ops L g,ev L x,ev L y,Nat.blt d X.n)=(some true,some (.ct (.fr (sliceT n (l.map f)))),some (.ct (.ex (.int kk j))),true)) (hj:0<=j/\ j<l.length)
  (h2:Ops X ops r ((d, .ct (.ptr (f (l.getD j.toNat z))))::L) B K):Ops X ops (.cons ⟨some d, .indexAddr t x y,t',pos,af,g⟩ k r) L B K:=by
 injection h with h1 h;injection h with h3 h;injection h with h4 h5
 refine Ops.idxF h1 h3 h4 hT hj.1 ?_ h5 h2
 have hlt:j.toNat<l.length:=by omega
 rw [List.getElem?_map,List.getD_eq_getElem?_getD,List.getElem?_eq_getElem hlt]
 rfl
end
theorem XY{X:Ctx}{L:AL}{B:BL}{id:Nat}{l:List Oper}{Q:Exit ->Act ->World ->Prop} [H:Inhabited (HasTab X.P)](N n:Nat){ord:Od}(_:dcO 999 n=some (ord,0))(h:Ops X l.toArray (pick l ord) L B (fun a w=>Q .normal a w))
  (hc:(Region.noSelect l.toArray&&chk l.toArray N ord l.length (Array.replicate l.length false))=true:=by kernel_rfl):St X L B (.region id l.toArray true) Q:=St.draw H.1.mx N ord hc h
def stQ (T : Tab) (n : Nat) (l : List Oper) (L : AL) (B : BL) : Oq → Option ((Option Prop × AL × BL) × Oq)
  | .p i r => (stO T l.toArray n L B .pure (nth l i)).map fun x => (x, r)
  | .f i r => (stO T l.toArray n L B .free (nth l i)).map fun x => (x, r)
  | .m i r .non => (stO T l.toArray n L B .makes (nth l i)).map fun x => (x, r)
  | .a i r .non => (stO T l.toArray n L B .any (nth l i)).map fun x => (x, r)
  | _ => none
def goQ (T : Tab) (n : Nat) (l : List Oper) : Nat → Option Prop → AL → BL → Oq → Option (Option Prop × AL × BL × Oq)
  | 0, p, L, B, q => some (p, L, B, q)
  | m + 1, p, L, B, q =>
    match stQ T n l L B q with
    | some ((none, L', B'), r) => goQ T n l m p L' B' r
    | some ((some o, L', B'), r) => match p with
      | none => goQ T n l m (some o) L' B' r
      | some p => goQ T n l m (some (p ∧ o)) L' B' r
    | none => none
section
variable {X : Ctx} {L L' : AL} {B B' : BL} {K : Act → World → Prop} {l : List Oper} {T : Tab}
theorem YJ{i:Nat}{r:Oq}(h:Ops X l.toArray (.cons (nth l i) .any .nil) L B (wpQ X.P l K r)):Fin X L B (wpQ X.P l K (.a i r .non)):=Q0 h Qu
theorem Fin.qm1{i:Nat}{r:Oq}(h:Ops X l.toArray (.cons (nth l i) .makes .nil) L B (wpQ X.P l K r)):Fin X L B (wpQ X.P l K (.m i r .non)):=Ql h Qu
theorem stQ_ok(hT:TabOk X.P T){q r:Oq}{x:Option Prop × AL × BL}(e:stQ T X.n l L B q=some (x,r))(hx:ob x.1)(g:Fin X x.2.1 x.2.2 (wpQ X.P l K r)):Fin X L B (wpQ X.P l K q):=by
 unfold stQ at e
 split at e <;>first|cases e|(simp only [Option.map_eq_some_iff,Prod.mk.injEq] at e;obtain ⟨y,h1,rfl,rfl⟩:=e;first|exact X7 (Ops.stO hT h1 hx (Qz g))|exact Xt (Ops.stO hT h1 hx (Qz g))|exact Fin.qm1 (Ops.stO hT h1 hx (Qz g))|exact YJ (Ops.stO hT h1 hx (Qz g)))
theorem goQ_ok(hT:TabOk X.P T):∀(m:Nat) {p o:Option Prop} {q q' :Oq} {L L' :AL} {B B' :BL},goQ T X.n l m p L B q=some (o,L',B',q') ->ob o ->ob p/\ (Fin X L' B' (wpQ X.P l K q') ->Fin X L B (wpQ X.P l K q))
 |0,p,o,q,q',L,L',B,B',h,ho=>by cases h;exact ⟨ho,id⟩
 |m+1,p,o,q,q',L,L',B,B',h,ho=>by
  unfold goQ at h
  split at h
  · rename_i hs
    obtain ⟨h1,h2⟩:=goQ_ok hT m h ho
    exact ⟨h1,fun g=>stQ_ok hT hs trivial (h2 g)⟩
  · rename_i hs
    split at h
    · obtain ⟨h1,h2⟩:=goQ_ok hT m h ho
      exact ⟨trivial,fun g=>stQ_ok hT hs h1 (h2 g)⟩
    · obtain ⟨h1,h2⟩:=goQ_ok hT m h ho
      exact ⟨h1.1,fun g=>stQ_ok hT hs h1.2 (h2 g)⟩
  · cases h
variable [H : Inhabited (HasTab X.P)] (n : Nat) {q q' : Oq} {p : Prop}
theorem Xw(h:goQ H.1.T X.n l n none L B q=some (none,L',B',q'))(g:Fin X L' B' (wpQ X.P l K q')):Fin X L B (wpQ X.P l K q):=(goQ_ok H.1.ok n h trivial).2 g
theorem Fin.qRo(h:goQ H.1.T X.n l n none L B q=some (some p,L',B',q'))(hp:p)(g:Fin X L' B' (wpQ X.P l K q')):Fin X L B (wpQ X.P l K q):=(goQ_ok H.1.ok n h hp).2 g
end
def okF (P : Program) (f : Nat) : Bool := match P.funcs[f]? with
  | some fn => !fn.body.isNone && !(fn.name == "runtime.NumGoroutine")
  | none => false
def tb (m f : Nat) : Bool := Nat.beq (Nat.mod (Nat.shiftRight m f) 2) 1
theorem gT0{P:Program}{M:Nat}(n:Nat)(lt:Nat.shiftRight M n=0)(ok:(List.range n).all (fun f=> !tb M f||okF P f)=true){f:Nat}(h:tb M f=true):InGo P f:=by
 have hf:f<n:=by
  rcases Nat.lt_or_ge f n with h1|h1
  · exact h1
  · have h2:M>>>f=0:=by
     have h3:M>>>n=0:=lt
     rw [show f=n+(f - n) by omega,Nat.shiftRight_add,h3,Nat.zero_shiftRight]
    have h3:Nat.beq (M>>>f%2) 1=true:=h
    rw [h2] at h3;cases h3
 have h2:=List.all_eq_true.1 ok f (List.mem_range.2 hf)
 rw [h] at h2
 have h2:okF P f=true:=h2
 unfold okF at h2
 split at h2
 · rename_i fn e
   rw [Bool.and_eq_true,Bool.not_eq_true',Bool.not_eq_true'] at h2
   exact InGo.of e h2.1 h2.2
 · cases h2
section
variable {X : Ctx} {L : AL} {B : BL} {ops : Array Oper} {K : Act → World → Prop} {r : Pl} {k : Kd}
  {x y z : Operand} {d : Nat} {t t2 t' : TypeId} {pos : String} {af : Array Edge} {g : Option (Nat × Bool)}
theorem Zt{el n bytes gb m c q cq:Nat}{zv:Value}{kk:IntKind}{j:Int}{cs:List CT}(e p:Nat)(hg:gd ops L g=some true)(hx:ev L x=some (.ct (.ex (kh gb (p*n) q cq))))(hi:bget B e=some (.rowx (kh gb 0 m c) el n cs))(hy:ev L y=some (.ct (.ex (.int kk j))))(hT:SlcT X.P t el n bytes zv)(h0:0<=j)(hj:j<q)
  (hn:Nat.blt d X.n=true) (h:Ops X ops r ((d, .loc e ((p+j.toNat)*n))::L) B K):Ops X ops (.cons ⟨some d, .indexAddr t x y,t',pos,af,g⟩ k r) L B K:=
 XW (s:= .loc e ((p+j.toNat)*n)) hg rfl hn (fun a ρ w hI=>by
  have h1:a.eval x=kh gb (p*n) q cq:=hI.evx hx
  have h2:ρ e=kh gb 0 m c:=(hI.ent e _ hi).1.1
  obtain ⟨nf,hi2,hs,_⟩:=hT.inf
  refine ⟨.pointer (some ⟨gb,(p+j.toNat)*n,none⟩),fun w' _=> ?_,gb,by rw [h2];rfl,rfl⟩
  show (do pure (Next.value (<- Instr.indexAt t (a.eval x) (a.eval y))):Sem Next).run X.P w' =_
  rw [h1,hI.evx hy]
  refine X9 ?_
  rw [run_index hT.und hi2 h0 (by omega),hs,<- Nat.add_mul]) h
theorem St.nameS{c' :Code}{Q:Exit ->Act ->World ->Prop}(dd i m:Nat){el n:Nat}{cs:List CT}(hd:look L dd=some (.own i))(hi:bget B i=some (.row el n cs))(hl:cs.length=m*n)(hm:0<m)(hp:0<n)
  (h:∀gb c,m<=c ->c<=maxLen ->St X ((dd, .ct (.ex (kh gb 0 m c)))::L) (bset B i (.rowx (kh gb 0 m c) el n cs)) c' Q):St X L B c' Q:=Fin.nameS dd i m hd hi hl hm hp h
theorem Is.cutOff{a:Act}{ρ:Nat ->Value}{w:World}(hI:Is X L B a ρ w){i gb m c el n:Nat}{cs:List CT}(q:Nat)(hi:bget B i=some (.rowx (kh gb 0 m c) el n cs))(hl:cs.length=m*n)(hp:0<n)(hq:q<=m):
  Is X (Own.killL i L) (bset B i (.rowx (kh gb 0 q c) el n (cs.take (q*n)))) a (upd ρ i (kh gb 0 q c)) w:=by
 obtain ⟨hρ,vs,cur,hc,hlv,hgb,hmc,hcm,hcz,htk⟩:=hI.rowK hi hl hp;have hjn:q*n<=m*n:=Nat.mul_le_mul_right _ hq
 have hW:=Is.write (i:=i) (v:=kh gb 0 q c) (e' := .rowx (kh gb 0 q c) el n (cs.take (q*n))) (w' :=w) (hI.killL i) hi J J J (Nat.le_refl _) (fun _ _ _=>rfl) (.inl (by rw [hρ];rfl))
  (fun S' hk=>⟨rfl,q,vs.take (q*n),⟨by rw [List.length_take,hlv];omega, .inr ⟨gb,c,cur,rfl,Nat.zero_le _,hgb,by omega,hcm,hcz,by rw [<- htk,List.take_take];congr 1;omega⟩⟩,(hc.take _).mono hk⟩) (.inr (noN_killL i L)) (.inr J)
 exact hW.bext (Xi hi)
theorem Ops.cutOff{l:Pl}{gb m c el n:Nat}{cs cs' :List CT}(i q:Nat)(hi:bget B i=some (.rowx (kh gb 0 m c) el n cs))(hl:cs.length=m*n)(hp:0<n)(hq:q<=m)(hcs:cs.take (q*n)=cs')
  (h:Ops X ops l (killL i L) (bset B i (.rowx (kh gb 0 q c) el n cs')) K):Ops X ops l L B K:=fun a ρ w hI=>by
 subst hcs
 exact h a (upd ρ i (kh gb 0 q c)) w (hI.cutOff q hi hl hp hq)
theorem stEX{α:Type}{n i j el:Nat}{v0:Value}{l:List α}(f:α ->List CT)(c:α)(hf:∀a,(f a).length=n)(hg:gd ops L g=some true)(hx:ev L x=some (.loc i (j*n)))(hi:bget B i=some (.rowx v0 el n ((l.map f).flatten)))(hy:ev L y=some (.ct (.agg (f c))))(ho:ones (f c)=true)(hj:j<l.length)(hsz:(X.P.info? t).map (·.size)=some n)
  (h:Ops X ops r L (bset B i (.rowx v0 el n (((l.set j c).map f).flatten))) K):Ops X ops (.cons ⟨none, .store t x y,t',pos,af,g⟩ .any r) L B K:=
 Ops.stNA hg hx hi hy ho (by rw [hsz,hf]) (by show j*n+(f c).length<=_;rw [hf];show _<=(l.map f).flatten.length;rw [el_len hf,<- Nat.succ_mul];exact Nat.mul_le_mul_right _ hj) (by
  have:(Ent.rowx v0 el n ((l.map f).flatten)).putc (j*n) (f c)= .rowx v0 el n (((l.set j c).map f).flatten):=by rw [<- el_put hf c hj];rfl
  rw [this];exact h)
end
theorem run_getMap{P:Program}{w:World}{r:Nat}{es:Array MapEntry}{clock:Nat}(h:w.heap[r]? =some (.map es clock)):(getObj r).run P w= .ok (.map es clock) w:=by simp [getObj,Sem.run,h]
theorem run_setMap{P:Program}{w:World}{r:Nat}{es:Array MapEntry}{clock:Nat}(o:Obj)(h:w.heap[r]? =some (.map es clock)):(setObj r o).run P w= .ok () {w with heap:=w.heap.setIfInBounds r o}:=by simp [setObj,Sem.run,h]
structure KeyT (P : Program) (t : TypeId) {κ : Type} [DecidableEq κ] (enc : κ → Value) : Prop where
  now : ∀ (l : List MapEntry) (i : Nat) (a : κ) (D : TypeDesc), P.underlying t = some D → l ≠ [] → (∀ e ∈ l, ∃ b, e.key = enc b) → Instr.findNow D (enc a) l i = none
  und : ∃ D, P.underlying t = some D
  eq : ∀ (a b : κ) (w : World), (Op.equal t (enc a) (enc b)).run P w = .ok (decide (a = b)) w
  ck : ∀ (e : Bool) (a : κ) (w : World), (Instr.checkKey e 10000 t (enc a)).run P w = .ok () w
  sb : ∀ a : κ, Instr.sameBits 10000 (enc a) (enc a) = true
section
variable {κ β : Type} [DecidableEq κ]
def ins : List (κ × β) → κ → β → List (κ × β)
  | [], a, b => [(a, b)]
  | (k, v) :: l, a, b => if a = k then (a, b) :: l else (k, v) :: ins l a b
def look1 : List (κ × β) → κ → Option β
  | [], _ => none
  | (k, v) :: l, a => if a = k then some v else look1 l a
theorem look1_ins(l:List (κ × β))(a:κ)(b:β)(c:κ):look1 (ins l a b) c=if c=a then some b else look1 l c:=by
 induction l with
 |nil=>simp [ins,look1]
 |cons p l ih=>
  obtain ⟨k,v⟩:=p;simp only [ins];by_cases h:a=k
  · subst h;simp only [if_true,look1];by_cases h2:c=a
    · simp [h2]
    · simp [h2]
  · rw [if_neg h];simp only [look1,ih];by_cases h2:c=k
    · subst h2;simp [Ne.symm h]
    · simp [h2]
def idx1 : List (κ × β) → κ → Option Nat
  | [], _ => none
  | (k, _) :: l, a => if a = k then some 0 else (idx1 l a).map (· + 1)
theorem look1_idx(a:κ):∀al:List (κ × β),look1 al a=(idx1 al a).bind fun j=>(al[j]?).map (·.2)
 | []=>rfl
 |(k,v)::l=>by
  simp only [look1,idx1]
  by_cases h:a=k
  · simp [h]
  · rw [if_neg h,if_neg h,look1_idx a l]
    cases idx1 l a <;>simp
theorem ins_idx(a:κ)(b:β):∀al:List (κ × β),ins al a b=match idx1 al a with|none=>al++ [(a,b)]|some j=>al.set j (a,b)
 | []=>rfl
 |(k,v)::l=>by
  simp only [ins,idx1]
  by_cases h:a=k
  · simp [h]
  · rw [if_neg h,if_neg h,ins_idx a b l]
    cases idx1 l a <;>simp
theorem idx1_key(a:κ):∀(al:List (κ × β)) (j:Nat),idx1 al a=some j ->∃b,al[j]? =some (a,b)
 | [],_,h=>by cases h
 |(k,v)::l,j,h=>by
  simp only [idx1] at h
  by_cases h1:a=k
  · rw [if_pos h1] at h;injection h with h;subst h;exact ⟨v,by simp [h1]⟩
  · rw [if_neg h1] at h
    obtain ⟨q,hq,rfl⟩:=Option.map_eq_some_iff.1 h
    obtain ⟨b,hb⟩:=idx1_key a l q hq
    exact ⟨b,by simpa using hb⟩
def kvs (enc : κ → Value) (cv : β → CT) (al : List (κ × β)) : List (Value × CT) := al.map fun p => (enc p.1, cv p.2)
variable {P : Program} {kt : TypeId} {enc : κ → Value} {cv : β → CT}
theorem run_ask(h:KeyT P kt enc)(a:κ)(w:World):∀(al:List (κ × β)) (es:List MapEntry) (i:Nat),es.map (·.key)=al.map (fun p=>enc p.1) ->
  (Instr.findAsking kt (enc a) es i).run P w= .ok ((idx1 al a).bind fun j=>(es[j]?).map fun e=>(i+j,e.val)) w
 | [],[],i,_=>rfl
 | [],_::_,_,h0=>by simp at h0
 |_::_,[],_,h0=>by simp at h0
 |(k,v)::al,e::es,i,h0=>by
  simp only [List.map_cons,List.cons.injEq] at h0
  obtain ⟨h1,h2⟩:=h0
  have he:=h.eq a k w
  rw [<- h1] at he
  have ih:=run_ask h a w al es (i+1) h2
  simp only [Instr.findAsking,Sem.run_bind,he,Result.andThen_ok,idx1]
  by_cases hak:a=k
  · simp [hak]
  · rw [if_neg hak]
    simp only [hak,decide_false,Bool.false_eq_true,if_false,ih]
    cases idx1 al a with
    |none=>rfl
    |some j=>
     simp only [Option.map_some,Option.bind_some,List.getElem?_cons_succ]
     congr 2
     funext e
     congr 1
     omega
theorem run_find(h:KeyT P kt enc)(a:κ)(w:World)(al:List (κ × β))(es:List MapEntry)(h0:es.map (·.key)=al.map (fun p=>enc p.1)):
  (Instr.findKey kt (enc a) es).run P w= .ok ((idx1 al a).bind fun j=>(es[j]?).map fun e=>(j,e.val)) w:=by
 obtain ⟨D,hD⟩:=h.und;have g1:=run_ask h a w al es 0 h0;simp only [Nat.zero_add] at g1
 cases es with
 |nil=>
  have:al=[]:=by cases al with
   |nil=>rfl
   |cons p l=>simp at h0
  subst this;simp [Instr.findKey,run_underlying hD,Instr.findNow,idx1]
 |cons e es=>
  have:=h.now (e::es) 0 a D hD (by simp) (fun e' he=>by
   have hm:e'.key∈(e::es).map (·.key):=List.mem_map_of_mem he;rw [h0] at hm;obtain ⟨p,_,hp⟩:=List.mem_map.1 hm
   exact ⟨p.1,hp.symm⟩)
  simp only [Instr.findKey,Sem.run_bind,run_underlying hD,Result.andThen_ok,this];exact g1
end
section
variable {X : Ctx} {L : AL} {B : BL} {ops : Array Oper} {K : Act → World → Prop} {r : Pl} {k : Kd}
  {x y z : Operand} {d : Nat} {t t2 t' : TypeId} {pos : String} {af : Array Edge} {g : Option (Nat × Bool)}
def KeyIs (X : Ctx) (L : AL) (B : BL) (y : Operand) (v : Value) : Prop := ∀ a ρ w, Is X L B a ρ w → a.eval y = v
theorem cells_exact{S:BSet}{w:World}:∀{us vs:List Value},cells S w (us.map CT.ex) vs ->vs=us
 | [],[],_=>rfl
 |u::us,v::vs,⟨h1,h2⟩=>by
  have:v=u:=h1
  rw [this,cells_exact h2]
 | [],_::_,h=>h.elim
 |_::_,[],h=>h.elim
theorem KeyIs.agg{us:List Value}(h:ev L y=some (.ct (.agg (us.map CT.ex)))):KeyIs X L B y (.agg us.toArray):=fun a ρ w hI=>by
 obtain ⟨vs,h1,h2⟩:=hI.ev h
 rw [h1,cells_exact h2]
theorem Fin.nameM(dd i:Nat){kv:List (Value × CT)}(hd:look L dd=some (.own i))(hi:bget B i=some (.mp kv))(h:∀v:Value,v.oneCell' =true ->Fin X ((dd, .ct (.ex v))::L) (bset B i (.mpx v kv)) K):Fin X L B K:=fun a ρ w hI=>by
 have h1:a.tmps.getD dd undef=ρ i:=hI.slot dd _ hd
 have h2:=(hI.ent i _ hi).1
 exact h (ρ i) (by obtain ⟨q,hq,_⟩:=h2;rw [hq];rfl) a ρ w ((hI.retype (e' := .mpx (ρ i) kv) hi ⟨rfl,h2⟩ rfl).slotx (s:= .ct (.ex (ρ i))) h1)
theorem Ops.mkMap(i:Nat)(hk:k.mk=true)(hg:gd ops L g=some true)(hN:noN i L=true)(hB:bget B i=none)(hn:Nat.blt d X.n=true)
  (h:∀v:Value,v.oneCell' =true ->Ops X ops r ((d, .ct (.ex v))::(d, .own i)::L) ((i, .mpx v [])::B) K):Ops X ops (.cons ⟨some d, .makeMap t none,t',pos,af,g⟩ k r) L B K:=
 Ops.mkE (e:= .mp []) hk hg rfl hn hN hB (fun a ρ w hI=>by
  refine ⟨.map (some w.heap.size),w.alloc (.map #[] 0),?_,Yc _ _,fun q hq=> ?_,fun S' hk=>⟨w.heap.size,rfl, #[],0,heap_alloc_new w _,rfl,trivial,⟨fun _ h=>(nomatch h),List.Pairwise.nil⟩⟩⟩
  · show (do pure (Next.value (<- Instr.makeMap t none)):Sem Next).run X.P w=_
    refine X9 ?_
    simp [Instr.makeMap]
  · injection hq with hq;subst hq;exact Nat.le_refl _)
  (Fin.nameM d i (ZX ..) (QU ..) fun v hv=>by
   have hbs:bset ((i,Ent.mp [])::B) i (.mpx v [])=(i, .mpx v [])::B:=by simp only [bset,Nat.beq_refl]
   rw [hbs];exact h v hv)
variable {κ β : Type} [DecidableEq κ] {kt et mt : TypeId} {enc : κ → Value} {cv : β → CT}
omit [DecidableEq κ] in
theorem kvs_keys{al:List (κ × β)}{es:Array MapEntry}(h:es.toList.map (·.key)=(kvs enc cv al).map (·.1)):es.toList.map (·.key)=al.map (fun p=>enc p.1):=by rw [h];simp [kvs]
theorem run_lookup{P:Program}{S:BSet}{w:World}{gb:Nat}{al:List (κ × β)}{zv:Value}(z0:β)(ok:Bool)(a:κ)(hm:P.underlying mt=some (.map kt et))(hz:∀w,(zeroValue et).run P w= .ok zv w)(hz0:(cv z0).p S w zv)(hK:KeyT P kt enc)
  (hM:mapAt S w gb (kvs enc cv al)):∃v,(cv ((look1 al a).getD z0)).p S w v/\ ∀w' :World,w'.heap[gb]? =w.heap[gb]? ->(Instr.lookup mt (.map (some gb)) (enc a) ok).run P w' = .ok (if ok then .tuple #[v, .bool (look1 al a).isSome] else v) w' :=by
 obtain ⟨es,clock,h1,h2,h3,_⟩:=hM
 have hf:=fun w=>run_find hK a w al es.toList (kvs_keys h2)
 rw [look1_idx]
 cases e:idx1 al a with
 |none=>
  refine ⟨zv,hz0,fun w' hw=> ?_⟩;have hget:(getObj gb).run P w' = .ok (.map es clock) w' :=run_getMap (hw.trans h1);rw [e] at hf;simp only [Option.bind_none] at hf;simp only [Instr.lookup,Sem.run_bind,run_underlying hm,Result.andThen_ok,hget,Sem.run_pure,hK.ck,hf]
  cases ok <;>simp [hz]
 |some j=>
  obtain ⟨b,hb⟩:=idx1_key a al j e
  have hc:((kvs enc cv al).map (·.2))[j]? =some (cv b):=by
   rw [kvs,List.map_map,List.getElem?_map,hb];rfl
  obtain ⟨v,d1,d2⟩:=h3.get hc;rw [List.getElem?_map] at d1;obtain ⟨en,he,rfl⟩:=Option.map_eq_some_iff.1 d1;refine ⟨en.val,by simpa [hb] using d2,fun w' hw=> ?_⟩;have hget:(getObj gb).run P w' = .ok (.map es clock) w' :=run_getMap (hw.trans h1);rw [e] at hf;simp only [Option.bind_some,he,Option.map_some] at hf;simp only [Instr.lookup,Sem.run_bind,run_underlying hm,Result.andThen_ok,hget,Sem.run_pure,hK.ck,hf]
  cases ok <;>simp [hb]
theorem Ops.lookM{i:Nat}{hv zv:Value}{al:List (κ × β)}(z0:β)(ka:κ)(hk:k.rd=true)(hg:gd ops L g=some true)(hx:ev L x=some (.ct (.ex hv)))(hi:bget B i=some (.mpx hv (kvs enc cv al)))(hy:KeyIs X L B y (enc ka))(hm:X.P.underlying mt=some (.map kt et))(hz:∀w,(zeroValue et).run X.P w= .ok zv w)(hz0:∀S w,(cv z0).p S w zv)(hK:KeyT X.P kt enc)(hn:Nat.blt d X.n=true)
  (h:Ops X ops r ((d, .ct (cv ((look1 al ka).getD z0)))::L) B K):Ops X ops (.cons ⟨some d, .lookup mt x y false,t',pos,af,g⟩ k r) L B K:=
 Ops.rd (s:= .ct (cv ((look1 al ka).getD z0))) hk hg rfl hn (fun a ρ w hI=>by
  obtain ⟨h1,gb,h2,h3⟩:=(hI.ent i _ hi).1
  obtain ⟨v,c1,c2⟩:=run_lookup z0 false ka hm hz (hz0 (Sof X B ρ) w) hK h3
  refine ⟨v,fun w' hb=> ?_,c1⟩
  show (do pure (Next.value (<- Instr.lookup mt (a.eval x) (a.eval y) false)):Sem Next).run X.P w' =_
  rw [hI.evx hx,<- h1,h2,hy a ρ w hI]
  obtain ⟨es,clock,h4,_⟩:=h3
  exact X9 (c2 w' (hb.block gb (Z9 h4)))) h
theorem Ops.lookM2{i:Nat}{hv zv:Value}{al:List (κ × β)}(z0:β)(ka:κ)(hk:k.rd=true)(hg:gd ops L g=some true)(hx:ev L x=some (.ct (.ex hv)))(hi:bget B i=some (.mpx hv (kvs enc cv al)))(hy:KeyIs X L B y (enc ka))(hm:X.P.underlying mt=some (.map kt et))(hz:∀w,(zeroValue et).run X.P w= .ok zv w)(hz0:∀S w,(cv z0).p S w zv)(hK:KeyT X.P kt enc)(hn:Nat.blt d X.n=true)
  (h:Ops X ops r ((d, .ct (.tup [cv ((look1 al ka).getD z0), .ex (.bool (look1 al ka).isSome)]))::L) B K):Ops X ops (.cons ⟨some d, .lookup mt x y true,t',pos,af,g⟩ k r) L B K:=
 Ops.rd (s:= .ct (.tup [cv ((look1 al ka).getD z0), .ex (.bool (look1 al ka).isSome)])) hk hg rfl hn (fun a ρ w hI=>by
  obtain ⟨h1,gb,h2,h3⟩:=(hI.ent i _ hi).1
  obtain ⟨v,c1,c2⟩:=run_lookup z0 true ka hm hz (hz0 (Sof X B ρ) w) hK h3
  refine ⟨.tuple #[v, .bool (look1 al ka).isSome],fun w' hb=> ?_,[v, .bool (look1 al ka).isSome],rfl,c1,rfl,trivial⟩
  show (do pure (Next.value (<- Instr.lookup mt (a.eval x) (a.eval y) true)):Sem Next).run X.P w' =_
  rw [hI.evx hx,<- h1,h2,hy a ρ w hI]
  obtain ⟨es,clock,h4,_⟩:=h3
  exact X9 (c2 w' (hb.block gb (Z9 h4)))) h
theorem Ops.lookF{zv:Value}{al:List (κ × β)}(z0:β)(ka:κ)(hk:k.rd=true)(hg:gd ops L g=some true)(hx:ev L x=some (.ct (.fr (mapT (kvs enc cv al)))))(hy:KeyIs X L B y (enc ka))(hm:X.P.underlying mt=some (.map kt et))(hz:∀w,(zeroValue et).run X.P w= .ok zv w)(hz0:∀S w,(cv z0).p S w zv)(hK:KeyT X.P kt enc)(hn:Nat.blt d X.n=true)
  (h:Ops X ops r ((d, .ct (cv ((look1 al ka).getD z0)))::L) B K):Ops X ops (.cons ⟨some d, .lookup mt x y false,t',pos,af,g⟩ k r) L B K:=
 Ops.rd (s:= .ct (cv ((look1 al ka).getD z0))) hk hg rfl hn (fun a ρ w hI=>by
  obtain ⟨gb,h1,_,h2,h3⟩:=hI.ev hx
  obtain ⟨v,c1,c2⟩:=run_lookup z0 false ka hm hz (hz0 (Sof X B ρ) w) hK h3
  refine ⟨v,fun w' hb=> ?_,c1⟩
  show (do pure (Next.value (<- Instr.lookup mt (a.eval x) (a.eval y) false)):Sem Next).run X.P w' =_
  rw [h1,hy a ρ w hI]
  exact X9 (c2 w' (hb.block gb h2))) h
theorem run_set{P:Program}{S:BSet}{w:World}{gb:Nat}{al:List (κ × β)}{v:Value}(a:κ)(b:β)(hm:P.underlying mt=some (.map kt et))(hK:KeyT P kt enc)(hM:mapAt S w gb (kvs enc cv al))(hv:(cv b).p S w v):
  ∃(es:Array MapEntry) (clock:Nat),(Instr.mapUpdate mt (.map (some gb)) (enc a) v).run P w= .ok () {w with heap:=w.heap.setIfInBounds gb (.map es clock)}/\ es.toList.map (·.key)=(kvs enc cv (ins al a b)).map (·.1)/\ cells S w ((kvs enc cv (ins al a b)).map (·.2)) (es.toList.map (·.val))/\ Stamps es clock:=by
 obtain ⟨es,clock,h1,h2,h3,hS1,hS2⟩:=hM;have hf:=run_find hK a w al es.toList (kvs_keys h2);have hget:(getObj gb).run P w= .ok (.map es clock) w:=run_getMap h1
 have hset:∀o,(setObj gb o).run P w= .ok () {w with heap:=w.heap.setIfInBounds gb o}:=fun o=>run_setMap o h1
 rw [ins_idx]
 cases e:idx1 al a with
 |none=>
  rw [e] at hf;simp only [Option.bind_none] at hf;refine ⟨es.push {key:=enc a,val:=v,born:=clock},clock+1,?_,?_,?_,?_⟩
  · simp only [Instr.mapUpdate,Sem.run_bind,run_underlying hm,Result.andThen_ok,hget,hK.ck,hf];exact hset _
  · simp [kvs,kvs_keys h2]
  · simp only [kvs,List.map_append,List.map_cons,List.map_nil,Array.toList_push];refine cells.append (by simpa [kvs] using h3) ⟨hv,trivial⟩
  · constructor
    · intro x hx;rw [Array.toList_push,List.mem_append,List.mem_singleton] at hx;rcases hx with hx|rfl
      · exact Nat.lt_succ_of_lt (hS1 x hx)
      · exact Nat.lt_succ_self _
    · rw [Array.toList_push,List.map_append,List.nodup_append];refine ⟨hS2,by simp,fun x hx y hy hxy=> ?_⟩;rw [List.map_singleton,List.mem_singleton] at hy;obtain ⟨z,hz,rfl⟩:=List.mem_map.1 hx;have:=hS1 z hz;rw [hxy,hy] at this;exact Nat.lt_irrefl _ this
 |some j=>
  obtain ⟨b0,hb⟩:=idx1_key a al j e;have hj:j<al.length:=(List.getElem?_eq_some_iff.1 hb).1;have hk0:=congrArg (fun l=>l[j]?) (kvs_keys h2);simp only [List.getElem?_map,hb,Option.map_some] at hk0;obtain ⟨en,he,hke⟩:=Option.map_eq_some_iff.1 hk0;rw [e] at hf;simp only [Option.bind_some,he,Option.map_some] at hf
  have hes:es[j]? =some en:=by rw [<- Array.getElem?_toList];exact he
  have hje:j<es.size:=(Array.getElem?_eq_some_iff.1 hes).1
  have hb0:(es.toList.modify j fun e=>{e with key:=enc a,val:=v}).map (·.born)=es.toList.map (·.born):=by
   apply List.ext_getElem?
   intro q;simp only [List.getElem?_map,List.getElem?_modify];by_cases hqj:j=q
   · subst hqj;simp [he]
   · simp [hqj]
  refine ⟨es.modify j fun e=>{e with key:=enc a,val:=v},clock,?_,?_,?_,?_⟩
  · simp only [Instr.mapUpdate,Sem.run_bind,run_underlying hm,Result.andThen_ok,hget,hK.ck,hf,hes,Option.map_some,Option.getD_some,hke,Instr.keyThatStays,hK.sb,if_true,Sem.run_pure];exact hset _
  · have hT:=kvs_keys h2;rw [Array.toList_modify]
    apply List.ext_getElem?
    intro q;have hq:=congrArg (fun l=>l[q]?) hT;simp only [List.getElem?_map] at hq;simp only [kvs,List.map_set,List.map_map,List.getElem?_map,List.getElem?_set,List.getElem?_modify];by_cases hqj:j=q
    · subst hqj;simp [he,hj]
    · simp only [hqj,if_false,List.getElem?_map]
      simpa [Function.comp_def] using hq
  · have h4:=h3.set (i:=j) hv;rw [Array.toList_modify]
    have e1:(kvs enc cv (al.set j (a,b))).map (·.2)=((kvs enc cv al).map (·.2)).set j (cv b):=by simp [kvs,List.map_set]
    have e2:(es.toList.modify j fun e=>{e with key:=enc a,val:=v}).map (·.val)=(es.toList.map (·.val)).set j v:=by
     apply List.ext_getElem?
     intro q;simp only [List.getElem?_map,List.getElem?_modify,List.getElem?_set,List.length_map,Array.length_toList];by_cases hqj:j=q
     · subst hqj;simp [he,hje]
     · simp [hqj]
    show cells S w ((kvs enc cv (al.set j (a,b))).map (·.2)) _;rw [e1,e2];exact h4
  · rw [<- Array.toList_modify] at hb0;refine ⟨fun x hx=> ?_,by rw [hb0];exact hS2⟩
    have:x.born∈es.toList.map (·.born):=by rw [<- hb0];exact List.mem_map_of_mem hx
    obtain ⟨y,hy,e⟩:=List.mem_map.1 this;rw [<- e];exact hS1 y hy
theorem Xq{i:Nat}{hv:Value}{al:List (κ × β)}(ka:κ)(b:β)(hg:gd ops L g=some true)(hx:ev L x=some (.ct (.ex hv)))(hi:bget B i=some (.mpx hv (kvs enc cv al)))(hy:KeyIs X L B y (enc ka))(hz:ev L z=some (.ct (cv b)))(hm:X.P.underlying mt=some (.map kt et))(hK:KeyT X.P kt enc)
  (h:Ops X ops r L (bset B i (.mpx hv (kvs enc cv (ins al ka b)))) K):Ops X ops (.cons ⟨none, .mapUpdate mt x y z,t',pos,af,g⟩ .any r) L B K:=fun a ρ w hI=>by
 show wpO _ _ _ _ _ _
 unfold wpO
 rw [if_pos (Z3 (o:=⟨none,_,t',pos,af,g⟩) hI hg)]
 obtain ⟨h1,gb,h2,h3⟩:=(hI.ent i _ hi).1
 obtain ⟨es,clock,hrun,hk',hc',hS'⟩:=run_set ka b hm hK h3 (hI.ev hz)
 have hlt:gb<w.heap.size:=by obtain ⟨_,_,h4,_⟩:=h3;exact Z9 h4
 have hrun2:(execOp a.eval ⟨none, .mapUpdate mt x y z,t',pos,af,g⟩).run X.P w= .ok .skip {w with heap:=w.heap.setIfInBounds gb (.map es clock)}:=by
  show (do Instr.mapUpdate mt (a.eval x) (a.eval y) (a.eval z);pure Next.skip:Sem Next).run X.P w=_;rw [hI.evx hx,<- h1,h2,hy a ρ w hI];simp [hrun]
 unfold Oper.wp;rw [hrun2];show wpX _ _ _ _ (a.put none undef) _;rw [put_none]
 have hW:=Is.write (v:=ρ i) (e' := .mpx hv (kvs enc cv (ins al ka b))) (w' :={w with heap:=w.heap.setIfInBounds gb (.map es clock)}) hI hi J J J (by simp)
  (fun q hq hne=>by
   have:gb≠q:=fun e=>hne (by rw [h2,<- e];rfl)
   simp [Array.getElem?_setIfInBounds,this]) (.inl J)
  (fun S' hk=>⟨h1,gb,h2,es,clock,by simp [Array.getElem?_setIfInBounds,hlt],hk',hc'.mono hk,hS'⟩) (.inl J) (.inl ⟨rfl,rfl⟩)
 exact h a _ _ (hW.bext (Xi hi))
theorem Fin.frzM(i j o:Nat){v:Value}{tt:Nat}{kv:List (Value × CT)}{ds:List CT}(hi:bget B i=some (.mpx v kv))(hj:bget (bdel B i) j=some (.box tt ds))(ho:ds[o]? =some (.ex v))(hS:okFix X i)
  (h:Fin X L (bset (bdel B i) j (.box tt (ds.set o (.fr (mapT kv))))) K) (hf:noFix X i=true:=by rfl):Fin X L B K:=fun a ρ w hI=>by
 obtain ⟨h2,h3⟩:=(hI.ent i _ hi).1
 have hv:(mapT kv).p (Sof X (bdel B i) ρ) w (ρ i):=hI.frozen_val (e2:= .mp kv) hi rfl h3 (hI.okFix hi hS)
 rw [h2] at hv
 have hD:=hI.dropB i hf
 obtain ⟨gb,us,h4,h5,h6⟩:=(hD.ent j _ hj).1
 have hu:us[o]? =some v:=by
  obtain ⟨u,hu1,hu2⟩:=h6.get ho;have:u=v:=hu2;rw [<- this];exact hu1
 have hset:us.set o v=us:=by
  apply List.ext_getElem?
  intro q;rw [List.getElem?_set];split
  · rename_i hq;subst hq
    rw [hu];split
    · rfl
    · rename_i hlt;exact absurd (List.getElem?_eq_some_iff.1 hu).1 hlt
  · rfl
 refine h a ρ w (hD.retype hj ⟨gb,us,h4,h5,?_⟩ rfl);rw [<- hset];exact h6.set hv
theorem St.frzM{c:Code}{Q:Exit ->Act ->World ->Prop}(i j o:Nat){v:Value}{tt:Nat}{kv:List (Value × CT)}{ds:List CT}(hi:bget B i=some (.mpx v kv))(hj:bget (bdel B i) j=some (.box tt ds))(ho:ds[o]? =some (.ex v))(hS:okFix X i)
  (h:St X L (bset (bdel B i) j (.box tt (ds.set o (.fr (mapT kv))))) c Q) (hf:noFix X i=true:=by rfl):St X L B c Q:=Fin.frzM i j o hi hj ho hS h hf
end
def encI (ks : List IntKind) (ps : List Int) : Value := .agg ((ks.zip ps).map (fun p => Value.int p.1 p.2)).toArray
structure FlatK (P : Program) (t : TypeId) (ks : List IntKind) : Prop where
  und : ∃ fs, P.underlying t = some (.struct fs)
  eq : ∀ (ps qs : List Int) (w : World), ps.length = ks.length → qs.length = ks.length → (Op.equalIn 10000 t (encI ks ps) (encI ks qs)).run P w = .ok (decide (ps = qs)) w
  ck : ∀ (e : Bool) (ps : List Int) (w : World), ps.length = ks.length → (Instr.checkKey e 10000 t (encI ks ps)).run P w = .ok () w
theorem run_ckStruct{P:Program}{t:TypeId}{fs:Array Field}(hu:P.underlying t=some (.struct fs))(e:Bool)(n:Nat)(xs:Array Value)(w:World)
  (h:∀f∈fs.toList,f.name≠ "_" /\ ∃a,(part f.type xs f.offset).run P w= .ok a w/\ (Instr.checkKey e n f.type a).run P w= .ok () w):(Instr.checkKey e (n+1) t (.agg xs)).run P w= .ok () w:=by
 rw [Instr.checkKey];simp only [Sem.run_bind,run_underlying hu,Result.andThen_ok];rw [<- Array.forIn_toList];generalize fs.toList=L at h
 induction L with
 |nil=>simp
 |cons f L ih=>
  obtain ⟨hn,a,p1,p2⟩:=h f (by simp);simp only [List.forIn_cons,Sem.run_bind,hn,ne_eq,not_false_eq_true,if_true,Result.andThen_ok,p1,p2,Sem.run_pure];exact ih (fun y hy=>h y (by simp [hy]))
theorem run_ckInt{P:Program}{t:TypeId}{k:IntKind}(hu:P.underlying t=some (.int k))(e:Bool)(n:Nat)(v:Int)(w:World):(Instr.checkKey e (n+1) t (.int k v)).run P w= .ok () w:=by
 simp [Instr.checkKey,run_underlying hu]
theorem ck_ints{P:Program}(e:Bool)(n:Nat)(xs:Array Value)(w:World):∀(fs:List Field) (ks:List IntKind) (ps:List Int) (s:Nat),ps.length=ks.length ->
  fs.map (fun f=>(f.name== "_",f.offset,P.underlying f.type))=(ks.zipIdx s).map (fun p=>(false,p.2,some (TypeDesc.int p.1))) ->
  (∀j kk p,ks[j]? =some kk ->ps[j]? =some p ->xs[s+j]? =some (.int kk p)) ->∀f∈fs,f.name≠ "_" /\ ∃a,(part f.type xs f.offset).run P w= .ok a w/\ (Instr.checkKey e (n+1) f.type a).run P w= .ok () w
 | [],_,_,_,_,_,_,_,hf=>by cases hf
 |g::fs,[],_,_,_,h,_,_,_=>by simp at h
 |g::fs,k::ks,[],_,h0,_,_,_,_=>by simp at h0
 |g::fs,k::ks,p::ps,s,h0,h,hx,f,hf=>by
  simp only [List.map_cons,List.zipIdx_cons] at h
  injection h with h1 h2
  injection h1 with hn ho
  injection ho with ho hu
  rcases List.mem_cons.1 hf with rfl|hf
  · have hx0:=hx 0 k p rfl rfl
    rw [Nat.add_zero] at hx0
    exact ⟨by simpa using hn,_,run_part_int hu (by rw [ho];exact hx0) w,run_ckInt hu e n p w⟩
  · exact ck_ints e n xs w fs ks ps (s+1) (by simpa using h0) h2 (fun j kk p' a b=>by rw [show s+1+j=s+(j+1) by omega];exact hx (j+1) kk p' a b) f hf
theorem EqS.flat{P:Program}{t:TypeId}{ks:List IntKind}(h:EqS P t ks):FlatK P t ks where
 und:=⟨_,h.und⟩
 eq ps qs w h1 h2:=h.run ps qs h1 h2 w
 ck e ps w h1:=run_ckStruct h.und e 9999 _ w (ck_ints e 9998 _ w _ ks ps 0 h1 h.fields (fun j kk p a b=>by rw [Nat.zero_add,List.getElem?_toArray];exact zip_get a b))
structure EqF (P : Program) (t ta : TypeId) (k1 k2 : List IntKind) : Prop where
  und : P.underlying t = some (.struct (P.fieldsOf t))
  held : P.stoodInHeld t = false
  fields : ((P.fieldsOf t).toList.drop 1).map (fun f => (f.name == "_", f.offset, P.underlying f.type)) = (k2.zipIdx k1.length).map (fun p => (false, p.2, some (TypeDesc.int p.1)))
  first : ((P.fieldsOf t).toList.head?).map (fun f => (f.name == "_", f.offset, f.type)) = some (false, 0, ta)
  unda : P.underlying ta = some (.struct (P.fieldsOf ta))
  helda : P.stoodInHeld ta = false
  size : (P.info? ta).map (·.size) = some k1.length
  fieldsa : (P.fieldsOf ta).toList.map (fun f => (f.name == "_", f.offset, P.underlying f.type)) = k1.zipIdx.map (fun p => (false, p.2, some (TypeDesc.int p.1)))
theorem EqF.flat{P:Program}{t ta:TypeId}{k1 k2:List IntKind}(h:EqF P t ta k1 k2):FlatK P t (k1++k2):=by
 obtain ⟨fa,fs,hfs⟩:∃fa fs,(P.fieldsOf t).toList=fa::fs:=by
  cases e:(P.fieldsOf t).toList with
  |nil=>have:=h.first;rw [e] at this;cases this
  |cons fa fs=>exact ⟨fa,fs,rfl⟩
 have hF:=h.fields;rw [hfs] at hF;simp only [List.drop_succ_cons,List.drop_zero] at hF
 have h1:=h.first
 rw [hfs] at h1;simp only [List.head?_cons,Option.map_some,Option.some.injEq,Prod.mk.injEq] at h1;obtain ⟨hn,ho,ht⟩:=h1
 have hne:fa.name≠ "_" :=by simpa using hn
 have hpart:∀(ps:List Int) (w:World),ps.length=(k1++k2).length ->(part fa.type (((k1++k2).zip ps).map (fun p=>Value.int p.1 p.2)).toArray fa.offset).run P w= .ok (encI k1 (ps.take k1.length)) w:=fun ps w hl=>by
  have hs:(sizeOf fa.type).run P w= .ok k1.length w:=by
   rw [ht];obtain ⟨i,hi,hs⟩:=Option.map_eq_some_iff.1 h.size;simp [sizeOf,typeInfo,hi,hs]
  have ha:(isAgg fa.type).run P w= .ok true w:=by simp [isAgg,run_underlying (ht▸h.unda)]
  simp only [part,Sem.run_bind,ha,Result.andThen_ok,if_true,hs,Sem.run_pure];unfold encI
  congr 2
  rw [ho]
  apply Array.ext'
  simp only [Array.toList_extract,List.extract_eq_take_drop,List.drop_zero,Nat.zero_add,Nat.sub_zero];rw [<- List.map_take,List.zip_eq_zipWith,List.take_zipWith,List.take_left,<- List.zip_eq_zipWith]
 have hget:∀(ps:List Int),ps.length=(k1++k2).length ->∀(j:Nat) (kk:IntKind) (p:Int),k2[j]? =some kk ->(ps.drop k1.length)[j]? =some p ->(((k1++k2).zip ps).map (fun p=>Value.int p.1 p.2)).toArray[k1.length+j]? =some (.int kk p):=fun ps hl j kk p a b=>by
  rw [List.getElem?_toArray]
  refine zip_get ?_ ?_
  · rw [List.getElem?_append_right (by omega),Nat.add_sub_cancel_left];exact a
  · rw [List.getElem?_drop] at b;exact b
 have hgeta:∀(ps:List Int) (j:Nat) (kk:IntKind) (p:Int),k1[j]? =some kk ->ps[j]? =some p ->((k1.zip ps).map (fun p=>Value.int p.1 p.2)).toArray[0+j]? =some (.int kk p):=fun ps j kk p a b=>by
  rw [Nat.zero_add,List.getElem?_toArray];exact zip_get a b
 refine ⟨⟨_,h.und⟩,fun ps qs w hp hq=> ?_,fun e ps w hp=> ?_⟩
 · unfold encI;rw [run_equalIn_struct w 9999 t _ _ h.und h.held,hfs];simp only [Op.eqFields,if_pos hne,Sem.run_bind];rw [hpart ps w hp];simp only [Result.andThen_ok];rw [hpart qs w hq];simp only [Result.andThen_ok];rw [ht];unfold encI
   have lp:(ps.take k1.length).length=k1.length:=by rw [List.length_take];simp at hp;omega
   have lq:(qs.take k1.length).length=k1.length:=by rw [List.length_take];simp at hq;omega
   rw [run_equalIn_struct w 9998 ta _ _ h.unda h.helda,run_eqFields 9997 _ _ w _ k1 _ _ 0 lp lq h.fieldsa (hgeta _) (hgeta _)];simp only [Result.andThen_ok];by_cases h2:ps.take k1.length=qs.take k1.length
   · simp only [h2,decide_true,Bool.not_true,Bool.false_eq_true,if_false];rw [run_eqFields 9998 _ _ w fs k2 (ps.drop k1.length) (qs.drop k1.length) k1.length (by simp at hp ⊢;omega) (by simp at hq ⊢;omega) hF (hget ps hp) (hget qs hq)]
     congr 1
     refine decide_eq_decide.2 ⟨fun h3=> ?_,fun h3=>by rw [h3]⟩;rw [<- List.take_append_drop k1.length ps,<- List.take_append_drop k1.length qs,h2,h3]
   · have h4:ps≠qs:=fun h5=>h2 (by rw [h5])
     simp [h2,h4]
 · refine run_ckStruct h.und e 9999 _ w ?_
   rw [hfs];intro f hf;rcases List.mem_cons.1 hf with rfl|hf
   · refine ⟨hne,_,hpart ps w hp,?_⟩;rw [ht];refine run_ckStruct h.unda e 9998 _ w (ck_ints e 9997 _ w _ k1 (ps.take k1.length) 0 (by rw [List.length_take];simp at hp;omega) h.fieldsa (hgeta _))
   · exact ck_ints e 9998 _ w fs k2 (ps.drop k1.length) k1.length (by simp at hp ⊢;omega) hF (hget ps hp) f hf
theorem sameBits_ints(n:Nat)(l:List (IntKind × Int)):Instr.sameBits (n+1) (.agg (l.map (fun p=>Value.int p.1 p.2)).toArray) (.agg (l.map (fun p=>Value.int p.1 p.2)).toArray)=true:=by
 simp only [Instr.sameBits,beq_self_eq_true,Bool.true_and];rw [List.all_eq_true]
 rintro ⟨x,y⟩ hxy
 have:x=y:=by
  simp only [List.zip_eq_zipWith] at hxy;obtain ⟨i,hi⟩:=List.getElem?_of_mem hxy;rw [List.getElem?_zipWith] at hi;split at hi
  · rename_i u v hu hv;rw [hu] at hv;injection hv with hv;injection hi with hi;injection hi with h1 h2;rw [<- h1,<- h2,hv]
  · cases hi
 subst this;have hm:=(List.of_mem_zip hxy).1;simp only [List.mem_map] at hm;obtain ⟨p,_,rfl⟩:=hm;simp [Instr.sameBits]
theorem FlatK.key{P:Program}{t:TypeId}{ks:List IntKind}(h:FlatK P t ks){κ:Type} [DecidableEq κ](f:κ ->List Int)(hl:∀a,(f a).length=ks.length)(hi:∀a b,f a=f b ->a=b):KeyT P t (fun a=>encI ks (f a)) where
 now l i a D hD hne hl:=by
  obtain ⟨fs,hu⟩:=h.und
  rw [hu] at hD;injection hD with hD;subst hD
  cases l with
  |nil=>exact absurd J hne
  |cons e l=>simp [Instr.findNow,encI,Instr.sameNow]
 und:=by obtain ⟨fs,hu⟩:=h.und;exact ⟨_,hu⟩
 eq a b w:=by
  have:=h.eq (f a) (f b) w (hl a) (hl b);show (Op.equalIn 10000 t _ _).run P w=_;rw [this]
  congr 1
  exact decide_eq_decide.2 ⟨hi a b,fun h=>by rw [h]⟩
 ck e a w:=h.ck e (f a) w (hl a)
 sb a:=sameBits_ints 9999 _
section
variable {X : Ctx} {L : AL} {B : BL} {ops : Array Oper} {K : Act → World → Prop} {r : Pl} {k : Kd}
  {x y z : Operand} {d : Nat} {t t2 t' : TypeId} {pos : String} {af : Array Edge} {g : Option (Nat × Bool)}
theorem Ops.eqK{ks:List IntKind}(ps qs:List Int)(hg:gd ops L g=some true)(hx:ev L x=some (.ct (.agg (kc ks ps))))(hy:ev L y=some (.ct (.agg (kc ks qs))))(h1:ps.length=ks.length)(h2:qs.length=ks.length)(hE:FlatK X.P t ks)(hG:X.P.eqGuardType X.P.depth t=false)(hn:Nat.blt d X.n=true)
  (h:Ops X ops r ((d, .ct (.ex (.bool (decide (ps=qs)))))::L) B K):Ops X ops (.cons ⟨some d, .binOp .eql t x y t2,t',pos,af,g⟩ k r) L B K:=
 XW (s:= .ct (.ex (.bool (decide (ps=qs))))) hg rfl hn (fun a ρ w hI=>⟨_,fun w' _=>by
  obtain ⟨us,e1,c1⟩:=hI.ev hx
  obtain ⟨vs,e2,c2⟩:=hI.ev hy
  have d1:=kc_cells h1 c1
  have d2:=kc_cells h2 c2
  subst d1;subst d2
  show (do pure (Next.value (<- (do eqGuard .eql t x y (a.eval x) (a.eval y);binOp .eql t (a.eval x) (a.eval y):Sem Value))):Sem Next).run X.P w' =_
  rw [e1,e2]
  refine X9 ?_
  simp only [Sem.run_bind,run_eqGuard_agg w' _ t x y _ _ hG,Result.andThen_ok]
  have:=hE.eq ps qs w' h1 h2
  unfold Go.Own.encI at this
  rw [run_eql_struct,this];rfl,rfl⟩) h
end
section
variable {X : Ctx} {L : AL} {B : BL} {ops : Array Oper} {K : Act → World → Prop} {r : Pl} {k : Kd}
  {x y z : Operand} {d : Nat} {t t2 t' : TypeId} {pos : String} {af : Array Edge} {g : Option (Nat × Bool)}
theorem ishl{p j:Int}{kk:IntKind}(n:Nat)(hj:j=(n:Int))(hn:n<=64)(h1: -9223372036854775808<=p*2 ^ n)(h2:p*2 ^ n<=9223372036854775807):IBin .shl .i64 p kk j (.int .i64 (p*2 ^ n)):= .of fun P t w=>by
 show (Op.shift .shl .i64 p kk j).run P w=_
 have e:(Op.shift .shl .i64 p kk j)=pure (.int .i64 (IntKind.i64.wrap (p*2 ^ n))):=by
  unfold Op.shift;rw [if_neg (by omega)]
  have:min j.toNat IntKind.i64.bits=n:=by show min j.toNat 64=n;omega
  simp only [this]
 rw [e,Zi h1 h2];rfl
theorem ishr{p j:Int}{kk:IntKind}(n:Nat)(hj:j=(n:Int))(hn:n<=64):IBin .shr .i64 p kk j (.int .i64 (p/2 ^ n)):= .of fun P t w=>by
 show (Op.shift .shr .i64 p kk j).run P w=_
 have e:(Op.shift .shr .i64 p kk j)=pure (.int .i64 (p.fdiv (2 ^ n))):=by
  unfold Op.shift;rw [if_neg (by omega)]
  have:min j.toNat IntKind.i64.bits=n:=by show min j.toNat 64=n;omega
  simp only [this]
 rw [e,Int.fdiv_eq_ediv_of_nonneg _ (Int.le_of_lt (Int.pow_pos (by decide)))];rfl
theorem ushr{p j:Int}{kk:IntKind}(n:Nat)(hj:j=(n:Int))(hn:n<=64):IBin .shr .u64 p kk j (.int .u64 (p/2 ^ n)):= .of fun P t w=>by
 show (Op.shift .shr .u64 p kk j).run P w=_
 have e:(Op.shift .shr .u64 p kk j)=pure (.int .u64 (p.fdiv (2 ^ n))):=by
  unfold Op.shift;rw [if_neg (by omega)]
  have:min j.toNat IntKind.u64.bits=n:=by show min j.toNat 64=n;omega
  simp only [this]
 rw [e,Int.fdiv_eq_ediv_of_nonneg _ (Int.le_of_lt (Int.pow_pos (by decide)))];rfl
theorem ior_add{p q:Int}(n:Nat)(m:Nat)(hp0:0<=p)(hp:p<2 ^ n)(hq:q=(m:Int)*2 ^ n)(hs:p+q<=9223372036854775807):IBin .or .i64 p .i64 q (.int .i64 (p+q)):= .of fun P t w=>by
 have hq0:0<=q:=by rw [hq];exact Int.mul_nonneg (by omega) (Int.le_of_lt (Int.pow_pos (by decide)))
 show (Op.intBits .or .i64 p q).run P w=_
 have e1:(BitVec.ofInt 64 p|||BitVec.ofInt 64 q).toNat=(p+q).toNat:=by
  rw [BitVec.toNat_or,BitVec.toNat_ofInt,BitVec.toNat_ofInt]
  have a1:(p%((2 ^ 64:Nat):Int)).toNat=p.toNat:=by omega
  have a2:(q%((2 ^ 64:Nat):Int)).toNat=q.toNat:=by omega
  rw [a1,a2]
  have hqn:q.toNat=2 ^ n*m:=by
   rw [hq,show (2:Int) ^ n=((2 ^ n:Nat):Int) by rw [Int.natCast_pow];rfl,<- Int.natCast_mul,Int.toNat_natCast,Nat.mul_comm]
  have hpn:p.toNat<2 ^ n:=by
   have:(p.toNat:Int)<((2 ^ n:Nat):Int):=by rw [show ((2 ^ n:Nat):Int)=(2:Int) ^ n by rw [Int.natCast_pow];rfl];omega
   omega
  rw [hqn,Nat.or_comm,<- Nat.two_pow_add_eq_or_of_lt hpn];omega
 have h2:((p+q).toNat:Int)=p+q:=by omega
 show (pure (Value.int .i64 (IntKind.i64.wrap ((BitVec.ofInt 64 p|||BitVec.ofInt 64 q).toNat:Int))):Sem Value).run P w=_;rw [e1,h2,Zi (n:=p+q) (by omega) (by omega)];rfl
def bl (n : Nat) : Nat := if n = 0 then 0 else Nat.log2 n + 1
def tabOk (s : ByteArray) : Bool := (List.range 256).all fun n => s[n]? == some (UInt8.ofNat (bl n))
theorem bl_lt{n:Nat}(h:n<256):bl n<9:=by
 unfold bl;split
 · decide
 · rename_i h0
   have:Nat.log2 n<8:=(Nat.log2_lt h0).2 (by omega);omega
theorem bl_spec(n:Nat):n<2 ^ bl n:=by
 unfold bl;split
 · rename_i h;subst h;decide
 · exact Nat.lt_log2_self
theorem tab_at{s:ByteArray}(hs:tabOk s=true){n:Nat}(h:n<256):s[n]? =some (UInt8.ofNat (bl n)):=by
 unfold tabOk at hs;rw [List.all_eq_true] at hs;exact eq_of_beq (hs n (List.mem_range.2 h))
theorem Ops.idxTab{s:ByteArray}{kk:IntKind}{j:Int}(m:Nat)(hg:gd ops L g=some true)(hx:ev L x=some (.ct (.ex (.string s))))(hy:ev L y=some (.ct (.ex (.int kk j))))(hu:X.P.underlying t=some .string)(hj:j=(m:Int))(hm:m<256)(hs:tabOk s=true)(hn:Nat.blt d X.n=true)
  (h:Ops X ops r ((d, .ct (.ex (.int .u8 (bl m))))::L) B K):Ops X ops (.cons ⟨some d, .index t x y,t',pos,af,g⟩ k r) L B K:=by
 refine Ops.idxS (b:=UInt8.ofNat (bl m)) hg hx hy hu (by omega) (by subst hj;exact tab_at hs hm) hn ?_
 have:((UInt8.ofNat (bl m)).toNat:Int)=(bl m:Int):=by
  have:=bl_lt hm;rw [UInt8.toNat_ofNat'];omega
 rw [this];exact h
end
section
variable {X : Ctx} {L : AL} {B : BL} {ops : Array Oper} {K : Act → World → Prop} {r : Pl} {k : Kd}
  {x y z : Operand} {d : Nat} {t t2 t' : TypeId} {pos : String} {af : Array Edge} {g : Option (Nat × Bool)}
theorem Entails.front{L' :AL}{B' :BL}(a:Nat)(e:Ent)(hb:bget B a=some e)(h:Entails X L ((a,e)::bdel B a) L' B'):Entails X L B L' B' :=fun x ρ w hI=>h x ρ w (hI.bext fun j=>by
 by_cases hj:a=j
 · subst hj;rw [QU,hb]
 · rw [QX _ _ hj,XU _ (Ne.symm hj)])
end
section
variable {X : Ctx} {L : AL} {B : BL} {ops : Array Oper} {K : Act → World → Prop} {r : Pl} {k : Kd}
  {x y z : Operand} {d : Nat} {t t2 t' : TypeId} {pos : String} {af : Array Edge} {g : Option (Nat × Bool)}
theorem Ops.appRow(i:Nat){j el n bytes:Nat}{zv:Value}{cs:List CT}(m:Nat)(hg:gd ops L g=some true)(hx:ev L x=some (.ct (.ex (.slice none 0 0))))(hy:ev L y=some (.own j))(hj:bget B j=some (.row el n cs))(hT:SlcT X.P t el n bytes zv)(hl:cs.length=m*n)(ho:ones cs=true)(hb:m*bytes<=140737488355328)(hmx:m<=140737488355328)(hN:noN i L=true)(hB:bget B i=none)(hn:Nat.blt d X.n=true)
  (h:Ops X ops r ((d, .own i)::L) ((i, .row el n cs)::B) K):Ops X ops (.cons ⟨some d, .call {callee:= .builtin .append,args:= #[x,y],argTypes:= #[t,t]},t',pos,af,g⟩ .any r) L B K:=
 Ops.mkE (k:= .any) rfl hg rfl hn hN hB (fun a ρ w hI=>by
  have hy1:a.eval y=ρ j:=hI.ev hy
  obtain ⟨nf,h1,h2,h3,h4⟩:=hT.inf
  obtain ⟨m',vs,hown,hc⟩:=(hI.ent j _ hj).1
  have hlv:=hc.length
  rw [hown.1,hl] at hlv
  have hmm:m' =m:=Nat.eq_of_mul_eq_mul_right hT.pos hlv
  subst hmm
  have hmax:0+m' <=maxLen:=by simp only [maxLen];omega
  have key:∃v' w',(Builtin.append_ #[t,t] t' #[.slice none 0 0,ρ j]).run X.P w= .ok v' w' /\ w'.ownsRow 0 el n v' (0+m') ([]++vs)/\ w.grownBy w' (Value.slice none 0 0).ownBlock/\ (blk v' =blk (.slice none 0 0) \/∀g,blk v' =some g ->w.heap.size<=g):=by
   have how:w.ownsRow 0 el n (.slice none 0 0) 0 []:=World.ownsRow_nil _ _ _ _;rcases hown.2 with ⟨e1,e2⟩|⟨gb,cap,cur,e1,e2⟩
   · have e0:vs=[]/\ m' =0:=by
      have h5:=hown.1;rw [e2,Nat.zero_mul] at h5;exact ⟨List.length_eq_zero_iff.1 h5,e2⟩
     obtain ⟨e3,e4⟩:=e0;subst e3;subst e4;rw [e1];exact ⟨.slice none 0 0,w,by simp [Builtin.append_,run_underlying hT.und,sizeOf,typeInfo,h1,Builtin.lenOf,Builtin.firstCells],how,⟨rfl,rfl,rfl,Nat.le_refl _,fun _ _ _=>rfl⟩, .inl J⟩
   · rw [e1];rw [e1] at hown;exact run_append_blk (P:=X.P) w t t' el nf zv n bytes hT.und h1 h4 h2 h3 hT.zs hT.pos _ 0 [] how ⟨gb,0,none⟩ m' cap vs hown.1 (hown.cells (g:=gb) J) (ones_cells ho hc) hmax (by simpa using hb)
  obtain ⟨v',w',r1,r3,r4,r5⟩:=key
  refine ⟨v',w',ZY (args:=[x,y]) (fun _=>by
   simp only [List.map_cons,List.map_nil,hI.evx hx,hy1]
   exact X9 r1),⟨r4.os,r4.tape,r4.output,r4.size,fun q hq=>r4.block q hq (fun e=>by cases e),run_drawn _ _ r1⟩,fun gb hgb=> ?_,fun S' hk=>⟨0+m',[]++vs,r3,hc.mono hk⟩⟩
  rcases r5 with h5|h5
  · rw [h5] at hgb;cases hgb
  · exact h5 gb hgb) h
theorem Ops.frz{l:Pl}(i:Nat){e:Ent}(T:CT)(hi:bget B i=some e)(hT:e.frozen T)(hS:Own.okFix X i)(h:Ops X ops l (frzL i T L) (bdel B i) K)(hf:noFix X i=true:=by rfl):Ops X ops l L B K:=Fin.frz i T hi hT hS h hf
end
open Go.Lib Go.Proofs Go.Shelf Go.Sort
theorem grown_of{w w' :World}(h:Below w.heap.size w w'):∃q os',w' =grow (w.drewN q) os' :=by
 refine ⟨w'.drawn - w.drawn,w'.heap.extract w.heap.size w'.heap.size,?_⟩;obtain ⟨h1,h2,h3,h4,h5,h6⟩:=h;obtain ⟨heap,tape,drawn,os,output⟩:=w;obtain ⟨heap',tape',drawn',os',output'⟩:=w';dsimp only at h1 h2 h3 h4 h5 h6;subst h1 h2 h3;unfold grow World.drewN;dsimp only
 congr 1
 · apply Array.ext_getElem?
   intro k;rcases Nat.lt_or_ge k heap.size with hk|hk
   · rw [h5 k hk,Array.getElem?_append_left hk]
   · rw [Array.getElem?_append_right hk,Array.getElem?_extract];split
     · congr 1;omega
     · rw [Array.getElem?_eq_none (by omega)]
 · omega
section
variable {α : Type} [Inhabited α] {P : Program} {enc : α → List Value} {k : Nat} {cf : α → α → Int} {g : Nat}
abbrev encC (enc : α → List Value) (x : α) : List CT := (enc x).map CT.ex
abbrev flatC (enc : α → List Value) (l : List α) : List CT := (l.map (encC enc)).flatten
theorem cells_ex'(S:BSet)(w:World):∀vs:List Value,cells S w (vs.map CT.ex) vs
 | []=>trivial
 |v::vs=>⟨rfl,cells_ex' S w vs⟩
theorem cmpLays_of(hc:∀x y,Ok P g [.agg (encC enc x), .agg (encC enc y)] (.ex (.int .i64 (cf x y))))(blk off size:Nat)(w:World):CmpLays P g #[] enc k cf blk off size w:=fun m os dk _ x y=>by
 refine (hc x y (fun _=>True) _ [.agg (enc x).toArray, .agg (enc y).toArray] (fun _ _=>trivial) ⟨⟨_,rfl,cells_ex' _ _ _⟩,⟨_,rfl,cells_ex' _ _ _⟩,trivial⟩).mono ?_
 rintro e w' ⟨v,rfl,hv,hb⟩
 have hv:v= .int .i64 (cf x y):=hv
 subst hv
 exact ⟨rfl,grown_of hb⟩
theorem ex_cells{S:BSet}{w:World}:∀{vs us:List Value},cells S w (vs.map CT.ex) us ->us=vs
 | [],[],_=>rfl
 | [],_::_,h=>h.elim
 |_::_,[],h=>h.elim
 |v::vs,u::us,h=>by
  have h1:u=v:=h.1
  rw [h1,ex_cells h.2]
omit [Inhabited α] in
theorem flatC_eq(enc:α ->List Value)(l:List α):flatC enc l=((l.map enc).flatten).map CT.ex:=by
 unfold flatC;rw [List.map_flatten,List.map_map];rfl
omit [Inhabited α] in
theorem flat_len(hk:∀x,(enc x).length=k)(l:List α):(l.map enc).flatten.length=l.length*k:=by
 induction l with
 |nil=>simp
 |cons a l ih=>rw [List.map_cons,List.flatten_cons,List.length_append,hk,ih,List.length_cons,Nat.succ_mul,Nat.add_comm]
theorem flat_get(hk:∀x,(enc x).length=k):∀(l:List α) (i o:Nat),i<l.length ->o<k ->(l.map enc).flatten[i*k+o]? =(enc (l.getD i default))[o]?
 | [],i,o,h,_=>by simp at h
 |a::l,0,o,_,ho=>by
  rw [List.map_cons,List.flatten_cons,Nat.zero_mul,Nat.zero_add,List.getElem?_append_left (by rw [hk];exact ho)];rfl
 |a::l,i+1,o,h,ho=>by
  rw [List.map_cons,List.flatten_cons,List.getElem?_append_right (by rw [hk,Nat.succ_mul];omega),hk]
  rw [show (i+1)*k+o - k=i*k+o by rw [Nat.succ_mul];omega,flat_get hk l i o (by simpa using h) ho];rfl
theorem flatK_list(hk:∀x,(enc x).length=k)(k0:0<k)(l:List α):(flatK enc k l.toArray).toList=(l.map enc).flatten:=by
 apply List.ext_getElem?
 intro t;rcases Nat.lt_or_ge t (l.length*k) with h|h
 · have h1:t<(flatK enc k l.toArray).size:=by rw [size_flatK];simpa using h
   have h2:=get_flatK enc k l.toArray t (by simpa using h);have hd:t/k<l.length:=Nat.div_lt_of_lt_mul (by rw [Nat.mul_comm];exact h);have hm:t%k<k:=Nat.mod_lt _ k0
   have e:t=t/k*k+t%k:=by rw [Nat.mul_comm];exact (Nat.div_add_mod t k).symm
   rw [Array.getElem?_toList,Array.getElem?_eq_getElem h1];rw [getElem!_pos _ t h1] at h2;rw [h2]
   conv=>rhs;rw [e]
   rw [flat_get hk l _ _ hd hm]
   have e3:l.toArray[t/k]! =l.getD (t/k) default:=by
    rw [getElem!_pos _ _ (by simpa using hd),List.getElem_toArray,List.getD_eq_getElem?_getD,List.getElem?_eq_getElem hd];rfl
   rw [e3]
   have hl:t%k<(enc (l.getD (t/k) default)).length:=by rw [hk];exact hm
   rw [getElem!_pos (enc (l.getD (t/k) default)) (t%k) hl,List.getElem?_eq_getElem hl]
 · rw [List.getElem?_eq_none (show (flatK enc k l.toArray).toList.length<=t by rw [Array.length_toList,size_flatK];simpa using h),List.getElem?_eq_none (show (l.map enc).flatten.length<=t by rw [flat_len hk];exact h)]
end
section
variable {α : Type} [Inhabited α] {P : Program} {ρ : Ren} {enc : α → List Value} {k : Nat} {cf : α → α → Int} {g : Nat}
theorem sortFunc_L(L:SlLaysF0.n6 P ρ)(k0:0<k)(aE:∀w,(isAgg (ρ.t 24)).run P w= .ok true w)(zE:∀w,(Go.sizeOf (ρ.t 24)).run P w= .ok k w)(hk:∀x,(enc x).length=k)(h1:∀x,∀v∈enc x,v.oneCell' =true)
  (hO:SWO (ltOf cf)) (hT:∀x y,(ltOf cf) x y=false ->(ltOf cf) y x=false ->x=y) (eg:∀args w,(callFunc g args).run P w= .ok (.enter g args) w)
  (hc:∀x y,Ok P g [.agg (encC enc x), .agg (encC enc y)] (.ex (.int .i64 (cf x y)))) (el:TypeId) (l:List α) (hl:l.length<4611686018427387904):
  OkL P (ρ.f 6) el k (flatC enc l) [.ex (.func (.func g) #[] #[])] (.tup []) (flatC enc (l.mergeSort fun x y=> !(ltOf cf) y x)):=by
 intro S w h vs hS hgS hrow hA;obtain ⟨n,us,how,hcs⟩:=hrow;rw [flatC_eq] at hcs;obtain rfl:=ex_cells hcs
 obtain rfl:vs=[.func (.func g) #[] #[]]:=by
  cases vs with
  |nil=>exact hA.elim
  |cons v vs=>
   cases vs with
   |nil=>
    have:v= .func (.func g) #[] #[]:=hA.1;rw [this]
   |cons u us=>exact hA.2.elim
 have hlen:=how.1;rw [flat_len hk] at hlen;have hn:l.length=n:=Nat.eq_of_mul_eq_mul_right k0 hlen;rcases how.2 with ⟨rfl,h0⟩|⟨gb,cap,cur,rfl,_,hgb,hnc,hcm,hcz,htk⟩
 · have e:l=[]:=List.length_eq_zero_iff.1 (by omega);subst e
   refine (AnyF.slices_SortFunc_none L none 0 _ w).mono ?_
   rintro e w' ⟨rfl,rfl⟩
   exact ⟨_,rfl,⟨[],rfl,trivial⟩,⟨n,[],⟨by simpa using hlen, .inl ⟨rfl,h0⟩⟩,by rw [List.mergeSort_nil];trivial⟩,⟨rfl,rfl,rfl,Nat.le_refl _,fun _ _ _=>rfl,Nat.le_refl _⟩⟩
 · subst hn
   have hH:HoldsK enc k w gb 0 l.toArray:=by
    intro j hj
    have hj' :j<l.length*k:=by simpa using hj
    have hc2:cur[j]? =some (flatK enc k l.toArray)[j]! :=by
     have h3:(flatK enc k l.toArray).toList[j]? =some (flatK enc k l.toArray)[j]! :=by
      rw [Array.getElem?_toList,Array.getElem?_eq_getElem hj,getElem!_pos _ j hj]
     rw [flatK_list hk k0,<- htk,List.getElem?_take,if_pos hj'] at h3;rw [<- Array.getElem?_toList];exact h3
    constructor
    · show (match w.heap[gb]? with|some (.cells c _ _)=>if (none:Option _).isSome then none else c[0+j]? |_=>none)=_;rw [hgb,Nat.zero_add];exact hc2
    · show (match w.heap[gb]? with|some (.cells _ _ (lo,hi))=>decide (lo<=0+j)&&decide (0+j<hi)|_=>false)=_;rw [hgb];simp
   have hsz:gb<w.heap.size:=Z9 hgb;have hcon:=AnyQ.slices_SortFunc_total L k aE zE enc hk h1 cf hO g #[] gb 0 cap l.toArray w eg (cmpLays_of hc gb 0 _ w) hH hsz (by simpa using hl) hT
   refine hcon.mono ?_
   rintro e w' ⟨rfl,m,os,rfl⟩
   generalize hd:(l.toArray.toList.mergeSort fun x y=> !(ltOf cf) y x)=d
   have hd2:(l.mergeSort fun x y=> !(ltOf cf) y x)=d:=by rw [<- hd]
   have hdl:d.length=l.length:=by rw [<- hd2,List.length_mergeSort]
   have hFs:(flatK enc k d.toArray).size=l.length*k:=by rw [size_flatK];simp [hdl]
   have hheap:(sortWorldK enc k w gb 0 m d.toArray os).heap=(w.heap.modify gb (onCells (putCells id 0 (flatK enc k d.toArray))))++os:=rfl;have hms:(w.heap.modify gb (onCells (putCells id 0 (flatK enc k d.toArray)))).size=w.heap.size:=Array.size_modify ..;refine ⟨_,rfl,⟨[],rfl,trivial⟩,⟨l.length,(d.map enc).flatten,⟨by rw [flat_len hk,hdl], .inr ⟨gb,cap,putCells id 0 (flatK enc k d.toArray) cur,rfl,Nat.zero_le _,?_,hnc,hcm,?_,?_⟩⟩,?_⟩,⟨rfl,rfl,rfl,?_,fun q hq hne=> ?_,?_⟩⟩
   · rw [hheap,Array.getElem?_append_left (by rw [hms];exact hsz),Array.getElem?_modify,if_pos J,hgb];rfl
   · unfold putCells;rw [Array.size_mapIdx];exact hcz
   · have hle:l.length*k<=cur.size:=by rw [hcz];exact Nat.mul_le_mul_right _ hnc
     apply List.ext_getElem?
     intro t;rw [List.getElem?_take];rcases Nat.lt_or_ge t (l.length*k) with ht|ht
     · rw [if_pos ht,Array.getElem?_toList,<- flatK_list hk k0,Array.getElem?_toList];unfold putCells;rw [Array.getElem?_mapIdx,Array.getElem?_eq_getElem (show t<cur.size by omega),Array.getElem?_eq_getElem (show t<(flatK enc k d.toArray).size by omega)];simp only [Option.map_some,id];rw [if_pos ⟨Nat.zero_le _,by omega⟩,Nat.sub_zero,getElem!_pos _ t (by omega)]
     · rw [if_neg (by omega),List.getElem?_eq_none (by rw [flat_len hk,hdl];exact ht)]
   · rw [flatC_eq];exact cells_ex' _ _ _
   · show w.heap.size<=(sortWorldK enc k w gb 0 m d.toArray os).heap.size;rw [hheap,Array.size_append,hms];omega
   · have hq:q<w.heap.size:=hq
     have hne:gb≠q:=fun e=>hne (by rw [<- e];rfl)
     rw [hheap,Array.getElem?_append_left (by rw [hms];exact hq),Array.getElem?_modify,if_neg hne]
   · show w.drawn<=w.drawn+m;omega
end
end Go.Own
namespace Go.Proofs.YtfimckpnnbibcaaGreat
open Go.Own Go.Proofs.Tryz
theorem mixed:prog.follows .mixedOrders=true:=by kernel_rfl
theorem sInts:SlcT prog 51 3 1 8 (.int .i64 0):=SlcT.of underlying51 (by kernel_rfl) rfl (by decide)
theorem lInt:Ld1 prog 3:=Ld1.of _ underlying3 rfl
theorem lInts:Ld1 prog 51:=Ld1.of _ underlying51 rfl
theorem zInt:(prog.info? 3).map (·.size)=some 1:=by kernel_rfl
abbrev intC (x : Int) : CT := .ex (.int .i64 x)
abbrev boolC (b : Bool) : CT := .ex (.bool b)
abbrev intsC (xs : List Int) : CT := .fr (sliceT 1 (xs.map fun x => [intC x]))
def ints (xs : List Int) : List CT := xs.map intC
@[simp] theorem ints_length (xs:List Int):(ints xs).length=xs.length:=by simp [ints]
theorem Zz(xs:List Int)(i:Nat)(x:Int):(ints xs).set i (intC x)=ints (xs.set i x):=by simp [ints,List.map_set]
theorem XK{xs:List Int}{i:Nat}(h:i<xs.length):(ints xs)[i]? =some (intC (xs.getD i 0)):=by
 simp [ints,List.getElem?_eq_getElem h,List.getD_eq_getElem?_getD]
theorem ints_made(n:Nat):zinit (.int .i64 0) n=ints (List.replicate n 0):=by
 rw [Yi];simp [ints,Value.cells]
theorem flat_one{α β:Type}(f:α ->β)(xs:List α):(xs.map fun x=>[f x]).flatten=xs.map f:=by
 induction xs with
 |nil=>rfl
 |cons x xs ih=>simp [ih]
theorem X2(e:Nat)(xs:List Int):(Ent.row e 1 (ints xs)).frozen (.fr (sliceT 1 (xs.map fun x=>[intC x]))):=
 ⟨xs.map fun x=>[intC x],(flat_one intC xs).symm,by simp,by decide,rfl⟩
theorem ints_at{xs:List Int}{j:Int}(h0:0<=j)(h:j<(xs.length:Int)):(xs.map fun x=>[intC x])[j.toNat]? =some [intC (xs.getD j.toNat 0)]:=by
 have hl:j.toNat<xs.length:=by omega
 rw [List.getElem?_map,List.getElem?_eq_getElem hl,List.getD_eq_getElem?_getD,List.getElem?_eq_getElem hl];rfl
def tab : Tab where
  one := [3, 4, 5, 22, 26, 35, 40, 47, 51, 52, 66, 112, 120, 123, 142, 179, 180, 188, 189]
  str := [(29, .agg #[.int .i64 0, .int .i64 0], [(0, 0), (1, 0)]),
    (42, .agg #[.int .u32 0, .int .u32 0], [(0, 0), (1, 0)]),
    (44, .agg #[.int .i64 0, .int .i64 0], [(0, 0), (1, 0)]),
    (46, .agg #[.int .u32 0, .int .u32 0, .int .i64 0, .int .i64 0], [(0, 1), (2, 1)]),
    (54, .agg #[.bool false, .slice none 0 0, .slice none 0 0], [(0, 0), (1, 0), (2, 0)]),
    (60, .agg #[.int .u32 0, .int .i64 0, .int .i64 0, .int .i64 0, .int .i64 0, .int .i64 0], [(0, 0), (1, 0), (2, 0), (3, 0), (4, 0), (5, 0)]),
    (62, .agg #[.int .i64 0, .int .i64 0, .int .i64 0, .int .i64 0, .int .u32 0, .int .i64 0, .int .i64 0, .int .i64 0, .bool false, .bool false, .int .i64 0, .int .u32 0, .int .i64 0, .int .i64 0, .int .i64 0, .int .i64 0, .int .i64 0], [(0, 0), (1, 0), (2, 0), (3, 0), (4, 0), (5, 0), (6, 0), (7, 0), (8, 0), (9, 0), (10, 0), (11, 5)]),
    (75, .agg #[.int .i64 0, .bool false, .slice none 0 0, .slice none 0 0, .slice none 0 0, .slice none 0 0, .slice none 0 0], [(0, 0), (1, 2), (4, 0), (5, 0), (6, 0)]),
    (82, .agg #[.slice none 0 0, .slice none 0 0], [(0, 0), (1, 0)]),
    (85, .agg #[.int .i64 0, .int .i64 0, .int .i64 0, .int .i64 0, .int .u32 0, .int .i64 0, .int .i64 0, .int .i64 0, .bool false, .bool false, .int .i64 0, .int .u32 0, .int .i64 0, .int .i64 0, .int .i64 0, .int .i64 0, .int .i64 0, .slice none 0 0], [(0, 16), (17, 0)]),
    (87, .agg #[.int .i64 0, .int .i64 0, .int .i64 0], [(0, 0), (1, 0), (2, 0)]),
    (109, .agg #[.slice none 0 0, .int .i64 0], [(0, 0), (1, 0)]),
    (111, .agg #[.int .i64 0, .int .u32 0, .int .i64 0], [(0, 0), (1, 0), (2, 0)]),
    (114, .agg #[.int .i64 0, .int .u32 0, .int .i64 0, .slice none 0 0, .int .u32 0], [(0, 2), (3, 0), (4, 0)]),
    (130, .agg #[.int .i64 0, .int .u32 0, .int .i64 0, .int .i64 0], [(0, 2), (3, 0)]),
    (136, .agg #[.slice none 0 0, .int .i64 0], [(0, 0), (1, 0)]),
    (144, .agg #[.int .i64 0, .int .i64 0, .slice none 0 0, .slice none 0 0, .slice none 0 0], [(0, 0), (1, 0), (2, 0), (3, 0), (4, 0)]),
    (178, .agg #[.bool false, .slice none 0 0], [(0, 0), (1, 0)]),
    (182, .agg #[.slice none 0 0, .slice none 0 0, .slice none 0 0, .bool false, .slice none 0 0], [(0, 0), (1, 0), (2, 0), (3, 1)]),
    (191, .agg #[.int .i64 0, .map none, .map none], [(0, 0), (1, 0), (2, 0)]),
    (195, .agg #[.int .i64 0, .int .i64 0], [(0, 0), (1, 0)]),
    (254, .agg #[.int .i64 0, .int .u32 0, .int .i64 0, .int .i64 0, .int .i64 0], [(0, 2), (3, 0), (4, 0)])]
  zro := [(3, .int .i64 0), (4, .bool false), (5, .int .u8 0), (22, .slice none 0 0), (26, .slice none 0 0), (35, .slice none 0 0), (40, .int .u32 0), (47, .slice none 0 0), (51, .slice none 0 0), (52, .slice none 0 0), (66, .slice none 0 0), (112, .slice none 0 0), (119, .agg #[.int .i64 0, .int .i64 0, .int .i64 0, .int .i64 0, .int .i64 0, .int .i64 0, .int .i64 0, .int .i64 0, .int .i64 0, .int .i64 0, .int .i64 0, .int .i64 0, .int .i64 0, .int .i64 0, .int .i64 0, .int .i64 0]), (120, .slice none 0 0), (123, .map none), (142, .slice none 0 0), (179, .slice none 0 0), (180, .slice none 0 0), (188, .map none), (189, .map none), (207, .agg #[.int .i64 0, .int .i64 0]), (209, .agg #[.int .i64 0, .int .i64 0, .int .i64 0, .int .i64 0, .int .i64 0, .int .i64 0, .int .i64 0, .int .i64 0, .int .i64 0, .int .i64 0, .int .i64 0, .int .i64 0, .int .i64 0, .int .i64 0, .int .i64 0, .int .i64 0, .int .i64 0, .int .i64 0, .int .i64 0, .int .i64 0, .int .i64 0, .int .i64 0, .int .i64 0, .int .i64 0, .int .i64 0, .int .i64 0, .int .i64 0, .int .i64 0, .int .i64 0, .int .i64 0, .int .i64 0, .int .i64 0, .int .i64 0, .int .i64 0])]
  ik := [(3, .i64), (5, .u8), (40, .u32)]
  ar := [(119, .agg #[.int .i64 0, .int .i64 0, .int .i64 0, .int .i64 0, .int .i64 0, .int .i64 0, .int .i64 0, .int .i64 0, .int .i64 0, .int .i64 0, .int .i64 0, .int .i64 0, .int .i64 0, .int .i64 0, .int .i64 0, .int .i64 0], 1), (207, .agg #[.int .i64 0, .int .i64 0], 1), (209, .agg #[.int .i64 0, .int .i64 0, .int .i64 0, .int .i64 0, .int .i64 0, .int .i64 0, .int .i64 0, .int .i64 0, .int .i64 0, .int .i64 0, .int .i64 0, .int .i64 0, .int .i64 0, .int .i64 0, .int .i64 0, .int .i64 0, .int .i64 0, .int .i64 0, .int .i64 0, .int .i64 0, .int .i64 0, .int .i64 0, .int .i64 0, .int .i64 0, .int .i64 0, .int .i64 0, .int .i64 0, .int .i64 0, .int .i64 0, .int .i64 0, .int .i64 0, .int .i64 0, .int .i64 0, .int .i64 0], 2)]
theorem tabOk:TabOk prog tab:=⟨by kernel_rfl,by kernel_rfl,by kernel_rfl,by kernel_rfl,by kernel_rfl⟩
instance : Inhabited (HasTab prog) := ⟨tab, tabOk, mixed⟩
theorem gT{f:Nat}:tb 0x23f787ff8079fc100fff73fbfd7803bffe7f7fffb7fffffffdfdfeefffff0 f=true ->InGo prog f:=gT0 242 (by decide) (by kernel_rfl)
theorem sNat:SlcT prog 52 3 1 8 (.int .i64 0):=SlcT.of underlying52 (by kernel_rfl) rfl (by decide)
theorem lNat:Ld1 prog 52:=Ld1.of _ underlying52 rfl
open Go.Shelf
def laySortR_ren : Go.Shelf.Ren := ⟨fun | 6 => 78 | 15 => 83 | 14 => 122 | 28 => 134 | 29 => 135 | 20 => 176 | 21 => 177 | 22 => 178 | 23 => 179 | 24 => 180 | 25 => 181 | 26 => 182 | 27 => 183 | 46 => 223 | 47 => 186 | 48 => 187 | 49 => 224 | 50 => 225 | 57 => 242 | n => n, fun | 22 => 26 | 24 => 62 | 25 => 164 | 3 => 3 | 39 => 137 | 0 => 0 | 53 => 39 | 55 => 220 | 4 => 4 | 46 => 213 | 45 => 212 | 50 => 90 | 5 => 5 | 9 => 9 | 66 => 258 | 70 => 262 | 76 => 284 | 77 => 285 | n => n, fun | n => n⟩
theorem laySortR:Go.Proofs.SlLaysF0.n6 prog laySortR_ren:={
 mixed:=by kernel_rfl
 f6:=⟨Tryz.f78.name,by decide,func78.trans (congrArg some (by kernel_rfl))⟩
 f14:=⟨Tryz.f122.name,by decide,func122.trans (congrArg some (by kernel_rfl))⟩
 f15:=func83.trans (congrArg some (by kernel_rfl))
 f20:=⟨Tryz.f176.name,by decide,func176.trans (congrArg some (by kernel_rfl))⟩
 f21:=⟨Tryz.f177.name,by decide,func177.trans (congrArg some (by kernel_rfl))⟩
 f22:=⟨Tryz.f178.name,by decide,func178.trans (congrArg some (by kernel_rfl))⟩
 f23:=⟨Tryz.f179.name,by decide,func179.trans (congrArg some (by kernel_rfl))⟩
 f24:=⟨Tryz.f180.name,by decide,func180.trans (congrArg some (by kernel_rfl))⟩
 f25:=⟨Tryz.f181.name,by decide,func181.trans (congrArg some (by kernel_rfl))⟩
 f26:=⟨Tryz.f182.name,by decide,func182.trans (congrArg some (by kernel_rfl))⟩
 f27:=⟨Tryz.f183.name,by decide,func183.trans (congrArg some (by kernel_rfl))⟩
 f28:=func134.trans (congrArg some (by kernel_rfl))
 f29:=func135.trans (congrArg some (by kernel_rfl))
 f46:=⟨Tryz.f223.name,by decide,func223.trans (congrArg some (by kernel_rfl))⟩
 f47:=func186.trans (congrArg some (by kernel_rfl))
 f48:=func187.trans (congrArg some (by kernel_rfl))
 f49:=⟨Tryz.f224.name,by decide,func224.trans (congrArg some (by kernel_rfl))⟩
 f50:=⟨Tryz.f225.name,by decide,func225.trans (congrArg some (by kernel_rfl))⟩
 f57:=⟨Tryz.f242.name,by decide,func242.trans (congrArg some (by kernel_rfl))⟩
 t0:=underlying0
 a0:=Tryz.isAgg0
 z0:=Tryz.sizeOf0
 v0:=Tryz.zeroValue0
 t3:=underlying3
 a3:=Tryz.isAgg3
 z3:=Tryz.sizeOf3
 v3:=Tryz.zeroValue3
 t4:=underlying4
 a4:=Tryz.isAgg4
 z4:=Tryz.sizeOf4
 v4:=Tryz.zeroValue4
 t5:=underlying5
 a5:=Tryz.isAgg5
 z5:=Tryz.sizeOf5
 v5:=Tryz.zeroValue5
 t9:=underlying9
 a9:=Tryz.isAgg9
 z9:=Tryz.sizeOf9
 v9:=Tryz.zeroValue9
 t22:=underlying26
 a22:=Tryz.isAgg26
 z22:=Tryz.sizeOf26
 v22:=Tryz.zeroValue26
 t25:=underlying164
 a25:=Tryz.isAgg164
 z25:=Tryz.sizeOf164
 v25:=Tryz.zeroValue164
 t39:=underlying137
 a39:=Tryz.isAgg137
 z39:=Tryz.sizeOf137
 v39:=Tryz.zeroValue137
 t45:=underlying212
 a45:=Tryz.isAgg212
 z45:=Tryz.sizeOf212
 v45:=Tryz.zeroValue212
 t46:=underlying213
 a46:=Tryz.isAgg213
 z46:=Tryz.sizeOf213
 v46:=Tryz.zeroValue213
 t50:=underlying90
 a50:=Tryz.isAgg90
 z50:=Tryz.sizeOf90
 v50:=Tryz.zeroValue90
 t53:=underlying39
 a53:=Tryz.isAgg39
 z53:=Tryz.sizeOf39
 v53:=Tryz.zeroValue39
 t55:=underlying220
 a55:=Tryz.isAgg220
 z55:=Tryz.sizeOf220
 v55:=Tryz.zeroValue220
 t66:=underlying258
 a66:=Tryz.isAgg258
 z66:=Tryz.sizeOf258
 v66:=Tryz.zeroValue258
 t70:=underlying262
 a70:=Tryz.isAgg262
 z70:=Tryz.sizeOf262
 v70:=Tryz.zeroValue262
 t76:=underlying284
 a76:=Tryz.isAgg284
 z76:=Tryz.sizeOf284
 v76:=Tryz.zeroValue284
 t77:=underlying285
 a77:=Tryz.isAgg285
 z77:=Tryz.sizeOf285
 v77:=Tryz.zeroValue285}
def laySortT_ren : Go.Shelf.Ren := ⟨fun | 6 => 98 | 15 => 83 | 14 => 159 | 28 => 134 | 29 => 135 | 20 => 203 | 21 => 204 | 22 => 205 | 23 => 206 | 24 => 207 | 25 => 208 | 26 => 209 | 27 => 210 | 46 => 238 | 47 => 186 | 48 => 187 | 49 => 239 | 50 => 240 | 57 => 244 | n => n, fun | 22 => 124 | 24 => 111 | 25 => 186 | 3 => 3 | 39 => 137 | 0 => 0 | 53 => 39 | 55 => 220 | 4 => 4 | 46 => 213 | 45 => 212 | 50 => 90 | 5 => 5 | 9 => 9 | 66 => 258 | 70 => 262 | 76 => 284 | 77 => 285 | n => n, fun | n => n⟩
theorem laySortT:Go.Proofs.SlLaysF0.n6 prog laySortT_ren:={
 mixed:=by kernel_rfl
 f6:=⟨Tryz.f98.name,by decide,func98.trans (congrArg some (by kernel_rfl))⟩
 f14:=⟨Tryz.f159.name,by decide,func159.trans (congrArg some (by kernel_rfl))⟩
 f15:=func83.trans (congrArg some (by kernel_rfl))
 f20:=⟨Tryz.f203.name,by decide,func203.trans (congrArg some (by kernel_rfl))⟩
 f21:=⟨Tryz.f204.name,by decide,func204.trans (congrArg some (by kernel_rfl))⟩
 f22:=⟨Tryz.f205.name,by decide,func205.trans (congrArg some (by kernel_rfl))⟩
 f23:=⟨Tryz.f206.name,by decide,func206.trans (congrArg some (by kernel_rfl))⟩
 f24:=⟨Tryz.f207.name,by decide,func207.trans (congrArg some (by kernel_rfl))⟩
 f25:=⟨Tryz.f208.name,by decide,func208.trans (congrArg some (by kernel_rfl))⟩
 f26:=⟨Tryz.f209.name,by decide,func209.trans (congrArg some (by kernel_rfl))⟩
 f27:=⟨Tryz.f210.name,by decide,func210.trans (congrArg some (by kernel_rfl))⟩
 f28:=func134.trans (congrArg some (by kernel_rfl))
 f29:=func135.trans (congrArg some (by kernel_rfl))
 f46:=⟨Tryz.f238.name,by decide,func238.trans (congrArg some (by kernel_rfl))⟩
 f47:=func186.trans (congrArg some (by kernel_rfl))
 f48:=func187.trans (congrArg some (by kernel_rfl))
 f49:=⟨Tryz.f239.name,by decide,func239.trans (congrArg some (by kernel_rfl))⟩
 f50:=⟨Tryz.f240.name,by decide,func240.trans (congrArg some (by kernel_rfl))⟩
 f57:=⟨Tryz.f244.name,by decide,func244.trans (congrArg some (by kernel_rfl))⟩
 t0:=underlying0
 a0:=Tryz.isAgg0
 z0:=Tryz.sizeOf0
 v0:=Tryz.zeroValue0
 t3:=underlying3
 a3:=Tryz.isAgg3
 z3:=Tryz.sizeOf3
 v3:=Tryz.zeroValue3
 t4:=underlying4
 a4:=Tryz.isAgg4
 z4:=Tryz.sizeOf4
 v4:=Tryz.zeroValue4
 t5:=underlying5
 a5:=Tryz.isAgg5
 z5:=Tryz.sizeOf5
 v5:=Tryz.zeroValue5
 t9:=underlying9
 a9:=Tryz.isAgg9
 z9:=Tryz.sizeOf9
 v9:=Tryz.zeroValue9
 t22:=underlying124
 a22:=Tryz.isAgg124
 z22:=Tryz.sizeOf124
 v22:=Tryz.zeroValue124
 t25:=underlying186
 a25:=Tryz.isAgg186
 z25:=Tryz.sizeOf186
 v25:=Tryz.zeroValue186
 t39:=underlying137
 a39:=Tryz.isAgg137
 z39:=Tryz.sizeOf137
 v39:=Tryz.zeroValue137
 t45:=underlying212
 a45:=Tryz.isAgg212
 z45:=Tryz.sizeOf212
 v45:=Tryz.zeroValue212
 t46:=underlying213
 a46:=Tryz.isAgg213
 z46:=Tryz.sizeOf213
 v46:=Tryz.zeroValue213
 t50:=underlying90
 a50:=Tryz.isAgg90
 z50:=Tryz.sizeOf90
 v50:=Tryz.zeroValue90
 t53:=underlying39
 a53:=Tryz.isAgg39
 z53:=Tryz.sizeOf39
 v53:=Tryz.zeroValue39
 t55:=underlying220
 a55:=Tryz.isAgg220
 z55:=Tryz.sizeOf220
 v55:=Tryz.zeroValue220
 t66:=underlying258
 a66:=Tryz.isAgg258
 z66:=Tryz.sizeOf258
 v66:=Tryz.zeroValue258
 t70:=underlying262
 a70:=Tryz.isAgg262
 z70:=Tryz.sizeOf262
 v70:=Tryz.zeroValue262
 t76:=underlying284
 a76:=Tryz.isAgg284
 z76:=Tryz.sizeOf284
 v76:=Tryz.zeroValue284
 t77:=underlying285
 a77:=Tryz.isAgg285
 z77:=Tryz.sizeOf285
 v77:=Tryz.zeroValue285}
def laySortW_ren : Go.Shelf.Ren := ⟨fun | 6 => 41 | 15 => 83 | 14 => 82 | 28 => 134 | 29 => 135 | 20 => 126 | 21 => 127 | 22 => 128 | 23 => 129 | 24 => 130 | 25 => 131 | 26 => 132 | 27 => 133 | 46 => 185 | 47 => 186 | 48 => 187 | 49 => 188 | 50 => 189 | 57 => 226 | n => n, fun | 22 => 66 | 24 => 42 | 25 => 92 | 3 => 3 | 39 => 137 | 0 => 0 | 53 => 39 | 55 => 220 | 4 => 4 | 46 => 213 | 45 => 212 | 50 => 90 | 5 => 5 | 9 => 9 | 66 => 258 | 70 => 262 | 76 => 284 | 77 => 285 | n => n, fun | n => n⟩
theorem laySortW:Go.Proofs.SlLaysF0.n6 prog laySortW_ren:={
 mixed:=by kernel_rfl
 f6:=⟨Tryz.f41.name,by decide,func41.trans (congrArg some (by kernel_rfl))⟩
 f14:=⟨Tryz.f82.name,by decide,func82.trans (congrArg some (by kernel_rfl))⟩
 f15:=func83.trans (congrArg some (by kernel_rfl))
 f20:=⟨Tryz.f126.name,by decide,func126.trans (congrArg some (by kernel_rfl))⟩
 f21:=⟨Tryz.f127.name,by decide,func127.trans (congrArg some (by kernel_rfl))⟩
 f22:=⟨Tryz.f128.name,by decide,func128.trans (congrArg some (by kernel_rfl))⟩
 f23:=⟨Tryz.f129.name,by decide,func129.trans (congrArg some (by kernel_rfl))⟩
 f24:=⟨Tryz.f130.name,by decide,func130.trans (congrArg some (by kernel_rfl))⟩
 f25:=⟨Tryz.f131.name,by decide,func131.trans (congrArg some (by kernel_rfl))⟩
 f26:=⟨Tryz.f132.name,by decide,func132.trans (congrArg some (by kernel_rfl))⟩
 f27:=⟨Tryz.f133.name,by decide,func133.trans (congrArg some (by kernel_rfl))⟩
 f28:=func134.trans (congrArg some (by kernel_rfl))
 f29:=func135.trans (congrArg some (by kernel_rfl))
 f46:=⟨Tryz.f185.name,by decide,func185.trans (congrArg some (by kernel_rfl))⟩
 f47:=func186.trans (congrArg some (by kernel_rfl))
 f48:=func187.trans (congrArg some (by kernel_rfl))
 f49:=⟨Tryz.f188.name,by decide,func188.trans (congrArg some (by kernel_rfl))⟩
 f50:=⟨Tryz.f189.name,by decide,func189.trans (congrArg some (by kernel_rfl))⟩
 f57:=⟨Tryz.f226.name,by decide,func226.trans (congrArg some (by kernel_rfl))⟩
 t0:=underlying0
 a0:=Tryz.isAgg0
 z0:=Tryz.sizeOf0
 v0:=Tryz.zeroValue0
 t3:=underlying3
 a3:=Tryz.isAgg3
 z3:=Tryz.sizeOf3
 v3:=Tryz.zeroValue3
 t4:=underlying4
 a4:=Tryz.isAgg4
 z4:=Tryz.sizeOf4
 v4:=Tryz.zeroValue4
 t5:=underlying5
 a5:=Tryz.isAgg5
 z5:=Tryz.sizeOf5
 v5:=Tryz.zeroValue5
 t9:=underlying9
 a9:=Tryz.isAgg9
 z9:=Tryz.sizeOf9
 v9:=Tryz.zeroValue9
 t22:=underlying66
 a22:=Tryz.isAgg66
 z22:=Tryz.sizeOf66
 v22:=Tryz.zeroValue66
 t25:=underlying92
 a25:=Tryz.isAgg92
 z25:=Tryz.sizeOf92
 v25:=Tryz.zeroValue92
 t39:=underlying137
 a39:=Tryz.isAgg137
 z39:=Tryz.sizeOf137
 v39:=Tryz.zeroValue137
 t45:=underlying212
 a45:=Tryz.isAgg212
 z45:=Tryz.sizeOf212
 v45:=Tryz.zeroValue212
 t46:=underlying213
 a46:=Tryz.isAgg213
 z46:=Tryz.sizeOf213
 v46:=Tryz.zeroValue213
 t50:=underlying90
 a50:=Tryz.isAgg90
 z50:=Tryz.sizeOf90
 v50:=Tryz.zeroValue90
 t53:=underlying39
 a53:=Tryz.isAgg39
 z53:=Tryz.sizeOf39
 v53:=Tryz.zeroValue39
 t55:=underlying220
 a55:=Tryz.isAgg220
 z55:=Tryz.sizeOf220
 v55:=Tryz.zeroValue220
 t66:=underlying258
 a66:=Tryz.isAgg258
 z66:=Tryz.sizeOf258
 v66:=Tryz.zeroValue258
 t70:=underlying262
 a70:=Tryz.isAgg262
 z70:=Tryz.sizeOf262
 v70:=Tryz.zeroValue262
 t76:=underlying284
 a76:=Tryz.isAgg284
 z76:=Tryz.sizeOf284
 v76:=Tryz.zeroValue284
 t77:=underlying285
 a77:=Tryz.isAgg285
 z77:=Tryz.sizeOf285
 v77:=Tryz.zeroValue285}
attribute [local irreducible] Go.Own.Fin Ok Ops St
theorem at_ok(xs:List Int)(i:Int)(hi:0<=i):Ok prog 229 [intsC xs,intC i] (intC (xs.getD i.toNat 0)):=by
 refine Ok.enter func229 J _ ntmps229 J ?_
 intro S w;refine Qj 10 J (QV sNat.und J (Qq 3 J (Qy J (fun h=> ?_) (fun h=> ?_))))
 · refine Qj 4 J (Q8 0 sNat J (by omega) ?_);refine Qq 5 J ?_;refine Qw J J
 · refine Qj 8 J ?_
   have hx:xs.getD i.toNat 0=0:=by
    rw [List.getD_eq_getElem?_getD,List.getElem?_eq_none (by omega)];rfl
   rw [hx];refine Qw J J
attribute [local irreducible] OkB OkN
theorem sBytes:SlcT prog 22 5 1 1 (.int .u8 0):=SlcT.of underlying22 (by kernel_rfl) rfl (by decide)
theorem uU8:prog.underlying 5=some (.int .u8):=underlying5
theorem uInt:prog.underlying 3=some (.int .i64):=underlying3
abbrev bytesC (bs : List Int) : CT := .fr (sliceT 1 (bs.map fun b => [CT.ex (.int .u8 b)]))
abbrev codes (bs : List Int) (p : Nat) : List CT := [bytesC bs, intC p]
structure Bytes (bs : List Int) : Prop where
  lo : ∀ b ∈ bs, 0 ≤ b
  hi : ∀ b ∈ bs, b < 256
  len : bs.length ≤ 400
theorem Bytes.at{bs:List Int}(h:Bytes bs)(j:Nat):0<=bs.getD j 0/\ bs.getD j 0<256:=by
 rw [List.getD_eq_getElem?_getD]
 cases e:bs[j]? with
 |none=>simp
 |some b=>
  have:=List.mem_of_getElem? e;exact ⟨h.lo b this,h.hi b this⟩
theorem goNext:InGo prog 45:=InGo.of func45 rfl (by decide)
def nxt (bs : List Int) (p : Nat) (n : Int) : Int × Nat := if p < bs.length then (bs.getD p 0 % n, p + 1) else (0, p)
theorem NextD_ok(bs:List Int)(p:Nat)(n:Int)(h1:1<=n)(h2:n<=256)(hb:Bytes bs):
  OkB prog 45 109 (codes bs p) [intC n] (fun q:Int × Nat=>(0<=q.1/\ q.1<n)/\ q=nxt bs p n) (fun q=>intC q.1) (fun q=>codes bs q.2):=by
 have hlen:=hb.len
 refine OkB.enter func45 J _ ntmps45 J ?_
 intro S w g;refine Qj 7 J (XY 14 0x800d0c0b0a09082723060504020100 J ?_);refine Qq 8 J (QV sBytes.und J (Qq 2 J (QQ 16 J (fun h=> ?_) (fun h=> ?_))))
 · refine Qq 12 J ?_;refine Y6 (0,p) [_] rfl (Q4 J Q3) J J ⟨⟨by show (0:Int)<=0;omega,by show (0:Int)<n;omega⟩,by unfold nxt;rw [if_neg (by omega)]⟩
 · refine Qq 5 J ?_;refine Qy J (fun h' => ?_) (fun h' => ?_)
   · exact absurd h' (by omega)
   · refine Qj 3 J (XY 12 0x800b0a29082723060504020100 J ?_);refine Qq 8 J (Q8 0 sBytes J (by omega) ?_);refine Qq 1 J ?_
     have hx:=hb.at p;generalize he:bs.getD p 0=x at hx
     refine Z0 (q:=x) J J uU8 uInt (by rw [Int.toNat_natCast,he];exact Zi (by omega) (by omega)) J ?_;refine QZ 22 J (by omega) ?_;refine Qy J (fun h' => ?_) (fun h' => ?_)
     · exact absurd h' (by omega)
     · refine Xz 11 J (by omega) ?_;refine Y6 (x%n,p+1) [_] rfl (Q4 J Q3) J J ⟨⟨Int.emod_nonneg _ (by omega),Int.emod_lt_of_pos _ (by omega)⟩,by unfold nxt;rw [if_pos (by omega),he]⟩
theorem Next_ok(bs:List Int)(p:Nat)(n:Int)(h1:1<=n)(h2:n<=256)(hb:Bytes bs):
  OkB prog 45 109 (codes bs p) [intC n] (fun q:Int × Nat=>0<=q.1/\ q.1<n) (fun q=>intC q.1) (fun q=>codes bs q.2):=
 (NextD_ok bs p n h1 h2 hb).weak fun q hq=>⟨q,hq.1,rfl,rfl⟩
theorem New_ok(bs:List Int):OkN prog 18 [bytesC bs,intC 400] 109 (codes (bs.take 400) 0):=by
 refine OkN.enter func18 J _ ntmps18 J ?_
 intro S w;refine Qj 9 J (QV sBytes.und J (Qq 4 J ?_));refine Qy J (fun h' => ?_) (fun h' => ?_)
 · refine Qj 3 J (Ops.cutHi J J J sBytes (by omega) (by rw [List.length_map];omega) J ?_);rw [<- List.map_take];refine Qq 12 J ?_;refine Fin.retN J J J J
 · refine Qj 11 J ?_;refine Fin.retN J J (by rw [List.take_of_length_le (by omega)];rfl) J
theorem Roll_ok(bs:List Int):OkN prog 5 [bytesC bs] 109 (codes (bs.take 400) 0):=by
 refine OkN.enter func5 J _ ntmps5 J ?_
 intro S w;refine Qj 8 J (Ops.callN 0 (gT J) (New_ok bs) J J J J J J (Qq 4 J ?_));refine Fin.retN J J J J
theorem Pick_ok(bs:List Int)(p:Nat)(xs:List Int)(h1:1<=xs.length)(h2:xs.length<=256)(hb:Bytes bs):
  OkB prog 21 109 (codes bs p) [intsC xs] (fun q:Int × Nat=>q.1∈xs) (fun q=>intC q.1) (fun q=>codes bs q.2):=by
 refine OkB.enter func21 J _ ntmps21 J ?_
 intro S w g;refine Qj 10 J (QV sInts.und J (Xy goNext (Next_ok bs p xs.length (by omega) (by omega) hb) J J J J J (fun q hq=> ?_)));obtain ⟨x,p'⟩:=q;dsimp only at hq
 refine Q8 0 sInts J (by omega) ?_;refine Qq 5 J (Y6 (xs.getD x.toNat 0,p') [_] rfl (Q4 J Q3) J J ?_)
 show xs.getD x.toNat 0∈xs
 have hl:x.toNat<xs.length:=by omega
 rw [List.getD_eq_getElem?_getD,List.getElem?_eq_getElem hl];exact List.getElem_mem hl
attribute [local irreducible] OkF OkL OkT
abbrev unitC : CT := .tup []
theorem uAddr:prog.underlying 40=some (.int .u32):=underlying40
theorem lAddr:Ld1 prog 40:=Ld1.of _ underlying40 rfl
abbrev adrC (x : Int) : CT := .ex (.int .u32 x)
def cmp3 (a b : Int) : Int := if a < b then -1 else if b < a then 1 else 0
theorem cmp3_eq(a b:Int):cmp3 a b=if a<b then -1 else if b<a then 1 else 0:=rfl
def cmpL : List Int → List Int → Int
  | x :: xs, y :: ys => if cmp3 x y ≠ 0 then cmp3 x y else cmpL xs ys
  | _, _ => 0
theorem nan_ok(x:Int):Ok prog 160 [intC x] (boolC false):=by
 refine Ok.enter func160 J _ ntmps160 J ?_
 intro S w;refine Qj 14 J ?_;refine Qw J (by rw [<- decide_eq_false (show ¬(x≠x) by simp)];rfl)
theorem nanA_ok(x:Int):Ok prog 104 [adrC x] (boolC false):=by
 refine Ok.enter func104 J _ ntmps104 J ?_
 intro S w;refine Qj 14 J ?_;refine Qw J (by rw [<- decide_eq_false (show ¬(x≠x) by simp)];rfl)
theorem cm_ok(x y:Int):Ok prog 100 [intC x,intC y] (intC (cmp3 x y)):=by
 refine Ok.enter func100 J _ ntmps100 J ?_
 intro S w;refine Qj 8 J (Qv (gT J) (nan_ok x) J (Qq 6 J (Qv (gT J) (nan_ok y) J (Qq 29 J ?_))));refine Qy J (fun h=> ?_) (fun h=> ?_)
 · refine Qj 6 J ?_;refine Qw J (by rw [cmp3_eq,if_pos h];rfl)
 · refine Qj 10 J ?_;refine Qy J (fun h2=> ?_) (fun h2=> ?_)
   · refine Qj 6 J ?_;refine Qw J (by rw [cmp3_eq,if_neg h,if_pos h2];rfl)
   · refine Qj 8 J ?_;refine Qw J (by rw [cmp3_eq,if_neg h,if_neg h2];rfl)
theorem cmA_ok(x y:Int):Ok prog 56 [adrC x,adrC y] (intC (cmp3 x y)):=by
 refine Ok.enter func56 J _ ntmps56 J ?_
 intro S w;refine Qj 8 J (Qv (gT J) (nanA_ok x) J (Qq 6 J (Qv (gT J) (nanA_ok y) J (Qq 29 J ?_))));refine Qy J (fun h=> ?_) (fun h=> ?_)
 · refine Qj 6 J ?_;refine Qw J (by rw [cmp3_eq,if_pos h];rfl)
 · refine Qj 10 J ?_;refine Qy J (fun h2=> ?_) (fun h2=> ?_)
   · refine Qj 6 J ?_;refine Qw J (by rw [cmp3_eq,if_neg h,if_pos h2];rfl)
   · refine Qj 8 J ?_;refine Qw J (by rw [cmp3_eq,if_neg h,if_neg h2];rfl)
def firstN : List Int → Int
  | [] => 0
  | x :: xs => if x ≠ 0 then x else firstN xs
theorem firstN_drop{xs:List Int}{i:Nat}(h:i<xs.length):firstN (xs.drop i)=if xs.getD i 0≠0 then xs.getD i 0 else firstN (xs.drop (i+1)):=by
 rw [List.drop_eq_getElem_cons h,List.getD_eq_getElem?_getD,List.getElem?_eq_getElem h];rfl
theorem Or_ok(xs:List Int)(hl:xs.length<=100):Ok prog 55 [intsC xs] (intC (firstN xs)):=by
 refine Ok.enter func55 J _ ntmps55 J ?_
 intro S w;refine Qj 14 J (QV sInts.und J (Qq 4 J ?_))
 refine QY (α:=Nat) (fun i=>i<=xs.length/\ firstN (xs.drop i)=firstN xs)
  (fun i=>[(3, .ct (intC 0)),(6, .ct (intsC xs)),(7, .ct (intC xs.length)),(8, .ct (intC i))]) (fun _=>[]) (fun i=>xs.length - i) 0 ⟨Nat.zero_le _,rfl⟩ (by exact Qx J) ?_
 rintro i ⟨hi,hf⟩
 dsimp only at hi hf ⊢;refine Qj 6 J ?_;refine Qy J (fun h=> ?_) (fun h=> ?_)
 · have e2:(i:Int).toNat=i:=Int.toNat_natCast i;have h3:=firstN_drop (xs:=xs) (i:=i) (by omega);refine Qj 6 J (Q8 0 sInts J (by omega) ?_);refine Qq 11 J ?_;rw [e2];generalize xs.getD i 0=x at h3;refine Qy J (fun h2=> ?_) (fun h2=> ?_)
   · refine Qj 7 J ?_;refine Qw J (by rw [<- hf,h3,if_pos h2];rfl)
   · refine Xz 7 J (by omega) ?_;refine Qk (i+1) (by omega) ⟨by omega,by rw [<- hf,h3,if_neg h2]⟩ (by exact Qx J)
 · refine Qj 9 J ?_
   have hi' :i=xs.length:=by omega
   refine Qw J (by rw [<- hf,hi',List.drop_length];rfl)
theorem aPair:ArrT prog 207 3 2 1 (.agg #[.int .i64 0, .int .i64 0]):=⟨underlying207,by kernel_rfl,by kernel_rfl⟩
theorem uPair:prog.underlying 207=some (.array 2 3):=underlying207
theorem szPair:(prog.info? 207).map (·.size)=some 2:=by kernel_rfl
theorem zvPair:(prog.info? 207).map (·.zero)=some (some (.agg #[.int .i64 0, .int .i64 0])):=by kernel_rfl
abbrev pr (p q : Int) : List CT := [intC p, intC q]
def prs (xs ys : List Int) : List (List CT) := List.zipWith pr xs ys
theorem prs_at{xs ys:List Int}{j:Nat}(h1:j<xs.length)(h2:j<ys.length):(prs xs ys)[j]? =some (pr (xs.getD j 0) (ys.getD j 0)):=by
 simp [prs,List.getElem?_zipWith,List.getElem?_eq_getElem h1,List.getElem?_eq_getElem h2,List.getD_eq_getElem?_getD]
theorem prs_len(xs ys:List Int):∀e∈prs xs ys,e.length=2:=fun e he=>by
 unfold prs at he
 rw [List.mem_iff_getElem?] at he
 obtain ⟨i,hi⟩:=he
 rw [List.getElem?_zipWith] at hi
 split at hi
 · injection hi with hi;subst hi;rfl
 · cases hi
theorem cmpL_drop{xs ys:List Int}{j:Nat}(h1:j<xs.length)(h2:j<ys.length):cmpL (xs.drop j) (ys.drop j)=if cmp3 (xs.getD j 0) (ys.getD j 0)≠0 then cmp3 (xs.getD j 0) (ys.getD j 0) else cmpL (xs.drop (j+1)) (ys.drop (j+1)):=by
 rw [List.drop_eq_getElem_cons h1,List.drop_eq_getElem_cons h2,List.getD_eq_getElem?_getD,List.getElem?_eq_getElem h1,List.getD_eq_getElem?_getD,List.getElem?_eq_getElem h2];rfl
structure Rs where
  va : Int
  ru : Int
  nu : Int
  tm : Int
  dst : Fin 4294967296
  pr : Int
  fl : Int
  tt : Int
  an : Bool
  db : Bool
  bk : Int
  fr : Fin 4294967296
  ki : Int
  co : Int
  le : Int
  id : Int
  qu : Int
deriving DecidableEq
theorem wrap_fin(x:Fin 4294967296):IntKind.i64.wrap (x.val:Int)=(x.val:Int):=Zi (by have:=x.isLt;omega) (by have:=x.isLt;omega)
def rs0 : Rs := ⟨0, 0, 0, 0, 0, 0, 0, 0, false, false, 0, 0, 0, 0, 0, 0, 0⟩
instance : Inhabited Rs := ⟨rs0⟩
def rsA (r : Rs) : List Am := [.i .i64 r.va, .i .i64 r.ru, .i .i64 r.nu, .i .i64 r.tm, .i .u32 r.dst.val, .i .i64 r.pr, .i .i64 r.fl, .i .i64 r.tt, .b r.an, .b r.db, .i .i64 r.bk]
def anA (r : Rs) : List Am := [.i .u32 r.fr.val, .i .i64 r.ki, .i .i64 r.co, .i .i64 r.le, .i .i64 r.id, .i .i64 r.qu]
abbrev rsCs (r : Rs) : List CT := [intC r.va, intC r.ru, intC r.nu, intC r.tm, adrC r.dst.val, intC r.pr, intC r.fl, intC r.tt, boolC r.an, boolC r.db, intC r.bk, adrC r.fr.val, intC r.ki, intC r.co, intC r.le, intC r.id, intC r.qu]
abbrev rsC (r : Rs) : CT := .agg (rsCs r)
abbrev rssC (l : List Rs) : CT := .fr (sliceT 17 (l.map rsCs))
def rss (l : List Rs) : List CT := (l.map rsCs).flatten
def rsV (r : Rs) : List Value := [.int .i64 r.va, .int .i64 r.ru, .int .i64 r.nu, .int .i64 r.tm, .int .u32 r.dst.val, .int .i64 r.pr, .int .i64 r.fl, .int .i64 r.tt, .bool r.an, .bool r.db, .int .i64 r.bk, .int .u32 r.fr.val, .int .i64 r.ki, .int .i64 r.co, .int .i64 r.le, .int .i64 r.id, .int .i64 r.qu]
theorem rs_len(r:Rs):(rsCs r).length=17:=rfl
theorem rss_frozen(e:Nat)(l:List Rs):(Ent.row e 17 (rss l)).frozen (.fr (sliceT 17 (l.map rsCs))):=
 ⟨_,rfl,fun e he=>by obtain ⟨m,_,rfl⟩:=List.mem_map.mp he;rfl,by decide,rfl⟩
theorem rss_at{l:List Rs}{j:Int}(h0:0<=j)(h:j<(l.length:Int)):(l.map rsCs)[j.toNat]? =some (rsCs (l.getD j.toNat rs0)):=by
 have:j.toNat<l.length:=by omega
 simp [List.getElem?_map,List.getElem?_eq_getElem this,List.getD_eq_getElem?_getD]
theorem rss_len(l:List Rs):(rss l).length=l.length*17:=el_len rs_len l
theorem rss_app(l m:List Rs):rss (l++m)=rss l++rss m:=by simp [rss]
theorem rsA_inj{x y:Rs}:(rsA x=rsA y/\ anA x=anA y)↔x=y:=by
 obtain ⟨a1,a2,a3,a4,a5,a6,a7,a8,a9,a10,a11,a12,a13,a14,a15,a16,a17⟩:=x;obtain ⟨b1,b2,b3,b4,b5,b6,b7,b8,b9,b10,b11,b12,b13,b14,b15,b16,b17⟩:=y;simp only [rsA,anA,List.cons.injEq,Am.i.injEq,Am.b.injEq,true_and,and_true,Rs.mk.injEq,Int.ofNat_inj,Fin.val_inj];constructor
 · rintro ⟨⟨h1,h2,h3,h4,h5,h6,h7,h8,h9,h10,h11⟩,h12,h13,h14,h15,h16,h17⟩
   exact ⟨h1,h2,h3,h4,h5,h6,h7,h8,h9,h10,h11,h12,h13,h14,h15,h16,h17⟩
 · rintro ⟨h1,h2,h3,h4,h5,h6,h7,h8,h9,h10,h11,h12,h13,h14,h15,h16,h17⟩
   exact ⟨⟨h1,h2,h3,h4,h5,h6,h7,h8,h9,h10,h11⟩,h12,h13,h14,h15,h16,h17⟩
theorem szRes:(prog.info? 62).map (·.size)=some 17:=by kernel_rfl
theorem szAns:(prog.info? 60).map (·.size)=some 6:=by kernel_rfl
theorem lRes:LdN prog 62 17:=LdN.of _ underlying62 rfl (by kernel_rfl)
theorem lAns:LdN prog 60 6:=LdN.of _ underlying60 rfl (by kernel_rfl)
abbrev zRes : Value := .agg #[.int .i64 0, .int .i64 0, .int .i64 0, .int .i64 0, .int .u32 0, .int .i64 0, .int .i64 0, .int .i64 0, .bool false, .bool false, .int .i64 0, .int .u32 0, .int .i64 0, .int .i64 0, .int .i64 0, .int .i64 0, .int .i64 0]
theorem zvRes:(prog.info? 62).map (·.zero)=some (some zRes):=by kernel_rfl
theorem sRes:SlcT prog 26 62 17 128 zRes:=SlcT.of underlying26 (by kernel_rfl) rfl (by decide)
theorem fS6:fldInfo prog 62 6=some (6,some 1):=by kernel_rfl
theorem fS7:fldInfo prog 62 7=some (7,some 1):=by kernel_rfl
theorem fS8:fldInfo prog 62 8=some (8,some 1):=by kernel_rfl
theorem fS11:fldInfo prog 62 11=some (11,some 6):=by kernel_rfl
theorem fN0:fldInfo prog 60 0=some (0,some 1):=by kernel_rfl
theorem lBool1:Ld1 prog 4:=Ld1.of _ underlying4 rfl
theorem eRes:EqN prog 62 60 [.int .i64, .int .i64, .int .i64, .int .i64, .int .u32, .int .i64, .int .i64, .int .i64, .bool, .bool, .int .i64] [.int .u32, .int .i64, .int .i64, .int .i64, .int .i64, .int .i64]:=
 ⟨by kernel_rfl,by kernel_rfl,by kernel_rfl,by kernel_rfl,by kernel_rfl,by kernel_rfl,by kernel_rfl,by kernel_rfl,by kernel_rfl⟩
section
variable {X : Ctx} {L : AL} {B : BL} {ops : Array Oper} {K : Act → World → Prop} {r : Pl} {k : Kd}
  {x y : Operand} {d : Nat} {t t2 t' : TypeId} {pos : String} {af : Array Edge} {g : Option (Nat × Bool)}
theorem eqRs(p q:Rs)(hg:gd ops L g=some true)(hx:ev L x=some (.ct (rsC p)))(hy:ev L y=some (.ct (rsC q)))(hP:X.P=prog)(hn:Nat.blt d X.n=true)
  (h:Ops X ops r ((d, .ct (boolC (decide (p=q))))::L) B K):Ops X ops (.cons ⟨some d, .binOp .eql 62 x y t2,t',pos,af,g⟩ k r) L B K:=
 Ops.eqN (rsA p) (anA p) (rsA q) (anA q) hg hx hy rfl rfl rfl rfl (hP▸eRes) hn (by rw [decide_eq_decide.2 rsA_inj];exact h)
theorem neRs(p q:Rs)(hg:gd ops L g=some true)(hx:ev L x=some (.ct (rsC p)))(hy:ev L y=some (.ct (rsC q)))(hP:X.P=prog)(hn:Nat.blt d X.n=true)
  (h:Ops X ops r ((d, .ct (boolC (!decide (p=q))))::L) B K):Ops X ops (.cons ⟨some d, .binOp .neq 62 x y t2,t',pos,af,g⟩ k r) L B K:=
 Ops.neN (rsA p) (anA p) (rsA q) (anA q) hg hx hy rfl rfl rfl rfl (hP▸eRes) hn (by rw [decide_eq_decide.2 rsA_inj];exact h)
end
def anI (r : Rs) : List Int := [(r.fr.val : Int), r.ki, r.co, r.le, r.id, r.qu]
def P1 (r : Rs) : Prop := r.va < 0 ∨ 15 < r.va ∨ r.ru < 0 ∨ 63 < r.ru ∨ r.nu < 0 ∨ 999 < r.nu ∨ r.tm < 0 ∨ 2251799813685248 < r.tm ∨ r.bk < 0 ∨ 2251799813685248 < r.bk ∨ r.bk < r.tm ∨ r.fl < 0 ∨ 1023 < r.fl ∨ r.tt < 1 ∨ 255 < r.tt
def P2 (r : Rs) : Prop := r.pr ≠ 1 ∧ r.pr ≠ 6 ∧ r.pr ≠ 17
def P3 (r : Rs) : Prop := r.an = false ∧ (r.db = true ∨ anI r ≠ [0, 0, 0, 0, 0, 0])
def P4 (r : Rs) : Prop := r.an = true ∧ (r.ki < 1 ∨ 5 < r.ki ∨ r.co < 0 ∨ 255 < r.co ∨ r.le < 0 ∨ 255 < r.le ∨ r.qu < 0 ∨ 255 < r.qu ∨ r.id < 0 ∨ 65535 < r.id)
instance (r : Rs) : Decidable (P1 r) := by unfold P1; infer_instance
instance (r : Rs) : Decidable (P2 r) := by unfold P2; infer_instance
instance (r : Rs) : Decidable (P3 r) := by unfold P3; infer_instance
instance (r : Rs) : Decidable (P4 r) := by unfold P4; infer_instance
def ckE (r : Rs) : Int := if P1 r then 1 else if P2 r then 16 else if P3 r then 7 else if P4 r then 1 else 0
def okR (r : Rs) : Bool := decide (ckE r = 0) && (decide (r.dst.val ≠ 0) && (!r.an || decide (r.fr.val ≠ 0)))
theorem eAns:EqS prog 60 [.u32, .i64, .i64, .i64, .i64, .i64]:=⟨by kernel_rfl,by kernel_rfl,by kernel_rfl,by kernel_rfl⟩
theorem within_ok(n m:Int):Ok prog 121 [intC n,intC m] (boolC (decide (0<=n/\ n<=m))):=by
 refine Ok.enter func121 J _ ntmps121 J ?_
 intro S w;refine Qj 10 J (QQ 7 J (fun h=> ?_) (fun h=> ?_))
 · refine Qq 8 J ?_;refine Qw J (by rw [show decide (0<=n/\ n<=m)=decide (n<=m) from decide_eq_decide.2 ⟨fun h2=>h2.2,fun h2=>⟨h,h2⟩⟩];rfl)
 · refine Qq 8 J ?_;refine Qw J (by rw [decide_eq_false (fun h2:0<=n/\ n<=m=>h h2.1)];rfl)
theorem octet_ok(n:Int):Ok prog 228 [intC n] (boolC (decide (0<=n/\ n<=255))):=by
 refine Ok.enter func228 J _ ntmps228 J ?_
 intro S w;refine Qj 10 J (QQ 5 J (fun h=> ?_) (fun h=> ?_))
 · refine Qq 7 J ?_;refine Qw J (by rw [show decide (0<=n/\ n<=255)=decide (n<=255) from decide_eq_decide.2 ⟨fun h2=>h2.2,fun h2=>⟨h,h2⟩⟩];rfl)
 · refine Qq 7 J ?_;refine Qw J (by rw [decide_eq_false (fun h2:0<=n/\ n<=255=>h h2.1)];rfl)
theorem jrun_ok(n m:Int):Ok prog 120 [intC n,intC m] (boolC (decide ((0<=n/\ n<=15)/\ 0<=m/\ m<=63))):=by
 refine Ok.enter func120 J _ ntmps120 J ?_
 intro S w;refine Qj 8 J (Qv (gT J) (within_ok n 15) J (Qq 1 J (QQ 7 J (fun h=> ?_) (fun h=> ?_))))
 · refine Qq 1 J (Qv (gT J) (within_ok m 63) J (Qq 5 J ?_));refine Qw J (by rw [show decide ((0<=n/\ n<=15)/\ 0<=m/\ m<=63)=decide (0<=m/\ m<=63) from decide_eq_decide.2 ⟨fun h2=>h2.2,fun h2=>⟨h,h2⟩⟩];rfl)
 · refine Qq 7 J ?_;refine Qw J (by rw [decide_eq_false (fun h2:(0<=n/\ n<=15)/\ 0<=m/\ m<=63=>h h2.1)];rfl)
theorem rident_ok(n m:Int):Ok prog 227 [intC n,intC m] (boolC (decide ((0<=n/\ n<=15)/\ 0<=m/\ m<=63))):=by
 refine Ok.enter func227 J _ ntmps227 J ?_
 intro S w;refine Qj 10 J (QQ 7 J (fun h=> ?_) (fun h=> ?_));rotate_left
 · refine Qq 15 J ?_;refine Qw J (by rw [decide_eq_false (fun h2:(0<=n/\ n<=15)/\ 0<=m/\ m<=63=>by omega)];rfl)
 refine Qq 4 J (QQ 11 J (fun h3=> ?_) (fun h3=> ?_));rotate_left
 · refine Qq 11 J ?_;refine Qw J (by rw [decide_eq_false (fun h2:(0<=n/\ n<=15)/\ 0<=m/\ m<=63=>by omega)];rfl)
 refine Qq 4 J (QQ 15 J (fun h4=> ?_) (fun h4=> ?_));rotate_left
 · refine Qq 7 J ?_;refine Qw J (by rw [decide_eq_false (fun h2:(0<=n/\ n<=15)/\ 0<=m/\ m<=63=>by omega)];rfl)
 refine Qq 7 J ?_;refine Qw J (by rw [show decide ((0<=n/\ n<=15)/\ 0<=m/\ m<=63)=decide (m<64) from decide_eq_decide.2 ⟨fun h2=>by omega,fun h2=>by omega⟩];rfl)
theorem jCheck_ok(r:Rs):Ok prog 77 [rsC r] (intC (ckE r)):=by
 refine Ok.enter func77 J _ ntmps77 J ?_
 intro S w;refine Qj 9 J (Z5 (n:=6) J J J J (Nat.le_of_ble_eq_true J) lAns J (Qq 13 J (Qv (gT J) (jrun_ok r.va r.ru) J (QQ 11 J (fun h1=> ?_) (fun h1=> ?_)))));rotate_left
 · refine Qq 14 J ?_;refine Qw J (by rw [show ckE r=1 from if_pos (by unfold P1;omega)];rfl)
 refine Qq 9 J (Qv (gT J) (within_ok r.nu 999) J (QQ 15 J (fun h2=> ?_) (fun h2=> ?_)));rotate_left
 · refine Qq 14 J ?_;refine Qw J (by rw [show ckE r=1 from if_pos (by unfold P1;omega)];rfl)
 refine Qq 9 J (Qv (gT J) (within_ok r.tm 2251799813685248) J (QQ 19 J (fun h3=> ?_) (fun h3=> ?_)));rotate_left
 · refine Qq 14 J ?_;refine Qw J (by rw [show ckE r=1 from if_pos (by unfold P1;omega)];rfl)
 refine Qq 9 J (Qv (gT J) (within_ok r.bk 2251799813685248) J (QQ 23 J (fun h4=> ?_) (fun h4=> ?_)));rotate_left
 · refine Qq 14 J ?_;refine Qw J (by rw [show ckE r=1 from if_pos (by unfold P1;omega)];rfl)
 refine Qq 15 J ?_;refine Qy J (fun h5=> ?_) (fun h5=> ?_)
 · refine Qj 2 J ?_;refine Qy J (fun _=> ?_) (fun h=>absurd h5 h);refine Qj 6 J ?_;refine Qw J (by rw [show ckE r=1 from if_pos (by unfold P1;omega)];rfl)
 refine Qj 4 J (Qv (gT J) (within_ok r.fl 1023) J (QQ 32 J (fun h6=> ?_) (fun h6=> ?_)));rotate_left
 · refine Qq 14 J ?_;refine Qw J (by rw [show ckE r=1 from if_pos (by unfold P1;omega)];rfl)
 refine Qq 10 J (QQ 37 J (fun h7=> ?_) (fun h7=> ?_))
 · refine Qq 14 J ?_;refine Qw J (by rw [show ckE r=1 from if_pos (by unfold P1;omega)];rfl)
 refine Qq 7 J ?_;refine Qy J (fun h8=> ?_) (fun h8=> ?_)
 · refine Qj 6 J ?_;refine Qw J (by rw [show ckE r=1 from if_pos (by unfold P1;omega)];rfl)
 have n1:¬P1 r:=by unfold P1;omega
 clear h1 h2 h3 h4 h5 h6 h7 h8;refine Qj 1 J (X4 (α:=Bool) (fun b=>b=decide (P2 r)) (fun b=>[(1, .own 0),(3, .own 1),(42, .ct (boolC b))]) (fun _=>[(1, .box 60 [adrC r.fr.val,intC r.ki,intC r.co,intC r.le,intC r.id,intC r.qu]),(0, .box 62 (rsCs r))]) (fun b hb=> ?_) (fun KK hN=> ?_));rotate_left
 · refine Qj 5 J (QQ 46 J (fun h9=> ?_) (fun h9=> ?_))
   · refine Qq 5 J (QQ 51 J (fun h10=> ?_) (fun h10=> ?_))
     · refine Qq 6 J ?_;exact Q7 hN (decide (r.pr≠17)) (decide_eq_decide.2 ⟨fun h=>⟨h9,h10,h⟩,fun h=>h.2.2⟩) (by exact Qx J)
     · refine Qq 6 J ?_;exact Q7 hN false (decide_eq_false (fun h=>h10 h.2.1)).symm (by exact Qx J)
   · refine Qq 11 J ?_;exact Q7 hN false (decide_eq_false (fun h=>h9 h.1)).symm (by exact Qx J)
 subst hb;refine Xx J (fun h9=> ?_) (fun h9=> ?_)
 · refine Qj 6 J ?_;refine Qw J (by rw [show ckE r=16 from (if_neg n1).trans (if_pos (of_decide_eq_true h9))];rfl)
 have n2:¬P2 r:=of_decide_eq_false h9;have hbx:rsCs r=[intC r.va,intC r.ru,intC r.nu,intC r.tm,adrC r.dst.val,intC r.pr,intC r.fl,intC r.tt,boolC r.an,boolC r.db,intC r.bk,adrC r.fr.val,intC r.ki,intC r.co,intC r.le,intC r.id,intC r.qu]:=rfl;rw [hbx];clear hbx h9;have e3:P3 r=(r.an=false/\ (r.db=true \/anI r≠ [0,0,0,0,0,0])):=rfl;have e4:P4 r=(r.an=true/\ (r.ki<1 \/5<r.ki \/r.co<0 \/255<r.co \/r.le<0 \/255<r.le \/r.qu<0 \/255<r.qu \/r.id<0 \/65535<r.id)):=rfl;generalize han:r.an=an at e3 e4 ⊢;generalize hdb:r.db=db at e3 ⊢
 cases an with
 |false=>
  cases db with
  |true=>
   refine Qj 23 J ?_;refine Qw J (by rw [show ckE r=7 from (if_neg n1).trans ((if_neg n2).trans (if_pos (by rw [e3];exact ⟨rfl, .inl J⟩)))];rfl)
  |false=>
   refine Qj 21 J (Ops.neS (ks:=[.u32, .i64, .i64, .i64, .i64, .i64]) (anI r) [0,0,0,0,0,0] rfl rfl rfl rfl rfl eAns J (Qq 4 J ?_));refine Xx J (fun k0=> ?_) (fun k0=> ?_)
   · refine Qj 6 J ?_;refine Qw J (by rw [show ckE r=7 from (if_neg n1).trans ((if_neg n2).trans (if_pos (by rw [e3];exact ⟨rfl, .inr (of_decide_eq_false (by simpa using k0))⟩)))];rfl)
   · have n3:¬P3 r:=by rw [e3];exact fun h=>h.2.elim (fun h=>by cases h) (fun h=>h (by simpa using k0))
     have n4:¬P4 r:=by rw [e4];exact fun h=>by cases h.1
     refine Qj 50 J ?_;refine Qw J (by rw [show ckE r=0 from (if_neg n1).trans ((if_neg n2).trans ((if_neg n3).trans (if_neg n4)))];rfl)
 |true=>
  have n3:¬P3 r:=by rw [e3];exact fun h=>by cases h.1
  cases db with
  |false=>
   refine Qj 36 J (QQ 79 J (fun k1=> ?_) (fun k1=> ?_))
   · refine Qq 39 J ?_;refine Qw J (by rw [show ckE r=1 from (if_neg n1).trans ((if_neg n2).trans ((if_neg n3).trans (if_pos (by rw [e4];exact ⟨rfl,by omega⟩))))];rfl)
   refine Qq 5 J (QQ 84 J (fun k2=> ?_) (fun k2=> ?_))
   · refine Qq 34 J ?_;refine Qw J (by rw [show ckE r=1 from (if_neg n1).trans ((if_neg n2).trans ((if_neg n3).trans (if_pos (by rw [e4];exact ⟨rfl,by omega⟩))))];rfl)
   refine Qq 2 J (Qv (gT J) (within_ok r.co 255) J (QQ 87 J (fun k3=> ?_) (fun k3=> ?_)));rotate_left
   · refine Qq 31 J ?_;refine Qw J (by rw [show ckE r=1 from (if_neg n1).trans ((if_neg n2).trans ((if_neg n3).trans (if_pos (by rw [e4];exact ⟨rfl,by omega⟩))))];rfl)
   refine Qq 5 J (Qv (gT J) (within_ok r.le 255) J (QQ 93 J (fun k4=> ?_) (fun k4=> ?_)));rotate_left
   · refine Qq 25 J ?_;refine Qw J (by rw [show ckE r=1 from (if_neg n1).trans ((if_neg n2).trans ((if_neg n3).trans (if_pos (by rw [e4];exact ⟨rfl,by omega⟩))))];rfl)
   refine Qq 5 J (Qv (gT J) (within_ok r.qu 255) J (QQ 99 J (fun k5=> ?_) (fun k5=> ?_)));rotate_left
   · refine Qq 19 J ?_;refine Qw J (by rw [show ckE r=1 from (if_neg n1).trans ((if_neg n2).trans ((if_neg n3).trans (if_pos (by rw [e4];exact ⟨rfl,by omega⟩))))];rfl)
   refine Qq 5 J (Qv (gT J) (within_ok r.id 65535) J (QQ 105 J (fun k6=> ?_) (fun k6=> ?_)));rotate_left
   · refine Qq 13 J ?_;refine Qw J (by rw [show ckE r=1 from (if_neg n1).trans ((if_neg n2).trans ((if_neg n3).trans (if_pos (by rw [e4];exact ⟨rfl,by omega⟩))))];rfl)
   have n4:¬P4 r:=by rw [e4];exact fun h=>by have:=h.2;omega
   refine Qq 15 J ?_;refine Qw J (by rw [show ckE r=0 from (if_neg n1).trans ((if_neg n2).trans ((if_neg n3).trans (if_neg n4)))];rfl)
  |true=>
   refine Qj 36 J (QQ 79 J (fun k1=> ?_) (fun k1=> ?_))
   · refine Qq 39 J ?_;refine Qw J (by rw [show ckE r=1 from (if_neg n1).trans ((if_neg n2).trans ((if_neg n3).trans (if_pos (by rw [e4];exact ⟨rfl,by omega⟩))))];rfl)
   refine Qq 5 J (QQ 84 J (fun k2=> ?_) (fun k2=> ?_))
   · refine Qq 34 J ?_;refine Qw J (by rw [show ckE r=1 from (if_neg n1).trans ((if_neg n2).trans ((if_neg n3).trans (if_pos (by rw [e4];exact ⟨rfl,by omega⟩))))];rfl)
   refine Qq 2 J (Qv (gT J) (within_ok r.co 255) J (QQ 87 J (fun k3=> ?_) (fun k3=> ?_)));rotate_left
   · refine Qq 31 J ?_;refine Qw J (by rw [show ckE r=1 from (if_neg n1).trans ((if_neg n2).trans ((if_neg n3).trans (if_pos (by rw [e4];exact ⟨rfl,by omega⟩))))];rfl)
   refine Qq 5 J (Qv (gT J) (within_ok r.le 255) J (QQ 93 J (fun k4=> ?_) (fun k4=> ?_)));rotate_left
   · refine Qq 25 J ?_;refine Qw J (by rw [show ckE r=1 from (if_neg n1).trans ((if_neg n2).trans ((if_neg n3).trans (if_pos (by rw [e4];exact ⟨rfl,by omega⟩))))];rfl)
   refine Qq 5 J (Qv (gT J) (within_ok r.qu 255) J (QQ 99 J (fun k5=> ?_) (fun k5=> ?_)));rotate_left
   · refine Qq 19 J ?_;refine Qw J (by rw [show ckE r=1 from (if_neg n1).trans ((if_neg n2).trans ((if_neg n3).trans (if_pos (by rw [e4];exact ⟨rfl,by omega⟩))))];rfl)
   refine Qq 5 J (Qv (gT J) (within_ok r.id 65535) J (QQ 105 J (fun k6=> ?_) (fun k6=> ?_)));rotate_left
   · refine Qq 13 J ?_;refine Qw J (by rw [show ckE r=1 from (if_neg n1).trans ((if_neg n2).trans ((if_neg n3).trans (if_pos (by rw [e4];exact ⟨rfl,by omega⟩))))];rfl)
   have n4:¬P4 r:=by rw [e4];exact fun h=>by have:=h.2;omega
   refine Qq 15 J ?_;refine Qw J (by rw [show ckE r=0 from (if_neg n1).trans ((if_neg n2).trans ((if_neg n3).trans (if_neg n4)))];rfl)
theorem rCheckR_ok(r:Rs):Ok prog 190 [rsC r] (intC (ckE r)):=by
 refine Ok.enter func190 J _ ntmps190 J ?_
 intro S w;refine Qj 13 J (Qv (gT J) (rident_ok r.va r.ru) J (QQ 8 J (fun h1=> ?_) (fun h1=> ?_)));rotate_left
 · refine Qq 62 J ?_;refine Qw J (by rw [show ckE r=1 from if_pos (by unfold P1;omega)];rfl)
 refine Qq 7 J (QQ 15 J (fun g0=> ?_) (fun g0=> ?_))
 · refine Qq 55 J ?_;refine Qw J (by rw [show ckE r=1 from if_pos (by unfold P1;omega)];rfl)
 refine Qq 5 J (QQ 20 J (fun g1=> ?_) (fun g1=> ?_))
 · refine Qq 50 J ?_;refine Qw J (by rw [show ckE r=1 from if_pos (by unfold P1;omega)];rfl)
 refine Qq 5 J (QQ 25 J (fun g2=> ?_) (fun g2=> ?_))
 · refine Qq 45 J ?_;refine Qw J (by rw [show ckE r=1 from if_pos (by unfold P1;omega)];rfl)
 refine Qq 5 J (QQ 30 J (fun g3=> ?_) (fun g3=> ?_))
 · refine Qq 40 J ?_;refine Qw J (by rw [show ckE r=1 from if_pos (by unfold P1;omega)];rfl)
 refine Qq 7 J (QQ 37 J (fun g4=> ?_) (fun g4=> ?_))
 · refine Qq 33 J ?_;refine Qw J (by rw [show ckE r=1 from if_pos (by unfold P1;omega)];rfl)
 refine Qq 5 J (QQ 42 J (fun g5=> ?_) (fun g5=> ?_))
 · refine Qq 28 J ?_;refine Qw J (by rw [show ckE r=1 from if_pos (by unfold P1;omega)];rfl)
 refine Qq 5 J (QQ 47 J (fun g6=> ?_) (fun g6=> ?_))
 · refine Qq 23 J ?_;refine Qw J (by rw [show ckE r=1 from if_pos (by unfold P1;omega)];rfl)
 refine Qq 5 J (QQ 52 J (fun g7=> ?_) (fun g7=> ?_))
 · refine Qq 18 J ?_;refine Qw J (by rw [show ckE r=1 from if_pos (by unfold P1;omega)];rfl)
 refine Qq 5 J (QQ 57 J (fun g8=> ?_) (fun g8=> ?_))
 · refine Qq 13 J ?_;refine Qw J (by rw [show ckE r=1 from if_pos (by unfold P1;omega)];rfl)
 refine Qq 6 J ?_;refine Qy J (fun h8=> ?_) (fun h8=> ?_)
 · refine Qj 6 J ?_;refine Qw J (by rw [show ckE r=1 from if_pos (by unfold P1;omega)];rfl)
 have n1:¬P1 r:=by unfold P1;omega
 clear h1 h8 g0 g1 g2 g3 g4 g5 g6 g7 g8;refine Qj 4 J (X4 (α:=Bool) (fun b=>b=decide (P2 r)) (fun b=>[(1, .own 0),(74, .ct (boolC b))]) (fun _=>[(0, .box 62 (rsCs r))]) (fun b hb=> ?_) (fun KK hN=> ?_));rotate_left
 · refine Qj 5 J (QQ 65 J (fun h9=> ?_) (fun h9=> ?_))
   · refine Qq 5 J (QQ 70 J (fun h10=> ?_) (fun h10=> ?_))
     · refine Qq 5 J ?_;exact Q7 hN (decide (r.pr≠17)) (decide_eq_decide.2 ⟨fun h=>⟨h9,h10,h⟩,fun h=>h.2.2⟩) (by exact Qx J)
     · refine Qq 5 J ?_;exact Q7 hN false (decide_eq_false (fun h=>h10 h.2.1)).symm (by exact Qx J)
   · refine Qq 10 J ?_;exact Q7 hN false (decide_eq_false (fun h=>h9 h.1)).symm (by exact Qx J)
 subst hb;refine Xx J (fun h9=> ?_) (fun h9=> ?_)
 · refine Qj 6 J ?_;refine Qw J (by rw [show ckE r=16 from (if_neg n1).trans (if_pos (of_decide_eq_true h9))];rfl)
 have n2:¬P2 r:=of_decide_eq_false h9;refine Qj 5 J (Z5 (n:=6) J J J J (Nat.le_of_ble_eq_true J) lAns J (Qq 2 J ?_));have hbx:rsCs r=[intC r.va,intC r.ru,intC r.nu,intC r.tm,adrC r.dst.val,intC r.pr,intC r.fl,intC r.tt,boolC r.an,boolC r.db,intC r.bk,adrC r.fr.val,intC r.ki,intC r.co,intC r.le,intC r.id,intC r.qu]:=rfl;rw [hbx];clear hbx h9;have e3:P3 r=(r.an=false/\ (r.db=true \/anI r≠ [0,0,0,0,0,0])):=rfl;have e4:P4 r=(r.an=true/\ (r.ki<1 \/5<r.ki \/r.co<0 \/255<r.co \/r.le<0 \/255<r.le \/r.qu<0 \/255<r.qu \/r.id<0 \/65535<r.id)):=rfl;generalize han:r.an=an at e3 e4 ⊢;generalize hdb:r.db=db at e3 ⊢
 cases an with
 |false=>
  cases db with
  |true=>
   refine Qq 26 J ?_;refine Qw J (by rw [show ckE r=7 from (if_neg n1).trans ((if_neg n2).trans (if_pos (by rw [e3];exact ⟨rfl, .inl J⟩)))];rfl)
  |false=>
   refine Qq 14 J (Ops.neS (ks:=[.u32, .i64, .i64, .i64, .i64, .i64]) (anI r) [0,0,0,0,0,0] rfl rfl rfl rfl rfl eAns J (Qq 4 J ?_));refine Xx J (fun k0=> ?_) (fun k0=> ?_)
   · refine Qj 6 J ?_;refine Qw J (by rw [show ckE r=7 from (if_neg n1).trans ((if_neg n2).trans (if_pos (by rw [e3];exact ⟨rfl, .inr (of_decide_eq_false (by simpa using k0))⟩)))];rfl)
   · have n3:¬P3 r:=by rw [e3];exact fun h=>h.2.elim (fun h=>by cases h) (fun h=>h (by simpa using k0))
     have n4:¬P4 r:=by rw [e4];exact fun h=>by cases h.1
     refine Qj 56 J ?_;refine Qw J (by rw [show ckE r=0 from (if_neg n1).trans ((if_neg n2).trans ((if_neg n3).trans (if_neg n4)))];rfl)
 |true=>
  have n3:¬P3 r:=by rw [e3];exact fun h=>by cases h.1
  refine Qq 32 J (QQ 95 J (fun k1=> ?_) (fun k1=> ?_))
  · refine Qq 42 J ?_;refine Qw J (by rw [show ckE r=1 from (if_neg n1).trans ((if_neg n2).trans ((if_neg n3).trans (if_pos (by rw [e4];exact ⟨rfl,by omega⟩))))];rfl)
  refine Qq 5 J (QQ 100 J (fun k2=> ?_) (fun k2=> ?_))
  · refine Qq 37 J ?_;refine Qw J (by rw [show ckE r=1 from (if_neg n1).trans ((if_neg n2).trans ((if_neg n3).trans (if_pos (by rw [e4];exact ⟨rfl,by omega⟩))))];rfl)
  refine Qq 2 J (Qv (gT J) (octet_ok r.co) J (QQ 103 J (fun k3=> ?_) (fun k3=> ?_)));rotate_left
  · refine Qq 34 J ?_;refine Qw J (by rw [show ckE r=1 from (if_neg n1).trans ((if_neg n2).trans ((if_neg n3).trans (if_pos (by rw [e4];exact ⟨rfl,by omega⟩))))];rfl)
  refine Qq 5 J (Qv (gT J) (octet_ok r.le) J (QQ 109 J (fun k4=> ?_) (fun k4=> ?_)));rotate_left
  · refine Qq 28 J ?_;refine Qw J (by rw [show ckE r=1 from (if_neg n1).trans ((if_neg n2).trans ((if_neg n3).trans (if_pos (by rw [e4];exact ⟨rfl,by omega⟩))))];rfl)
  refine Qq 5 J (Qv (gT J) (octet_ok r.qu) J (QQ 115 J (fun k5=> ?_) (fun k5=> ?_)));rotate_left
  · refine Qq 22 J ?_;refine Qw J (by rw [show ckE r=1 from (if_neg n1).trans ((if_neg n2).trans ((if_neg n3).trans (if_pos (by rw [e4];exact ⟨rfl,by omega⟩))))];rfl)
  refine Qq 8 J (QQ 123 J (fun k6=> ?_) (fun k6=> ?_))
  · refine Qq 14 J ?_;refine Qw J (by rw [show ckE r=1 from (if_neg n1).trans ((if_neg n2).trans ((if_neg n3).trans (if_pos (by rw [e4];exact ⟨rfl,by omega⟩))))];rfl)
  refine Qq 7 J ?_;refine Qy J (fun k7=> ?_) (fun k7=> ?_)
  · refine Qj 6 J ?_;refine Qw J (by rw [show ckE r=1 from (if_neg n1).trans ((if_neg n2).trans ((if_neg n3).trans (if_pos (by rw [e4];exact ⟨rfl,by omega⟩))))];rfl)
  have n4:¬P4 r:=by rw [e4];exact fun h=>by have:=h.2;omega
  refine Qj 8 J ?_;refine Qw J (by rw [show ckE r=0 from (if_neg n1).trans ((if_neg n2).trans ((if_neg n3).trans (if_neg n4)))];rfl)
theorem ValidR_ok(r:Rs):Ok prog 38 [rsC r] (boolC (okR r)):=by
 have e0:okR r=(decide (ckE r=0)&&(decide (r.dst.val≠0)&&(!r.an||decide (r.fr.val≠0)))):=rfl;have hC:=jCheck_ok r;generalize ckE r=e at e0 hC
 refine Ok.enter func38 J _ ntmps38 J ?_
 intro S w;refine Qj 9 J (Qv (gT J) hC J (Qq 2 J (QQ 6 J (fun h=> ?_) (fun h=> ?_))));rotate_left
 · refine Qq 19 J ?_;refine Qw J (by rw [e0,decide_eq_false h];rfl)
 rw [decide_eq_true h,Bool.true_and] at e0;refine Qq 5 J (QQ 11 J (fun h2=> ?_) (fun h2=> ?_));rotate_left
 · refine Qq 14 J ?_;refine Qw J (by rw [e0,decide_eq_false (show ¬r.dst.val≠0 by omega)];rfl)
 rw [decide_eq_true (show r.dst.val≠0 by omega),Bool.true_and] at e0;refine Qq 4 J (Xk 15 J (fun h3=> ?_) (fun h3=> ?_))
 · have h3:r.an=false:=by simpa using h3
   refine Qq 10 J ?_;refine Qw J (by rw [e0,h3];rfl)
 · have h3:r.an=true:=by simpa using h3
   refine Qq 10 J ?_;refine Qw J (by rw [e0,h3,show decide (r.fr.val≠0)=decide ((r.fr.val:Int)≠0) from decide_eq_decide.2 (by omega)];rfl)
theorem rValidR_ok(r:Rs):Ok prog 137 [rsC r] (boolC (okR r)):=by
 have e0:okR r=(decide (ckE r=0)&&(decide (r.dst.val≠0)&&(!r.an||decide (r.fr.val≠0)))):=rfl;have hC:=rCheckR_ok r;generalize ckE r=e at e0 hC
 refine Ok.enter func137 J _ ntmps137 J ?_
 intro S w;refine Qj 9 J (Qv (gT J) hC J (Qq 2 J (QQ 6 J (fun h=> ?_) (fun h=> ?_))));rotate_left
 · refine Qq 19 J ?_;refine Qw J (by rw [e0,decide_eq_false h];rfl)
 rw [decide_eq_true h,Bool.true_and] at e0;refine Qq 5 J (QQ 11 J (fun h2=> ?_) (fun h2=> ?_));rotate_left
 · refine Qq 14 J ?_;refine Qw J (by rw [e0,decide_eq_false (show ¬r.dst.val≠0 by omega)];rfl)
 rw [decide_eq_true (show r.dst.val≠0 by omega),Bool.true_and] at e0;refine Qq 4 J (Xk 15 J (fun h3=> ?_) (fun h3=> ?_))
 · have h3:r.an=false:=by simpa using h3
   refine Qq 10 J ?_;refine Qw J (by rw [e0,h3];rfl)
 · have h3:r.an=true:=by simpa using h3
   refine Qq 10 J ?_;refine Qw J (by rw [e0,h3,show decide (r.fr.val≠0)=decide ((r.fr.val:Int)≠0) from decide_eq_decide.2 (by omega)];rfl)
def b01 (b : Bool) : Int := if b then 1 else 0
def rsO (x : Rs) : List Int := [x.tm, x.va, x.ru, x.nu, IntKind.i64.wrap (x.dst.val : Int), x.pr, x.fl, x.tt, b01 x.an, b01 x.db, x.bk, IntKind.i64.wrap (x.fr.val : Int), x.ki, x.co, x.le, x.id, x.qu]
def cmpR (x y : Rs) : Int := cmpL (rsO x) (rsO y)
theorem b01_inj{a b:Bool}(h:b01 a=b01 b):a=b:=by cases a <;>cases b <;>first|rfl|cases h
theorem rsO_inj{x y:Rs}(h:rsO x=rsO y):x=y:=by
 obtain ⟨a1,a2,a3,a4,a5,a6,a7,a8,a9,a10,a11,a12,a13,a14,a15,a16,a17⟩:=x;obtain ⟨c1,c2,c3,c4,c5,c6,c7,c8,c9,c10,c11,c12,c13,c14,c15,c16,c17⟩:=y;simp only [rsO,wrap_fin,List.cons.injEq,and_true,Int.ofNat_inj,Fin.val_inj] at h;obtain ⟨h1,h2,h3,h4,h5,h6,h7,h8,h9,h10,h11,h12,h13,h14,h15,h16,h17⟩:=h;subst h1 h2 h3 h4 h5 h6 h7 h8 h11 h12 h13 h14 h15 h16 h17;rw [b01_inj h9,b01_inj h10]
theorem aPairs17:ArrT prog 209 207 17 2 (.agg #[.int .i64 0, .int .i64 0, .int .i64 0, .int .i64 0, .int .i64 0, .int .i64 0, .int .i64 0, .int .i64 0, .int .i64 0, .int .i64 0, .int .i64 0, .int .i64 0, .int .i64 0, .int .i64 0, .int .i64 0, .int .i64 0, .int .i64 0, .int .i64 0, .int .i64 0, .int .i64 0, .int .i64 0, .int .i64 0, .int .i64 0, .int .i64 0, .int .i64 0, .int .i64 0, .int .i64 0, .int .i64 0, .int .i64 0, .int .i64 0, .int .i64 0, .int .i64 0, .int .i64 0, .int .i64 0]):=⟨underlying209,by kernel_rfl,by kernel_rfl⟩
theorem szPairs17:(prog.info? 209).map (·.size)=some 34:=by kernel_rfl
theorem lPairs17:LdN prog 209 34:=LdN.of _ underlying209 rfl (by kernel_rfl)
theorem Zc(b:Bool):Ok prog 123 [boolC b] (intC (b01 b)):=by
 refine Ok.enter func123 J _ ntmps123 J ?_
 intro S w
 cases b with
 |true=>
  refine Qj 18 J ?_;refine Qw J J
 |false=>
  refine Qj 20 J ?_;refine Qw J J
theorem goCmpR:InGo prog 79:=InGo.of func79 rfl (by decide)
theorem cmpR_ok(x y:Rs):Ok prog 79 [rsC x,rsC y] (intC (cmpR x y)):=by
 refine Ok.enter func79 J _ ntmps79 J ?_
 intro S w;refine Xc (XJ ?_);refine Ops.boxN 0 J J J J J J J (Ops.boxN 1 J J J J J J J (Xa J J J (Qz (Qt (Xc ?_)))));refine St.drawF mixed 107 (.p 0 (.p 2 (.p 5 (.p 7 (.p 10 (.p 12 (.p 15 (.p 17 (.p 20 (.p 23 (.p 27 (.p 29 (.p 32 (.p 34 (.p 37 (.p 39 (.p 42 (.p 45 (.p 49 (.p 52 (.p 56 (.p 58 (.p 61 (.p 62 (.p 65 (.p 66 (.p 70 (.p 71 (.p 73 (.p 74 (.p 77 (.p 78 (.p 80 (.p 81 (.p 84 (.p 85 (.p 87 (.p 88 (.p 91 (.p 92 (.p 94 (.p 95 (.p 98 (.p 99 (.p 101 (.p 102 (.f 1 (.f 3 (.p 4 (.f 6 (.f 8 (.p 9 (.f 11 (.f 13 (.p 14 (.f 16 (.f 18 (.p 19 (.f 21 (.p 22 (.f 24 (.p 25 (.p 26 (.f 28 (.f 30 (.p 31 (.f 33 (.f 35 (.p 36 (.f 38 (.f 40 (.p 41 (.f 43 (.f 46 (.f 50 (.f 53 (.f 57 (.f 59 (.p 60 (.f 63 (.p 64 (.f 67 (.p 68 (.p 69 (.f 72 (.f 75 (.p 76 (.f 79 (.f 82 (.p 83 (.f 86 (.f 89 (.p 90 (.f 93 (.f 96 (.p 97 (.f 100 (.f 103 (.p 104 (.fork 44 (.fork 47 (.p 48 (.fork 51 (.fork 54 (.p 55 (.p 105 (.m 106 (.a 107 .done)))) 106 (.m 54 (.p 55 (.p 105 (.a 107 .done))))) 106 (.m 51 (.m 54 (.p 55 (.p 105 (.a 107 .done))))))) 106 (.m 47 (.p 48 (.m 51 (.m 54 (.p 55 (.p 105 (.a 107 .done)))))))) 106 (.m 44 (.m 47 (.p 48 (.m 51 (.m 54 (.p 55 (.p 105 (.a 107 .done)))))))))))))))))))))))))))))))))))))))))))))))))))))))))))))))))))))))))))))))))))))))))))))))))))))))))))) (by kernel_rfl) (fun K hK=> ?_);refine (fun (cont:Go.Own.Fin _ [(5, .own 2)] [(2, .box 209 (prs (rsO x) (rsO y)).flatten),(1, .box 62 (rsCs y)),(0, .box 62 (rsCs x))] K)=> ?_) (hK _ _ ?_)
 · clear hK;refine Q2 99 J (Zm ?_ ?_)
   · refine Zy (gT J) (Zc x.an) J J J J (Zm ?_ ?_)
     · refine Zy (gT J) (Zc y.an) J J J J (Q2 1 J (Zm ?_ ?_))
       · refine Zy (gT J) (Zc x.db) J J J J (Zm ?_ ?_)
         · refine Zy (gT J) (Zc y.db) J J J J (Q2 3 J (Zu 34 J J J J J szPairs17 J J ?_));exact Qz (Yo [(5, .own 2)] ⟨rfl,trivial⟩ cont)
         · refine Q2 1 J (Zy (gT J) (Zc y.db) J J J J (Q2 2 J (Zu 34 J J J J J szPairs17 J J ?_)));exact Qz (Yo [(5, .own 2)] ⟨rfl,trivial⟩ cont)
       · refine Q2 1 J (Zy (gT J) (Zc x.db) J J J J (Zy (gT J) (Zc y.db) J J J J (Q2 2 J (Zu 34 J J J J J szPairs17 J J ?_))));exact Qz (Yo [(5, .own 2)] ⟨rfl,trivial⟩ cont)
     · refine Q2 1 J (Zy (gT J) (Zc y.an) J J J J (Q2 1 J (Zy (gT J) (Zc x.db) J J J J (Zy (gT J) (Zc y.db) J J J J (Q2 2 J (Zu 34 J J J J J szPairs17 J J ?_))))));exact Qz (Yo [(5, .own 2)] ⟨rfl,trivial⟩ cont)
   · refine Q2 1 J (Zy (gT J) (Zc x.an) J J J J (Zy (gT J) (Zc y.an) J J J J (Q2 1 J (Zy (gT J) (Zc x.db) J J J J (Zy (gT J) (Zc y.db) J J J J (Q2 2 J (Zu 34 J J J J J szPairs17 J J ?_)))))));exact Qz (Yo [(5, .own 2)] ⟨rfl,trivial⟩ cont)
 clear hK K;have hlx:(rsO x).length=17:=rfl;have hly:(rsO y).length=17:=rfl;have h0:cmpL ((rsO x).drop 0) ((rsO y).drop 0)=cmpR x y:=rfl;generalize rsO x=xs at hlx h0 ⊢;generalize rsO y=ys at hly h0 ⊢;generalize cmpR x y=R at h0 ⊢
 have hfl:((prs xs ys).flatten).length=34:=by rw [Xe (k:=2) (prs_len xs ys)];simp [prs,hlx,hly]
 refine Qt (Xc (Xc (XJ ?_)));refine Xb (n:=34) J J J J hfl lPairs17 J (Qg J J J (Qz (Qt (St.block ?_))))
 refine St.loop (α:=Nat) (fun j=>j<=17/\ cmpL (xs.drop j) (ys.drop j)=R)
  (fun j=>[(115, .ct (.agg (prs xs ys).flatten)),(116, .ct (intC j))]) (fun _=>[(2, .box 209 (prs xs ys).flatten),(1, .box 62 (rsCs y)),(0, .box 62 (rsCs x))]) (fun j=>17 - j) 0 ⟨Nat.zero_le _,h0⟩ (by exact QW J ⟨rfl,rfl,trivial⟩) ?_
 rintro j ⟨hj,hc⟩
 dsimp only at hj hc ⊢;refine Xc (XJ ?_);refine Qh ilss J J J J (Qz (Qt (Xc ?_)));refine Qy J (fun h=> ?_) (fun h=> ?_)
 · have h1:j<xs.length:=by omega
   have h2:j<ys.length:=by omega
   have hdr:=cmpL_drop h1 h2;have hat:=prs_at h1 h2;generalize xs.getD j 0=p at hdr hat;generalize ys.getD j 0=q at hdr hat;refine St.skip (Qt (Xc (St.block (Xc (XJ ?_)))))
   refine Ops.idxV (n:=2) J J J aPairs17 uPair J (prs_len xs ys) (by omega) (by omega) (by rw [Int.toNat_natCast];exact hat) J ?_
   refine Xh 3 J J zvPair J J J (Zu 2 J J J J J szPair J J (Qz (Qt (Xc ?_))));refine XJ (Ops.idxO (n:=1) J J J J aPair (by decide) (by decide) J ?_);refine QK J J J J J lInt J (Ops.idxO (n:=1) J J J J aPair (by decide) (by decide) J ?_);refine QK J J J J J lInt J (Zy (gT J) (cm_ok p q) J J J J (Xa J J J (Qz (Qt (Xc ?_)))));refine XJ (Qg J J J (Qh ineq J J J J (Qz (Qt ?_))));refine Qy J (fun h3=> ?_) (fun h3=> ?_)
   · refine Xc (XJ ?_);refine Qg J J J (Xa J J J (Qz (Qt (St.ret (Fin.blockRet (Zl (Zl (Fin.blockRet (Zl ?_)))))))));refine X5 [_] rfl (Q4 J Q3) (by rw [<- hc,hdr,if_pos h3];rfl) J
   · refine St.skip (Qt (XJ ?_))
     refine Qh (iadd (by omega) (by omega)) J J J J ?_
     refine Qg J J J (Qz (Fin.thenN ?_));rw [if_neg h3] at hdr;refine Qc 3 (Qk (j+1) (by omega) ⟨by omega,by rw [<- hc,hdr]⟩ (by exact QW J ⟨rfl,by simp only [Int.natCast_add];rfl,trivial⟩))
 · refine St.exit (Qt (Xc (XJ ?_)));refine Xa J J J (Qz (Qt (St.ret ?_)))
   have hj' :j=17:=by omega
   refine X5 [_] rfl (Q4 J Q3) (by rw [<- hc,hj',List.drop_of_length_le (by omega)];rfl) J
theorem cmp3_anti(a b:Int):cmp3 b a= - cmp3 a b:=by unfold cmp3;split <;>split <;>(try split) <;>omega
theorem cmp3_zero{a b:Int}:cmp3 a b=0↔a=b:=by unfold cmp3;split <;>(try split) <;>constructor <;>intro h <;>omega
theorem cmp3_lt{a b:Int}:cmp3 a b<0↔a<b:=by unfold cmp3;split <;>(try split) <;>constructor <;>intro h <;>omega
theorem cmpL_anti:∀xs ys:List Int,cmpL ys xs= - cmpL xs ys
 | [],[]=>rfl
 | [],_::_=>rfl
 |_::_,[]=>rfl
 |x::xs,y::ys=>by
  simp only [cmpL]
  rw [cmp3_anti x y,cmpL_anti xs ys]
  by_cases h:cmp3 x y=0
  · simp [h]
  · rw [if_pos h,if_pos (by omega)]
theorem cmpL_eq:∀{xs ys:List Int},xs.length=ys.length ->cmpL xs ys=0 ->xs=ys
 | [],[],_,_=>rfl
 |x::xs,y::ys,hl,h=>by
  simp only [cmpL] at h
  by_cases h0:cmp3 x y=0
  · rw [if_neg (by omega)] at h
    rw [cmp3_zero.1 h0,cmpL_eq (by simpa using hl) h]
  · rw [if_pos h0] at h;exact absurd h h0
 | [],_::_,hl,_=>by simp at hl
 |_::_,[],hl,_=>by simp at hl
theorem cmpL_trans:∀{xs ys zs:List Int},xs.length=ys.length ->ys.length=zs.length ->cmpL xs ys<0 ->cmpL ys zs<0 ->cmpL xs zs<0
 |x::xs,y::ys,z::zs,h1,h2,ha,hb=>by
  simp only [cmpL] at ha hb ⊢
  by_cases h3:cmp3 x y=0
  · have e:=cmp3_zero.1 h3
    subst e
    rw [if_neg (by omega)] at ha
    by_cases h4:cmp3 x z=0
    · rw [if_neg (by omega)] at hb ⊢
      exact cmpL_trans (by simpa using h1) (by simpa using h2) ha hb
    · rw [if_pos h4] at hb ⊢;exact hb
  · rw [if_pos h3] at ha
    have l1:=cmp3_lt.1 ha
    by_cases h4:cmp3 y z=0
    · have e:=cmp3_zero.1 h4
      subst e
      rw [if_pos h3];exact ha
    · rw [if_pos h4] at hb
      have l2:=cmp3_lt.1 hb
      have l3:cmp3 x z<0:=cmp3_lt.2 (by omega)
      rw [if_pos (by omega)];exact l3
 | [],[],_,_,_,ha,_=>by simp [cmpL] at ha
 | [],_::_,_,h1,_,_,_=>by simp at h1
 |_::_,[],_,h1,_,_,_=>by simp at h1
 |_::_,_::_,[],_,h2,_,_=>by simp at h2
theorem wrap_u32{n:Int}(h1:0<=n)(h2:n<4294967296):IntKind.u32.wrap n=n:=by
 rw [show IntKind.u32.wrap n=n%4294967296 by simp [IntKind.wrap,IntKind.bits,IntKind.signed]];omega
theorem Address_ok(bs:List Int)(p:Nat)(hb:Bytes bs):OkB prog 85 109 (codes bs p) [] (fun q:Int × Nat=>1<=q.1/\ q.1<200000000) (fun q=>adrC q.1) (fun q=>codes bs q.2):=by
 refine OkB.enter func85 J _ ntmps85 J ?_
 intro S w g;refine Qj 8 J (Ops.lit (m:=8) (cs:=ints [1,2,5,6,9,10,12,13]) J J sInts (.one J J J J (.one J J J J (.one J J J J (.one J J J J (.one J J J J (.one J J J J (.one J J J J (.one J J J J .nil)))))))) (by decide) J ?_);refine Xy (gT J) (Pick_ok bs p [1,2,5,6,9,10,12,13] (by decide) (by decide) hb) J J J J J (fun q hq=> ?_);obtain ⟨x,p1⟩:=q
 have hx:1<=x/\ x<=13:=by
  simp only [List.mem_cons,List.not_mem_nil,or_false] at hq;omega
 dsimp only
 refine QZ 1 J (by omega) ?_;refine Z0 (q:=167772160+x) J J uInt uAddr (wrap_u32 (by omega) (by omega)) J ?_;refine Qq 4 J ?_;refine Y6 (167772160+x,p1) [_] rfl (Q4 J Q3) J J ⟨by show 1<=167772160+x;omega,by show 167772160+x<200000000;omega⟩
attribute [local irreducible] wpR
section
variable {X : Ctx} {L : AL} {B : BL} {ops : Array Oper} {K : Act → World → Prop} {r : Pl} {k : Kd}
  {x y z : Operand} {d : Nat} {t t2 t' : TypeId} {pos : String} {af : Array Edge} {g : Option (Nat × Bool)}
def evAllI (L : AL) : Nat → List (Nat × Operand) → List Int → Prop
  | _, [], [] => True
  | s, (i, x) :: q, y :: ys => i = s ∧ ev L x = some (.ct (intC y)) ∧ evAllI L (s + 1) q ys
  | _, _, _ => False
theorem parts_ints:∀(ps:List (Nat × Operand)) (ys:List Int) (s:Nat) (pre zs:List CT),pre.length=s ->zs.length=ys.length ->evAllI L s ps ys ->BParts L (fun i=>some (i*1,1)) ps (pre++zs) (pre++ints ys)
 | [],[],_,pre,zs,_,h2,_=>by
  have:zs=[]:=List.eq_nil_of_length_eq_zero h2
  subst this
  exact .nil
 | [],_::_,_,_,_,_,_,h=>h.elim
 |_::_,[],_,_,_,_,_,h=>h.elim
 |(i,x)::q,y::ys,s,pre,z::zs,h1,h2,h=>by
  obtain ⟨rfl,h3,h4⟩:=h
  refine .one (off:=i*1) (c:=intC y) rfl h3 rfl (by rw [Nat.blt_eq,List.length_append,List.length_cons];omega) ?_
  have e:(pre++z::zs).set (i*1) (intC y)=(pre++ [intC y])++zs:=by
   rw [Nat.mul_one,List.set_append_right _ _ (by omega),h1,Nat.sub_self,List.set_cons_zero,List.append_assoc];rfl
  have e2:pre++ints (y::ys)=(pre++ [intC y])++ints ys:=by simp [ints]
  rw [e,e2];exact parts_ints q ys (i+1) (pre++ [intC y]) zs (by rw [List.length_append,h1];rfl) (by simpa using h2) h4
 |_::_,_::_,_,_,[],_,h2,_=>by simp at h2
theorem chunk_ints:∀xs:List Int,chunk 1 xs.length (ints xs)=xs.map fun x=>[intC x]
 | []=>rfl
 |x::xs=>by
  show ((ints (x::xs)).take 1)::chunk 1 xs.length ((ints (x::xs)).drop 1)=_
  rw [show (ints (x::xs)).drop 1=ints xs by simp [ints],chunk_ints xs]
  rfl
theorem Ops.litI{ps:List (Nat × Operand)}{m:Nat}(xs:List Int)(hk:k.mk=true)(hg:gd ops L g=some true)(hT:SlcT X.P t 3 1 8 (.int .i64 0))(hm:xs.length=m)(hp:evAllI L 0 ps xs)(hml:m<=16777216)(hn:Nat.blt d X.n=true)
  (h:Ops X ops r ((d, .ct (intsC xs))::L) B K):Ops X ops (.cons ⟨some d, .buildSlice t m ps.toArray,t',pos,af,g⟩ k r) L B K:=by
 subst hm
 refine Ops.lit (cs:=ints xs) hk hg hT ?_ (by omega) hn ?_
 · exact parts_ints ps xs 0 [] _ J ((zinit_len hT xs.length).trans (Nat.mul_one _)) hp
 · rw [chunk_ints];exact h
end
theorem NextA_ok(bs:List Int)(p:Nat)(n:Int)(h1:1<=n)(h2:n<=1000000)(hb:Bytes bs):
  OkB prog 45 109 (codes bs p) [intC n] (fun q:Int × Nat=>0<=q.1/\ q.1<n) (fun q=>intC q.1) (fun q=>codes bs q.2):=by
 rcases Int.lt_or_le 256 n with h3|h3;rotate_left
 · exact Next_ok bs p n h1 h3 hb
 have hlen:=hb.len
 refine OkB.enter func45 J _ ntmps45 J ?_
 intro S w g;refine Qj 7 J (XY 14 0x800d0c0b0a09082723060504020100 J ?_);refine Qq 8 J (QV sBytes.und J (Qq 2 J (QQ 16 J (fun h=> ?_) (fun h=> ?_))))
 · refine Qq 12 J ?_;refine Y6 (0,p) [_] rfl (Q4 J Q3) J J ⟨by show (0:Int)<=0;omega,by show (0:Int)<n;omega⟩
 · refine Qq 5 J ?_;refine Qy J (fun h' => ?_) (fun h' => ?_)
   · exact absurd h' (by omega)
   · refine Qj 3 J (XY 12 0x800b0a29082723060504020100 J ?_);refine Qq 8 J (Q8 0 sBytes J (by omega) ?_);refine Qq 1 J ?_
     have hx:=hb.at p;generalize he:bs.getD p 0=x at hx
     refine Z0 (q:=x) J J uU8 uInt (by rw [Int.toNat_natCast,he];exact Zi (by omega) (by omega)) J ?_;refine QZ 22 J (by omega) ?_;refine Qy J (fun h' => ?_) (fun h' => ?_)
     · refine Xz 5 J (by omega) ?_;refine Xy goNext (Next_ok bs (p+1) 256 (by decide) (by decide) hb) J J J J J (fun q hq=> ?_);obtain ⟨y,p1⟩:=q;dsimp only at hq ⊢
       refine QZ 7 J (by omega) ?_;refine Y6 ((256*x+y)%n,p1) [_] rfl (Q4 J Q3) J J ⟨Int.emod_nonneg _ (by omega),Int.emod_lt_of_pos _ (by omega)⟩
     · exact absurd h3 h'
theorem BoolB_ok(bs:List Int)(p:Nat)(n:Int)(h1:1<=n)(h2:n<=1000000)(hb:Bytes bs):
  OkB prog 44 109 (codes bs p) [intC n] (fun _:Bool × Nat=>True) (fun q=>boolC q.1) (fun q=>codes bs q.2):=by
 refine OkB.enter func44 J _ ntmps44 J ?_
 intro S w g;refine Qj 9 J (Xy goNext (NextA_ok bs p n h1 h2 hb) J J J J J (fun q hq=> ?_));obtain ⟨x,p1⟩:=q;dsimp only at hq ⊢;refine QZ 7 J (by omega) ?_;refine Y6 (decide (x=n - 1),p1) [_] rfl (Q4 J Q3) J J trivial
abbrev adrF (x : Fin 4294967296) : CT := adrC (x.val : Int)
theorem wrap_toFin{n:Int}(h1:0<=n)(h2:n<4294967296):IntKind.u32.wrap n=(((⟨n.toNat,by omega⟩:Fin 4294967296).val:Nat):Int):=by
 rw [wrap_u32 h1 h2];show n=((n.toNat:Nat):Int);omega
theorem DProto_ok(bs:List Int)(p:Nat)(hb:Bytes bs):
  OkB prog 136 109 (codes bs p) [] (fun q:Int × Nat=>q.1=17 \/q.1=1 \/q.1=6) (fun q=>intC q.1) (fun q=>codes bs q.2):=by
 refine OkB.enter func136 J _ ntmps136 J ?_
 intro S w g;refine Qj 8 J (Ops.litI [17,1,6] rfl rfl sInts J ⟨rfl,rfl,rfl,rfl,rfl,rfl,trivial⟩ (by decide) J ?_);refine Xy (gT J) (Pick_ok bs p [17,1,6] (by decide) (by decide) hb) J J J J J (fun q hq=> ?_);obtain ⟨k,p1⟩:=q;dsimp only at hq ⊢;refine Qq 4 J ?_;refine Y6 (k,p1) [_] rfl (Q4 J Q3) J J (by simpa using hq)
theorem lTrace:LdN prog 111 3:=LdN.of _ underlying111 rfl (by kernel_rfl)
theorem szTrace:(prog.info? 111).map (·.size)=some 3:=by kernel_rfl
theorem zvTrace:(prog.info? 111).map (·.zero)=some (some (.agg #[.int .i64 0, .int .u32 0, .int .i64 0])):=by kernel_rfl
structure Tr where
  va : Int
  ds : Fin 4294967296
  pr : Int
  p : Nat
abbrev trCs (e : Tr) : List CT := [intC e.va, adrF e.ds, intC e.pr]
theorem Trace_ok(bs:List Int)(p:Nat)(hb:Bytes bs):OkB prog 84 109 (codes bs p) [] (fun q:Tr=>(0<=q.va/\ q.va<2)/\ (q.ds≠0/\ (q.pr=17 \/q.pr=1 \/q.pr=6))) (fun q=> .agg (trCs q)) (fun q=>codes bs q.p):=by
 refine OkB.enter func84 J _ ntmps84 J ?_
 intro S w g;refine Qj 8 J (Xy goNext (Next_ok bs p 2 (by decide) (by decide) hb) J J J J J (fun q hq=> ?_));obtain ⟨k,p1⟩:=q;dsimp only at hq ⊢;refine Qq 1 J (Xy goNext (Next_ok bs p1 3 (by decide) (by decide) hb) J J J J J (fun q hq2=> ?_));obtain ⟨x,p2⟩:=q;dsimp only at hq2 ⊢
 refine QZ 1 J (by omega) ?_;refine Z0 J J uInt uAddr (wrap_toFin (n:=167774464+x) (by omega) (by omega)) J ?_
 have hdd:(⟨(167774464+x).toNat,by omega⟩:Fin 4294967296)≠0:=fun h=>by
  have:=congrArg _root_.Fin.val h;have h0:((0:Fin 4294967296).val)=0:=rfl;rw [h0] at this;dsimp only at this;omega
 generalize (⟨(167774464+x).toNat,_⟩:Fin 4294967296)=dd at hdd ⊢;refine Qq 1 J (Xy (gT J) (DProto_ok bs p2 hb) J J J J J (fun q hq3=> ?_));obtain ⟨pr,p3⟩:=q;dsimp only;refine Qq 5 J ?_;refine Fin.endB ⟨k,dd,pr,p3⟩ [_] rfl (Qi (n:=3) J J lTrace J Q3) J J ⟨⟨hq.1,hq.2⟩,hdd,hq3⟩
end Go.Proofs.YtfimckpnnbibcaaGreat
namespace Go.Limbs
section
variable {α : Type} [DecidableEq α]
def ddF : α → List α → List α
  | _, [] => []
  | a, b :: l => if b = a then ddF a l else b :: ddF b l
def dd : List α → List α
  | [] => []
  | a :: l => a :: ddF a l
theorem ddF_len:∀(a:α) (l:List α),(ddF a l).length<=l.length
 |_,[]=>Nat.le_refl _
 |a,b::l=>by
  unfold ddF
  split
  · exact Nat.le_succ_of_le (ddF_len a l)
  · exact Nat.succ_le_succ (ddF_len b l)
theorem dd_len(l:List α):(dd l).length<=l.length:=by
 cases l with
 |nil=>exact Nat.le_refl _
 |cons a l=>exact Nat.succ_le_succ (ddF_len a l)
theorem ddF_snoc:∀(a:α) (l:List α) (b:α),ddF a (l++ [b])=if b=(l.getLast?.getD a) then ddF a l else ddF a l++ [b]
 |a,[],b=>by
  by_cases h:b=a <;>simp [ddF,h]
 |a,c::l,b=>by
  have h1:(c::l).getLast?.getD a=l.getLast?.getD c:=by
   cases l with
   |nil=>rfl
   |cons d l=>
    rw [List.getLast?_cons_cons,List.getLast?_cons];rfl
  rw [h1];simp only [List.cons_append,ddF];by_cases h:c=a
  · subst h;rw [if_pos J,if_pos J,ddF_snoc c l b]
  · rw [if_neg h,if_neg h,ddF_snoc c l b]
    split <;>rfl
theorem dd_snoc{l:List α}{a b:α}(h:l.getLast? =some a):dd (l++ [b])=if b=a then dd l else dd l++ [b]:=by
 cases l with
 |nil=>cases h
 |cons c l=>
  have h1:l.getLast?.getD c=a:=by
   cases l with
   |nil=>simpa using h
   |cons d l=>
    rw [List.getLast?_cons_cons] at h;rw [h];rfl
  show c::ddF c (l++ [b])=_;rw [ddF_snoc,h1]
  split <;>rfl
omit [DecidableEq α] in
theorem take_last{l:List α}{z:α}{p:Nat}(h0:0<p)(h:p<=l.length):(l.take p).getLast? =some (l.getD (p - 1) z):=by
 rw [List.getLast?_eq_getElem?,List.length_take,Nat.min_eq_left h,List.getElem?_take,if_pos (by omega),List.getElem?_eq_getElem (by omega),List.getD_eq_getElem?_getD,List.getElem?_eq_getElem (by omega)];rfl
theorem dd_step{l:List α}{z:α}{p:Nat}(h0:0<p)(h:p<l.length):dd (l.take (p+1))=if l.getD p z=l.getD (p - 1) z then dd (l.take p) else dd (l.take p)++ [l.getD p z]:=by
 have e:l.take (p+1)=l.take p++ [l.getD p z]:=by
  rw [List.take_add_one,List.getElem?_eq_getElem h,List.getD_eq_getElem?_getD,List.getElem?_eq_getElem h];rfl
 rw [e,dd_snoc (take_last (z:=z) h0 (Nat.le_of_lt h))]
theorem dd_small{l:List α}(h:l.length<2):dd l=l:=by
 match l,h with
 | [],_=>rfl
 | [a],_=>rfl
end
def trimL : List Int → List Int
  | [] => []
  | x :: xs => match trimL xs with
    | [] => if x = 0 then [] else [x]
    | y :: ys => x :: y :: ys
theorem trim_snoc(ys:List Int):trimL (ys++ [0])=trimL ys:=by
 induction ys with
 |nil=>simp [trimL]
 |cons y ys ih=>simp only [List.cons_append,trimL,ih]
theorem trim_id{ys:List Int}{z:Int}(hz:z≠0):trimL (ys++ [z])=ys++ [z]:=by
 induction ys with
 |nil=>simp [trimL,hz]
 |cons y ys ih=>
  simp only [List.cons_append,trimL,ih]
  cases ys <;>rfl
theorem trim_last{ys:List Int}(h:0<ys.length)(h0:ys.getD (ys.length - 1) 0=0):trimL (ys.take (ys.length - 1))=trimL ys:=by
 obtain ⟨zs,z,rfl⟩:∃zs z,ys=zs++ [z]:=⟨ys.dropLast,ys.getLast (by intro e;subst e;simp at h),(List.dropLast_concat_getLast _).symm⟩;simp at h0;subst h0;rw [trim_snoc];simp
theorem trim_done{ys:List Int}(h:0<ys.length ->ys.getD (ys.length - 1) 0≠0):trimL ys=ys:=by
 rcases Nat.eq_zero_or_pos ys.length with h0|h0
 · have:ys=[]:=List.eq_nil_of_length_eq_zero h0;subst this;rfl
 · obtain ⟨zs,z,rfl⟩:∃zs z,ys=zs++ [z]:=⟨ys.dropLast,ys.getLast (by intro e;subst e;simp at h0),(List.dropLast_concat_getLast _).symm⟩;have:=h h0;simp at this;exact trim_id this
theorem trim_len(xs:List Int):(trimL xs).length<=xs.length:=by
 induction xs with
 |nil=>simp [trimL]
 |cons x xs ih=>
  simp only [trimL];split
  · split <;>simp
  · rename_i y ys e;rw [e] at ih;simp at ih ⊢;omega
abbrev BB : Int := 1073741824
def val : List Int → Int
  | [] => 0
  | x :: xs => x + BB * val xs
def OKL (xs : List Int) : Prop := ∀ x ∈ xs, 0 ≤ x ∧ x < BB
theorem OKL.nil:OKL []:=fun _ h=>by cases h
theorem OKL.cons{x:Int}{xs:List Int}(h:0<=x/\ x<BB)(hs:OKL xs):OKL (x::xs):=fun y hy=>by
 rcases List.mem_cons.1 hy with rfl|hy
 · exact h
 · exact hs y hy
theorem OKL.tail{x:Int}{xs:List Int}(h:OKL (x::xs)):OKL xs:=fun y hy=>h y (List.mem_cons_of_mem _ hy)
theorem OKL.head{x:Int}{xs:List Int}(h:OKL (x::xs)):0<=x/\ x<BB:=h x (List.mem_cons_self ..)
theorem OKL.append{xs ys:List Int}(h:OKL xs)(h' :OKL ys):OKL (xs++ys):=fun y hy=>by
 rcases List.mem_append.1 hy with hy|hy
 · exact h y hy
 · exact h' y hy
theorem OKL.take{xs:List Int}(h:OKL xs)(n:Nat):OKL (xs.take n):=fun y hy=>h y (List.mem_of_mem_take hy)
theorem OKL.drop{xs:List Int}(h:OKL xs)(n:Nat):OKL (xs.drop n):=fun y hy=>h y (List.mem_of_mem_drop hy)
theorem OKL.zeros(n:Nat):OKL (List.replicate n 0):=fun y hy=>by rw [List.eq_of_mem_replicate hy];decide
theorem OKL.set{xs:List Int}(h:OKL xs)(i:Nat){x:Int}(hx:0<=x/\ x<BB):OKL (xs.set i x):=fun y hy=>by
 rcases List.mem_or_eq_of_mem_set hy with hy|rfl
 · exact h y hy
 · exact hx
theorem OKL.get{xs:List Int}(h:OKL xs)(i:Nat):0<=xs.getD i 0/\ xs.getD i 0<BB:=by
 rw [List.getD_eq_getElem?_getD]
 cases e:xs[i]? with
 |none=>decide
 |some x=>exact h x (List.mem_of_getElem? e)
theorem Yb{xs:List Int}(h:OKL xs):0<=val xs:=by
 induction xs with
 |nil=>decide
 |cons x xs ih=>have:=ih h.tail;have:=h.head;simp only [val,BB] at*;omega
theorem YY(xs ys:List Int):val (xs++ys)=val xs+BB ^ xs.length*val ys:=by
 induction xs with
 |nil=>simp [val]
 |cons x xs ih=>simp only [List.cons_append,val,ih,List.length_cons];grind
theorem Yg(n:Nat):val (List.replicate n 0)=0:=by
 induction n with
 |zero=>rfl
 |succ n ih=>simp [List.replicate_succ,val,ih]
theorem val_trim(xs:List Int):val (trimL xs)=val xs:=by
 induction xs with
 |nil=>rfl
 |cons x xs ih=>
  simp only [trimL];split
  · rename_i e
    rw [e] at ih;simp only [val] at ih ⊢;split
    · rename_i e0;subst e0;simp [val,<- ih]
    · simp [val,<- ih]
  · rename_i y ys e;rw [e] at ih;simp only [val] at ih ⊢;rw [ih]
theorem OKL.trim{xs:List Int}(h:OKL xs):OKL (trimL xs):=by
 induction xs with
 |nil=>exact h
 |cons x xs ih=>
  simp only [trimL];split
  · split
    · exact OKL.nil
    · exact OKL.cons h.head OKL.nil
  · rename_i y ys e
    have:=ih h.tail;rw [e] at this;exact OKL.cons h.head this
def limbs (n : Nat) : List Int := if h : n = 0 then [] else ((n % 1073741824 : Nat) : Int) :: limbs (n / 1073741824)
termination_by n
decreasing_by exact Nat.div_lt_self (by omega) (by decide)
theorem limbs_zero:limbs 0=[]:=by unfold limbs;rfl
theorem limbs_pos{n:Nat}(h:n≠0):limbs n=((n%1073741824:Nat):Int)::limbs (n/1073741824):=by rw [limbs];simp [h]
theorem Qr(n:Nat):OKL (limbs n):=by
 induction n using Nat.strongRecOn with
 |ind n ih=>
  by_cases h:n=0
  · subst h;rw [limbs_zero];exact OKL.nil
  · rw [limbs_pos h];refine OKL.cons (by simp only [BB];omega) (ih _ (Nat.div_lt_self (by omega) (by decide)))
theorem X1(n:Nat):val (limbs n)=n:=by
 induction n using Nat.strongRecOn with
 |ind n ih=>
  by_cases h:n=0
  · subst h;rw [limbs_zero];rfl
  · rw [limbs_pos h,val,ih _ (Nat.div_lt_self (by omega) (by decide))];simp only [BB];omega
theorem limbs_nil{n:Nat}(h:limbs n=[]):n=0:=by
 by_cases h0:n=0
 · exact h0
 · rw [limbs_pos h0] at h;cases h
theorem limbs_val{xs:List Int}(h:OKL xs)(ht:trimL xs=xs):xs=limbs (val xs).toNat:=by
 induction xs with
 |nil=>simp [val,limbs_zero]
 |cons x xs ih=>
  have hx:=h.head;have hv:=Yb h.tail
  have ht2:trimL xs=xs/\ ¬(xs=[]/\ x=0):=by
   simp only [trimL] at ht;split at ht
   · rename_i e
     split at ht
     · cases ht
     · rename_i hne;injection ht with _ h2;subst h2;exact ⟨e,fun h=>hne h.2⟩
   · rename_i y ys e;injection ht with _ h2;rw [e,h2];exact ⟨rfl,fun h=>by rw [h.1] at h2;cases h2⟩
  have ih2:=ih h.tail ht2.1
  have hne:(val (x::xs)).toNat≠0:=by
   intro h0;simp only [val,BB] at h0
   have hx0:x=0:=by simp only [BB] at hx;omega
   have hv0:val xs=0:=by omega
   rw [hv0] at ih2;exact ht2.2 ⟨by rw [ih2];exact limbs_zero,hx0⟩
  rw [limbs_pos hne];simp only [val,BB] at*
  congr 1
  · omega
  · rw [ih2];congr 1;rw [<- ih2];omega
theorem trim_trim(xs:List Int):trimL (trimL xs)=trimL xs:=by
 induction xs with
 |nil=>rfl
 |cons x xs ih=>
  simp only [trimL];split
  · split
    · rfl
    · rename_i h;simp [trimL,h]
  · rename_i y ys e;rw [e] at ih;rw [trimL,ih]
theorem Zk{xs:List Int}(h:OKL xs):trimL xs=limbs (val xs).toNat:=by
 have:=limbs_val h.trim (trim_trim xs)
 rwa [val_trim] at this
theorem trim_of_limbs(n:Nat):trimL (limbs n)=limbs n:=by rw [Zk (Qr n),X1];simp
def pre (xs : List Int) (i : Nat) : Int := val (xs.take i)
theorem ZQ(xs:List Int):pre xs 0=0:=by simp [pre,val]
theorem XQ(xs:List Int)(i:Nat):pre xs (i+1)=pre xs i+xs.getD i 0*BB ^ i:=by
 unfold pre;by_cases h:i<xs.length
 · rw [List.take_succ_eq_append_getElem h,YY]
   have hl:(xs.take i).length=i:=by simp;omega
   rw [hl];simp [val,List.getD_eq_getElem?_getD,List.getElem?_eq_getElem h];grind
 · rw [List.take_of_length_le (by omega),List.take_of_length_le (by omega),List.getD_eq_getElem?_getD,List.getElem?_eq_none (by omega)];simp
theorem ZZ{xs:List Int}{i:Nat}(h:xs.length<=i):pre xs i=val xs:=by unfold pre;rw [List.take_of_length_le h]
theorem set_snoc{zs:List Int}{n:Nat}(x:Int):(zs++List.replicate (n+1) 0).set zs.length x=(zs++ [x])++List.replicate n 0:=by
 rw [List.set_append_right _ _ (Nat.le_refl _)];simp [List.replicate_succ]
theorem Q6{n k:Nat}(h:n<1073741824 ^ k):(limbs n).length<=k:=by
 induction k generalizing n with
 |zero=>have:n=0:=by omega
        subst this;simp [limbs_zero]
 |succ k ih=>
  by_cases h0:n=0
  · subst h0;simp [limbs_zero]
  · rw [limbs_pos h0]
    have:n/1073741824<1073741824 ^ k:=by rw [Nat.div_lt_iff_lt_mul (by decide)];rw [Nat.pow_succ] at h;exact h
    have:=ih this;simp;omega
theorem Xu{n k:Nat}(h:(limbs n).length<=k):n<1073741824 ^ k:=by
 induction k generalizing n with
 |zero=>
  have:limbs n=[]:=List.eq_nil_of_length_eq_zero (by omega);have:=limbs_nil this;subst this;decide
 |succ k ih=>
  by_cases h0:n=0
  · subst h0;exact Nat.pow_pos (by decide)
  · rw [limbs_pos h0] at h;have:=ih (n:=n/1073741824) (by simpa using h);rw [Nat.div_lt_iff_lt_mul (by decide)] at this;rw [Nat.pow_succ];exact this
def cmpI (a b : Int) : Int := if a < b then -1 else if b < a then 1 else 0
theorem cmpI_neg{a b:Int}:cmpI a b<0↔a<b:=by unfold cmpI;split <;>(try split) <;>omega
theorem cmpI_eq(a b:Int):cmpI a b=if a<b then -1 else if b<a then 1 else 0:=rfl
theorem Y4{xs:List Int}(h:OKL xs)(i:Nat):0<=pre xs i/\ pre xs i<BB ^ i:=by
 induction i with
 |zero=>rw [ZQ];simp
 |succ i ih=>
  rw [XQ];have:=h.get i;have hp:0<BB ^ i:=Int.pow_pos (by decide);obtain ⟨h1,h2⟩:=this;refine ⟨?_,?_⟩
  · have:=Int.mul_nonneg h1 (Int.le_of_lt hp);omega
  · have h3:xs.getD i 0*BB ^ i<=(BB - 1)*BB ^ i:=Int.mul_le_mul_of_nonneg_right (by omega) (Int.le_of_lt hp)
    have h4:BB ^ (i+1)=BB*BB ^ i:=by rw [Int.pow_succ,Int.mul_comm]
    rw [h4]
    have h5:(BB - 1)*BB ^ i=BB*BB ^ i - BB ^ i:=by rw [Int.sub_mul,Int.one_mul]
    omega
theorem pre_decides{xs ys:List Int}(hx:OKL xs)(hy:OKL ys){k:Nat}(h:xs.getD k 0<ys.getD k 0):pre xs (k+1)<pre ys (k+1):=by
 rw [XQ,XQ];have h1:=Y4 hx k;have h2:=Y4 hy k;have hp:0<BB ^ k:=Int.pow_pos (by decide);have h3:(xs.getD k 0+1)*BB ^ k<=ys.getD k 0*BB ^ k:=Int.mul_le_mul_of_nonneg_right (by omega) (Int.le_of_lt hp);rw [Int.add_mul,Int.one_mul] at h3;omega
theorem Qm{a b:Nat}(h:a<=b):(limbs a).length<=(limbs b).length:=Q6 (Nat.lt_of_le_of_lt h (Xu (Nat.le_refl _)))
theorem lt_of_len{a b:Nat}(h:(limbs a).length<(limbs b).length):a<b:=by
 rcases Nat.lt_or_ge a b with h1|h1
 · exact h1
 · have:=Qm h1;omega
theorem Y9(n:Nat):pre (limbs n) (limbs n).length=n:=by rw [ZZ (Nat.le_refl _),X1]
def validL (xs : List Int) : Bool := xs.all (fun x => decide (0 ≤ x) && decide (x < BB)) && decide (xs.length ≤ 256) && (decide (xs.length = 0) || decide (xs.getD (xs.length - 1) 0 ≠ 0))
theorem validL_limbs{n:Nat}(h:(limbs n).length<=256):validL (limbs n)=true:=by
 unfold validL
 have h1:(limbs n).all (fun x=>decide (0<=x)&&decide (x<BB))=true:=by
  rw [List.all_eq_true];intro x hx;have:=Qr n x hx;simp [this]
 rw [h1];simp only [h,decide_true,Bool.true_and];by_cases h0:(limbs n).length=0
 · simp [h0]
 · have ht:=trim_of_limbs n
   have:(limbs n).getD ((limbs n).length - 1) 0≠0:=by
    intro he;have h2:=trim_last (ys:=limbs n) (by omega) he;rw [ht] at h2;have h3:=trim_len ((limbs n).take ((limbs n).length - 1));rw [h2] at h3;simp at h3;omega
   simp only [this,ne_eq,not_false_eq_true,decide_true,Bool.or_true]
theorem JQ{xs:List Int}{p:Nat}(h:p<xs.length)(v:Int):val (xs.set p v)=val xs+(v - xs.getD p 0)*BB ^ p:=by
 induction xs generalizing p with
 |nil=>simp at h
 |cons x xs ih=>
  cases p with
  |zero=>simp [val];omega
  |succ p=>
   have:=ih (p:=p) (by simpa using h);simp only [List.set_cons_succ,val,this,List.getD_cons_succ,Int.pow_succ]
   grind
theorem getD_set{xs:List Int}{p j:Nat}(h:p<xs.length)(v:Int):(xs.set p v).getD j 0=if p=j then v else xs.getD j 0:=by
 simp only [List.getD_eq_getElem?_getD,List.getElem?_set];by_cases hp:p=j
 · subst hp;simp [h]
 · simp [hp]
theorem mul_bd{x y:Int}(hx:0<=x/\ x<BB)(hy:0<=y/\ y<BB):0<=x*y/\ x*y<=1152921502459363329:=by
 simp only [BB] at hx hy;refine ⟨Int.mul_nonneg hx.1 hy.1,?_⟩;have h1:x*y<=1073741823*1073741823:=Int.mul_le_mul (by omega) (by omega) hy.1 (by omega);omega
theorem val_of_zeros{xs:List Int}{p:Nat}(h:∀j,p<=j ->xs.getD j 0=0):val xs=pre xs p:=by
 have key:∀n,pre xs (p+n)=pre xs p:=by
  intro n
  induction n with
  |zero=>rfl
  |succ n ih=>rw [show p+(n+1)=(p+n)+1 by omega,XQ,ih,h (p+n) (by omega)];simp
 rw [<- key xs.length,ZZ (by omega)]
theorem XZ{a b:Nat}:(limbs (a*b)).length<=(limbs a).length+(limbs b).length:=by
 apply Q6
 rw [Nat.pow_add];exact Nat.mul_lt_mul'' (Xu (Nat.le_refl _)) (Xu (Nat.le_refl _))
def gs (h n t l s : Int) : Int := min 1073741823 ((h * 1073741824 * 1073741824 + n * 1073741824 + t) / (l * 1073741824 + s))
theorem gs_step{h n t l s q r:Int}(hl:0<l)(hs:0<=s)(hv:q*l+r=h*1073741824+n)(hg:gs h n t l s<=q)
  (hc:1073741824<=q \/r*1073741824+t<q*s):gs h n t l s<=q - 1:=by
 unfold gs at*;rcases hc with hc|hc
 · omega
 · have hV:0<l*1073741824+s:=by omega
   have e:q*(l*1073741824+s)=(q*l)*1073741824+q*s:=by grind
   have:(h*1073741824*1073741824+n*1073741824+t)/(l*1073741824+s)<q:=by
    apply Int.ediv_lt_of_lt_mul hV
    rw [e]
    have:q*l=h*1073741824+n - r:=by omega
    rw [this];omega
   omega
theorem gs_exit{h n t l s q r:Int}(hl:0<l)(hh:h<=l)(hn:n<1073741824)(ht:0<=t)(hs:0<=s)(hs2:s<1073741824)(hq:0<=q)(hv:q*l+r=h*1073741824+n)(hg:gs h n t l s<=q)
  (hc:¬(r<1073741824/\ (1073741824<=q \/r*1073741824+t<q*s))):q=gs h n t l s:=by
 have hV:0<l*1073741824+s:=by omega
 have e:q*(l*1073741824+s)=(q*l)*1073741824+q*s:=by grind
 have e2:q*l=h*1073741824+n - r:=by omega
 have key:q<=1073741823/\ q*(l*1073741824+s)<=h*1073741824*1073741824+n*1073741824+t:=by
  by_cases hr:r<1073741824
  · have:¬1073741824<=q/\ ¬r*1073741824+t<q*s:=⟨fun h=>hc ⟨hr, .inl h⟩,fun h=>hc ⟨hr, .inr h⟩⟩;refine ⟨by omega,?_⟩;rw [e,e2];omega
  · have hq2:q<=1073741823:=by
     by_cases h1:q<1073741824
     · omega
     · have:1073741824*l<=q*l:=Int.mul_le_mul_of_nonneg_right (by omega) (by omega);omega
    refine ⟨hq2,?_⟩;have:q*s<=1073741823*1073741823:=Int.mul_le_mul hq2 (by omega) hs (by omega);rw [e,e2];omega
 have:q<=(h*1073741824*1073741824+n*1073741824+t)/(l*1073741824+s):=(Int.le_ediv_iff_mul_le hV).2 key.2;unfold gs at*;omega
theorem gs_good{P h n t l s a b:Int}(hP:0<P)(ha:0<=a/\ a<P)(hb:0<=b/\ b<P)(hl:0<l)(hs:0<=s)(hh:0<=h)(hn:0<=n)(ht:0<=t)
  (hU:(h*1073741824*1073741824+n*1073741824+t)*P+a<((l*1073741824+s)*P+b)*1073741824):
  0<=gs h n t l s/\ gs h n t l s<=1073741823/\ (gs h n t l s - 1)*((l*1073741824+s)*P+b)<=(h*1073741824*1073741824+n*1073741824+t)*P+a/\
   (h*1073741824*1073741824+n*1073741824+t)*P+a<(gs h n t l s+1)*((l*1073741824+s)*P+b):=by
 have hV:0<l*1073741824+s:=by omega
 have hV1:1073741824<=l*1073741824+s:=by omega
 have hU0:0<=h*1073741824*1073741824+n*1073741824+t:=by omega
 unfold gs;generalize h*1073741824*1073741824+n*1073741824+t=U3 at*;generalize l*1073741824+s=V2 at*;have d0:0<=U3/V2:=Int.ediv_nonneg hU0 (by omega);have d1:U3/V2*V2<=U3:=Int.ediv_mul_le _ (by omega);have d2:U3<(U3/V2+1)*V2:=Int.lt_ediv_add_one_mul_self _ hV;generalize U3/V2=D at*;have hVP:0<=V2*P:=Int.mul_nonneg (by omega) (by omega);refine ⟨by omega,by omega,?_,?_⟩
 · have hg:min 1073741823 D<=D:=by omega
   have hg0:0<=min 1073741823 D:=by omega
   have hg1:min 1073741823 D<=1073741823:=by omega
   generalize min 1073741823 D=G at*;have f1:G*V2<=D*V2:=Int.mul_le_mul_of_nonneg_right hg (by omega);have f2:(G*V2)*P<=U3*P:=Int.mul_le_mul_of_nonneg_right (by omega) (by omega);have f3:G*b<=G*P:=Int.mul_le_mul_of_nonneg_left (by omega) hg0;have f4:G*P<=V2*P:=Int.mul_le_mul_of_nonneg_right (by omega) (by omega)
   have f5:(G - 1)*(V2*P+b)=(G*V2)*P+G*b - V2*P - b:=by grind
   rw [f5];omega
 · by_cases hD:D<1073741823
   · have:min 1073741823 D=D:=by omega
     rw [this];have f1:(U3+1)*P<=((D+1)*V2)*P:=Int.mul_le_mul_of_nonneg_right (by omega) (by omega)
     have f2:(D+1)*(V2*P+b)=((D+1)*V2)*P+(D+1)*b:=by grind
     have f3:0<=(D+1)*b:=Int.mul_nonneg (by omega) hb.1;rw [f2]
     have f4:(U3+1)*P=U3*P+P:=by grind
     omega
   · have:min 1073741823 D=1073741823:=by omega
     rw [this];omega
theorem pre_drop(xs:List Int)(j i:Nat):pre xs (j+i)=pre xs j+BB ^ j*pre (xs.drop j) i:=by
 induction i with
 |zero=>rw [ZQ];simp
 |succ i ih=>
  rw [show j+(i+1)=(j+i)+1 by omega,XQ,ih,XQ]
  have:(xs.drop j).getD i 0=xs.getD (j+i) 0:=by simp [List.getD_eq_getElem?_getD,List.getElem?_drop]
  rw [this,Int.pow_add];grind
theorem getD_ge{xs:List Int}{i:Nat}(h:xs.length<=i):xs.getD i 0=0:=by rw [List.getD_eq_getElem?_getD,List.getElem?_eq_none h];rfl
theorem zero_above{xs:List Int}(h:OKL xs){k:Nat}(hv:val xs<BB ^ k)(j:Nat)(hj:k<=j):xs.getD j 0=0:=by
 rcases Nat.lt_or_ge j xs.length with hl|hl
 · have h1:val xs=pre xs xs.length:=(ZZ (Nat.le_refl _)).symm;obtain ⟨d,hd⟩:∃d,xs.length=(j+1)+d:=⟨xs.length - (j+1),by omega⟩;rw [hd,pre_drop,XQ] at h1;have b1:=Y4 h j;have b2:=Y4 (h.drop (j+1)) d;have b3:=h.get j;have p1:0<=BB ^ (j+1)*pre (xs.drop (j+1)) d:=Int.mul_nonneg (Int.le_of_lt (Int.pow_pos (by decide))) b2.1
   have p2:BB ^ k<=BB ^ j:=by
    obtain ⟨m,rfl⟩:∃m,j=k+m:=⟨j - k,by omega⟩;rw [Int.pow_add];have q1:(1:Int)<=BB ^ m:=Int.pow_pos (by decide);have q2:(0:Int)<=BB ^ k:=Int.le_of_lt (Int.pow_pos (by decide));have:=Int.mul_le_mul_of_nonneg_left q1 q2;omega
   by_cases h0:0<xs.getD j 0
   · have p3:1*BB ^ j<=xs.getD j 0*BB ^ j:=Int.mul_le_mul_of_nonneg_right h0 (Int.le_of_lt (Int.pow_pos (by decide)));omega
   · omega
 · exact getD_ge hl
theorem val_pre_of{xs:List Int}(h:OKL xs){k:Nat}(hv:val xs<BB ^ k):val xs=pre xs k:=val_of_zeros (fun j hj=>zero_above h hv j hj)
def shrL (by' : Nat) : List Int → List Int
  | [] => []
  | x :: xs => ((xs.getD 0 0 * 1073741824 + x) / 2 ^ by') % 1073741824 :: shrL by' xs
theorem shrL_len(k:Nat)(xs:List Int):(shrL k xs).length=xs.length:=by
 induction xs with
 |nil=>rfl
 |cons x xs ih=>simp [shrL,ih]
theorem shrL_get(k:Nat)(xs:List Int)(i:Nat)(h:i<xs.length):(shrL k xs).getD i 0=((xs.getD (i+1) 0*1073741824+xs.getD i 0)/2 ^ k)%1073741824:=by
 induction xs generalizing i with
 |nil=>simp at h
 |cons x xs ih=>
  cases i with
  |zero=>simp [shrL]
  |succ i=>simp only [shrL,List.getD_cons_succ];exact ih i (by simpa using h)
theorem shrL_ok(k:Nat)(xs:List Int):OKL (shrL k xs):=by
 induction xs with
 |nil=>exact OKL.nil
 |cons x xs ih=>exact OKL.cons (by simp only [BB];omega) ih
theorem two_split{k:Nat}(hk:k<=30):(1073741824:Int)=2 ^ k*2 ^ (30 - k):=by
 rw [<- Int.pow_add,show k+(30 - k)=30 by omega];rfl
theorem ediv_mod_B{k:Nat}(hk:k<=30)(x y z:Int):((x+1073741824*(y+1073741824*z))/2 ^ k)%1073741824=((y*1073741824+x)/2 ^ k)%1073741824:=by
 have e:=two_split hk
 have hp:(2:Int) ^ k≠0:=by have:(0:Int)<2 ^ k:=Int.pow_pos (by decide);omega
 have:x+1073741824*(y+1073741824*z)=(y*1073741824+x)+(2 ^ (30 - k)*z*1073741824)*2 ^ k:=by
  have:(1073741824:Int)*(1073741824*z)=(2 ^ (30 - k)*z*1073741824)*2 ^ k:=by
   conv=>lhs;rw [e]
   grind
  grind
 rw [this,Int.add_mul_ediv_right _ _ hp,Int.add_mul_emod_self_right]
theorem val_shrL{k:Nat}(hk:k<=30):∀(xs:List Int),OKL xs ->val (shrL k xs)=val xs/2 ^ k
 | [],_=>by simp [shrL,val]
 |x::xs,h=>by
  have ih:=val_shrL hk xs h.tail
  have hx:=h.head
  have hp:(0:Int)<2 ^ k:=Int.pow_pos (by decide)
  have h1:val xs=xs.getD 0 0+1073741824*val xs.tail:=by
   cases xs with
   |nil=>simp [val]
   |cons y ys=>simp [val,BB]
  simp only [shrL,val,ih,BB] at*;have e1:=ediv_mod_B hk x (xs.getD 0 0) (val xs.tail);rw [<- h1] at e1;rw [<- e1]
  have e2:val xs/2 ^ k=(x+1073741824*val xs)/2 ^ k/1073741824:=by
   rw [Int.ediv_ediv_of_nonneg (by omega),Int.mul_comm (2 ^ k) 1073741824,<- Int.ediv_ediv_of_nonneg (by omega),Int.mul_comm 1073741824,Int.add_mul_ediv_right _ _ (by decide),Int.ediv_eq_zero_of_lt hx.1 hx.2,Int.zero_add]
  rw [e2];have:=Int.emod_add_mul_ediv ((x+1073741824*val xs)/2 ^ k) 1073741824;omega
theorem getD_drop(xs:List Int)(j i:Nat):(xs.drop j).getD i 0=xs.getD (j+i) 0:=by simp [List.getD_eq_getElem?_getD,List.getElem?_drop]
theorem Bpos(k:Nat):(0:Int)<BB ^ k:=Int.pow_pos (by decide)
theorem win{us vs:List Int}{n j:Nat}(hu:OKL us)(hv:OKL vs)(hn:2<=n)(hvl:vs.length=n+1)(htop:vs.getD n 0=0)(hld:0<vs.getD (n - 1) 0)(hA:val us<val vs*BB ^ (j+1)):
  us.getD (j+n) 0<=vs.getD (n - 1) 0/\ 0<=gs (us.getD (j+n) 0) (us.getD (j+n - 1) 0) (us.getD (j+n - 2) 0) (vs.getD (n - 1) 0) (vs.getD (n - 2) 0)/\
  gs (us.getD (j+n) 0) (us.getD (j+n - 1) 0) (us.getD (j+n - 2) 0) (vs.getD (n - 1) 0) (vs.getD (n - 2) 0)<=1073741823/\
  (gs (us.getD (j+n) 0) (us.getD (j+n - 1) 0) (us.getD (j+n - 2) 0) (vs.getD (n - 1) 0) (vs.getD (n - 2) 0) - 1)*val vs*BB ^ j<=val us/\
  val us<(gs (us.getD (j+n) 0) (us.getD (j+n - 1) 0) (us.getD (j+n - 2) 0) (vs.getD (n - 1) 0) (vs.getD (n - 2) 0)+1)*val vs*BB ^ j/\
  (∀p,j+n+1<=p ->us.getD p 0=0)/\ 0<val vs/\ val vs<BB ^ n:=by
 obtain ⟨m,rfl⟩:∃m,n=m+2:=⟨n - 2,by omega⟩
 have e1:m+2 - 1=m+1:=by omega
 have e2:m+2 - 2=m:=by omega
 have e3:j+(m+2) - 1=j+(m+1):=by omega
 have e4:j+(m+2) - 2=j+m:=by omega
 rw [e1] at hld ⊢;rw [e2,e3,e4];have v1:val vs=pre vs (m+3):=(ZZ (by omega)).symm
 have v2:val vs=(vs.getD (m+1) 0*1073741824+vs.getD m 0)*BB ^ m+pre vs m:=by
  rw [v1,show m+3=(m+2)+1 by omega,XQ,htop,show m+2=(m+1)+1 by omega,XQ,XQ,Int.pow_succ];simp only [BB];grind
 have b1:=Y4 hv m;have b2:=hv.get (m+1);have b3:=hv.get m
 have vlt:val vs<BB ^ (m+2):=by
  have:=Y4 hv (m+2);rw [v1,show m+3=(m+2)+1 by omega,XQ,htop];omega
 have vpos:0<val vs:=by
  rw [v2];have:0<(vs.getD (m+1) 0*1073741824+vs.getD m 0)*BB ^ m:=Int.mul_pos (by omega) (Bpos m);omega
 have ult:val us<BB ^ (j+(m+2)+1):=by
  have h1:val vs*BB ^ (j+1)<BB ^ (m+2)*BB ^ (j+1):=Int.mul_lt_mul_of_pos_right vlt (Bpos _);rw [<- Int.pow_add,show m+2+(j+1)=j+(m+2)+1 by omega] at h1;omega
 have uz:=fun p hp=>zero_above hu ult p hp
 have u1:val us=pre us j+BB ^ j*pre (us.drop j) (m+3):=by
  rw [val_pre_of hu ult,show j+(m+2)+1=j+(m+3) by omega,pre_drop]
 have u2:pre (us.drop j) (m+3)=(us.getD (j+(m+2)) 0*1073741824*1073741824+us.getD (j+(m+1)) 0*1073741824+us.getD (j+m) 0)*BB ^ m+pre (us.drop j) m:=by
  rw [show m+3=(m+2)+1 by omega,XQ,show m+2=(m+1)+1 by omega,XQ,XQ,Int.pow_succ,Int.pow_succ,getD_drop,getD_drop,getD_drop];simp only [BB];grind
 have c0:=Y4 hu j;have c1:=Y4 (hu.drop j) m;have c2:=hu.get (j+(m+2));have c3:=hu.get (j+(m+1));have c4:=hu.get (j+m);have pj:=Bpos j
 have hUV:pre (us.drop j) (m+3)<val vs*1073741824:=by
  have h1:BB ^ j*pre (us.drop j) (m+3)<BB ^ j*(val vs*1073741824):=by
   have:val vs*BB ^ (j+1)=BB ^ j*(val vs*1073741824):=by rw [Int.pow_succ];simp only [BB];grind
   omega
  exact Int.lt_of_mul_lt_mul_left h1 (by omega)
 have hi:us.getD (j+(m+2)) 0<=vs.getD (m+1) 0:=by
  have h1:us.getD (j+(m+2)) 0*(1073741824*1073741824*BB ^ m)<=pre (us.drop j) (m+3):=by
   rw [u2];have:0<=(us.getD (j+(m+1)) 0*1073741824+us.getD (j+m) 0)*BB ^ m:=Int.mul_nonneg (by omega) (by have:=Bpos m;omega)
   have e:(us.getD (j+(m+2)) 0*1073741824*1073741824+us.getD (j+(m+1)) 0*1073741824+us.getD (j+m) 0)*BB ^ m=us.getD (j+(m+2)) 0*(1073741824*1073741824*BB ^ m)+(us.getD (j+(m+1)) 0*1073741824+us.getD (j+m) 0)*BB ^ m:=by grind
   omega
  have h2:val vs*1073741824<(vs.getD (m+1) 0+1)*(1073741824*1073741824*BB ^ m):=by
   rw [v2]
   have e:(vs.getD (m+1) 0+1)*(1073741824*1073741824*BB ^ m)=((vs.getD (m+1) 0*1073741824+1073741824)*BB ^ m)*1073741824:=by grind
   rw [e];have:(vs.getD (m+1) 0*1073741824+vs.getD m 0+1)*BB ^ m<=(vs.getD (m+1) 0*1073741824+1073741824)*BB ^ m:=Int.mul_le_mul_of_nonneg_right (by simp only [BB] at b3;omega) (by have:=Bpos m;omega)
   have e5:(vs.getD (m+1) 0*1073741824+vs.getD m 0+1)*BB ^ m=(vs.getD (m+1) 0*1073741824+vs.getD m 0)*BB ^ m+BB ^ m:=by grind
   omega
  have h3:us.getD (j+(m+2)) 0*(1073741824*1073741824*BB ^ m)<(vs.getD (m+1) 0+1)*(1073741824*1073741824*BB ^ m):=by omega
  have h4:(0:Int)<=1073741824*1073741824*BB ^ m:=by have:=Bpos m;omega
  have:=Int.lt_of_mul_lt_mul_right h3 h4;omega
 have G:=gs_good (P:=BB ^ m) (h:=us.getD (j+(m+2)) 0) (n:=us.getD (j+(m+1)) 0) (t:=us.getD (j+m) 0) (l:=vs.getD (m+1) 0) (s:=vs.getD m 0) (a:=pre (us.drop j) m) (b:=pre vs m)
  (Bpos m) c1 b1 hld b3.1 c2.1 c3.1 c4.1 (by rw [<- u2,<- v2];exact hUV)
 rw [<- u2,<- v2] at G;generalize gs (us.getD (j+(m+2)) 0) (us.getD (j+(m+1)) 0) (us.getD (j+m) 0) (vs.getD (m+1) 0) (vs.getD m 0)=gg at*;obtain ⟨g1,g2,g3,g4⟩:=G;generalize pre (us.drop j) (m+3)=U at*;refine ⟨hi,g1,g2,?_,?_,uz,vpos,vlt⟩
 · have:=Int.mul_le_mul_of_nonneg_right g3 (Int.le_of_lt pj);rw [u1,Int.mul_comm (BB ^ j)];omega
 · have:(U+1)*BB ^ j<=(gg+1)*val vs*BB ^ j:=Int.mul_le_mul_of_nonneg_right (by omega) (Int.le_of_lt pj);rw [Int.add_mul,Int.one_mul] at this;rw [u1,Int.mul_comm (BB ^ j)];omega
structure Win (us vs : List Int) (j : Nat) (f : Int) (lo hi : Int) (i : Nat) (zs : List Int) (c : Int) : Prop where
  len : zs.length = us.length
  ok : OKL zs
  same : ∀ p, p < j ∨ j + i ≤ p → zs.getD p 0 = us.getD p 0
  lo : lo ≤ c
  hi : c ≤ hi
  value : val zs + c * BB ^ (j + i) = val us + f * pre vs i * BB ^ j
theorem Win.zero{us vs:List Int}{j:Nat}{f lo hi:Int}(hu:OKL us)(h1:lo<=0)(h2:0<=hi):Win us vs j f lo hi 0 us 0:=
 ⟨rfl,hu,fun _ _=>rfl,h1,h2,by rw [ZQ];simp⟩
theorem Win.step{us vs:List Int}{j:Nat}{f lo hi:Int}{i:Nat}{zs:List Int}{c:Int}(h:Win us vs j f lo hi i zs c)(hl:j+i<us.length)
  (h1:lo<=(zs.getD (j+i) 0+f*vs.getD i 0+c)/1073741824) (h2:(zs.getD (j+i) 0+f*vs.getD i 0+c)/1073741824<=hi):
  Win us vs j f lo hi (i+1) (zs.set (j+i) ((zs.getD (j+i) 0+f*vs.getD i 0+c)%1073741824)) ((zs.getD (j+i) 0+f*vs.getD i 0+c)/1073741824):=by
 have hlz:j+i<zs.length:=by rw [h.len];exact hl
 refine ⟨by simp [h.len],h.ok.set _ (by simp only [BB];omega),fun p hp=> ?_,h1,h2,?_⟩
 · rw [getD_set hlz,if_neg (by omega)];exact h.same p (by omega)
 · have hv:=h.value;have e:=Int.mul_ediv_add_emod (zs.getD (j+i) 0+f*vs.getD i 0+c) 1073741824;rw [JQ hlz,XQ,show j+(i+1)=j+i+1 by omega,Int.pow_succ,Int.pow_add];rw [Int.pow_add] at hv;simp only [BB] at*;generalize (zs.getD (j+i) 0+f*vs.getD i 0+c)/1073741824=Q at*;generalize (zs.getD (j+i) 0+f*vs.getD i 0+c)%1073741824=M at*;generalize (1073741824:Int) ^ i=I at*;generalize (1073741824:Int) ^ j=J at*;generalize zs.getD (j+i) 0=z at*;generalize vs.getD i 0=y at*;generalize pre vs i=pv at*;generalize val zs=vz at*;generalize val us=vu at*
   grind
theorem Win.lt{us vs:List Int}{j n:Nat}{f lo hi:Int}{zs:List Int}{c:Int}(h:Win us vs j f lo hi (n+1) zs c)(hz:∀p,j+n+1<=p ->us.getD p 0=0):0<=val zs/\ val zs<BB ^ (j+n+1):=by
 have:val zs=pre zs (j+n+1):=val_of_zeros (fun p hp=>by rw [h.same p (by omega)];exact hz p hp);rw [this];exact Y4 h.ok _
theorem sub_done{V J W R c z:Int}(hW:V*J<W)(hlo: -(V*J)<=R)(hhi:R<V*J)(hz0:0<=z)(hzW:z<W)(hc:c<=0)(he:z+c*W=R):
  (¬c<0 ->z=R)/\ (c<0 ->z=R+W/\ R<0):=by
 refine ⟨fun h=> ?_,fun h=> ?_⟩
 · have:c=0:=by omega
   subst this;omega
 · have h1:c= -1:=by
    by_cases h2:c<= -2
    · have:c*W<= -2*W:=Int.mul_le_mul_of_nonneg_right h2 (by omega);omega
    · omega
   subst h1;omega
theorem add_done{V W R c z:Int}(hW:V<W)(hlo: -V<=R)(hhi:R<0)(hz0:0<=z)(hzW:z<W)(he:z+c*W=(R+W)+V):z=R+V:=by
 have h1:c=1:=by
  by_cases h2:c<=0
  · have:c*W<=0*W:=Int.mul_le_mul_of_nonneg_right h2 (by omega);omega
  · by_cases h3:2<=c
    · have:2*W<=c*W:=Int.mul_le_mul_of_nonneg_right h3 (by omega);omega
    · omega
 subst h1;omega
open Go.Proofs Go.Shelf Go.Sort
section
variable {α : Type} {cf : α → α → Int}
structure Ord (cf : α → α → Int) : Prop where
  anti : ∀ a b, cf b a = - cf a b
  eq0 : ∀ a b, cf a b = 0 → a = b
  trans : ∀ a b c, cf a b < 0 → cf b c < 0 → cf a c < 0
theorem Ord.self(O:Ord cf)(a:α):cf a a=0:=by have:=O.anti a a;omega
theorem Ord.swo(O:Ord cf):SWO (ltOf cf):=by
 have nt:∀x y z,cf x z<0 ->cf x y<0 \/cf y z<0:=fun x y z h=>by
  rcases Int.lt_trichotomy (cf x y) 0 with h1|h1|h1
  · exact .inl h1
  · rw [O.eq0 x y h1] at h;exact .inr h
  · exact .inr (O.trans y x z (by rw [O.anti x y];omega) h)
 refine ⟨fun x=> ?_,fun x y z h1 h2=> ?_,fun x y z h1 h2=> ?_⟩
 · simp only [ltOf,O.self];decide
 · simp only [ltOf,decide_eq_true_eq] at*;exact O.trans x y z h1 h2
 · simp only [ltOf,decide_eq_false_iff_not] at*;intro h;rcases nt x y z h with h|h
   · exact h1 h
   · exact h2 h
theorem Ord.tot(O:Ord cf):∀x y,(ltOf cf) x y=false ->(ltOf cf) y x=false ->x=y:=fun x y h1 h2=>by
 simp only [ltOf,decide_eq_false_iff_not] at*
 rw [O.anti x y] at h2
 exact O.eq0 x y (by omega)
def Up (cf : α → α → Int) (l : List α) : Prop := l.Pairwise (fun a b => cf a b < 0)
theorem Up.ext(O:Ord cf):∀{l m:List α},Up cf l ->Up cf m ->(∀x,x∈l↔x∈m) ->l=m
 | [],[],_,_,_=>rfl
 | [],y::m,_,_,h=>by have:=(h y).2 (List.mem_cons_self ..);cases this
 |x::l,[],_,_,h=>by have:=(h x).1 (List.mem_cons_self ..);cases this
 |x::l,y::m,hl,hm,h=>by
  have hl' :=List.pairwise_cons.1 hl
  have hm' :=List.pairwise_cons.1 hm
  have e:x=y:=by
   rcases List.mem_cons.1 ((h x).1 (List.mem_cons_self ..)) with e|e
   · exact e
   · rcases List.mem_cons.1 ((h y).2 (List.mem_cons_self ..)) with e' |e'
     · exact e'.symm
     · have h1:=hm'.1 x e;have h2:=hl'.1 y e';rw [O.anti y x] at h2;omega
  subst e
  have nl:x ∉ l:=fun hx=>by have:=hl'.1 x hx;rw [O.self] at this;omega
  have nm:x ∉ m:=fun hx=>by have:=hm'.1 x hx;rw [O.self] at this;omega
  rw [Up.ext O hl'.2 hm'.2 (fun z=>⟨fun hz=>by
   rcases List.mem_cons.1 ((h z).1 (List.mem_cons_of_mem _ hz)) with rfl|h1
   · exact absurd hz nl
   · exact h1,fun hz=>by
   rcases List.mem_cons.1 ((h z).2 (List.mem_cons_of_mem _ hz)) with rfl|h1
   · exact absurd hz nm
   · exact h1⟩)]
section
variable [DecidableEq α]
theorem ddF_up(O:Ord cf):∀(l:List α) (a:α),(a::l).Pairwise (fun a b=>cf a b<=0) ->Up cf (a::ddF a l)/\ ∀x,x∈a::ddF a l↔x∈a::l
 | [],a,_=>⟨List.pairwise_singleton _ _,fun x=>Iff.rfl⟩
 |b::l,a,h=>by
  have h' :=List.pairwise_cons.1 h
  unfold ddF
  by_cases e:b=a
  · subst e
    rw [if_pos rfl]
    obtain ⟨h1,h2⟩:=ddF_up O l b h'.2
    exact ⟨h1,fun x=>by rw [h2 x];simp⟩
  · rw [if_neg e]
    obtain ⟨h1,h2⟩:=ddF_up O l b h'.2
    refine ⟨List.pairwise_cons.2 ⟨fun x hx=> ?_,h1⟩,fun x=>by rw [List.mem_cons,h2 x,List.mem_cons (a:=x) (b:=a)]⟩
    have hb:=h'.1 b (List.mem_cons_self ..)
    have hb2:cf a b<0:=by
     rcases Int.lt_or_eq_of_le hb with h3|h3
     · exact h3
     · exact absurd (O.eq0 a b h3).symm e
    rcases List.mem_cons.1 hx with rfl|hx
    · exact hb2
    · exact O.trans a b x hb2 ((List.pairwise_cons.1 h1).1 x hx)
def sd (cf : α → α → Int) (l : List α) : List α := dd (l.mergeSort fun x y => !(ltOf cf) y x)
theorem Yt(O:Ord cf)(l:List α):Up cf (sd cf l)/\ ∀x,x∈sd cf l↔x∈l:=by
 have hp:(l.mergeSort fun x y=> !(ltOf cf) y x).Pairwise (fun a b=>cf a b<=0):=by
  have h:=List.pairwise_mergeSort (le:=fun x y=> !(ltOf cf) y x) (fun a b c h1 h2=>by
   simp only [ltOf,Bool.not_eq_true',decide_eq_false_iff_not] at*;intro h;rcases Int.lt_trichotomy (cf c b) 0 with h3|h3|h3
   · exact h2 h3
   · rw [O.eq0 c b h3] at h;exact h1 h
   · exact h1 (O.trans b c a (by rw [O.anti c b];omega) h)) (fun a b=>by
   simp only [ltOf,Bool.or_eq_true,Bool.not_eq_true',decide_eq_false_iff_not]
   rw [O.anti a b];omega) l
  refine h.imp (fun {a b} hab=> ?_);simp only [ltOf,Bool.not_eq_true',decide_eq_false_iff_not] at hab;rw [O.anti a b] at hab;omega
 have hm:∀x,x∈(l.mergeSort fun x y=> !(ltOf cf) y x)↔x∈l:=fun x=>List.mem_mergeSort
 unfold sd;generalize (l.mergeSort fun x y=> !(ltOf cf) y x)=m at*
 cases m with
 |nil=>exact ⟨List.Pairwise.nil,hm⟩
 |cons a m=>
  obtain ⟨h1,h2⟩:=ddF_up O m a hp;exact ⟨h1,fun x=>(h2 x).trans (hm x)⟩
theorem sd_len(cf:α ->α ->Int)(l:List α):(sd cf l).length<=l.length:=Nat.le_trans (dd_len _) (Nat.le_of_eq (List.length_mergeSort _))
theorem sd_eq(O:Ord cf){l:List α}(h:Up cf l):sd cf l=l:=Up.ext O (Yt O l).1 h (Yt O l).2
end
end
end Go.Limbs
namespace Go.Proofs.YtfimckpnnbibcaaGreat
open Go.Limbs Go.Own Go.Proofs.Tryz
structure Tk where
  va : Int
  ds : Fin 4294967296
  pr : Int
deriving DecidableEq
def trOf (r : Rs) : Tk := ⟨r.va, r.dst, r.pr⟩
def tkI (t : Tk) : List Int := [t.va, (t.ds.val : Int), t.pr]
def cmpT (a b : Tk) : Int := cmpL (tkI a) (tkI b)
theorem ordT:Ord cmpT where
 anti a b:=cmpL_anti _ _
 eq0 a b h:=by
  have:=cmpL_eq (xs:=tkI a) (ys:=tkI b) J h;obtain ⟨a1,a2,a3⟩:=a;obtain ⟨b1,b2,b3⟩:=b;simp only [tkI,List.cons.injEq,and_true,Int.ofNat_inj,Fin.val_inj] at this;obtain ⟨h1,h2,h3⟩:=this;rw [h1,h2,h3]
 trans a b c:=cmpL_trans (xs:=tkI a) (ys:=tkI b) (zs:=tkI c) J J
def usR (r : Rs) : Bool := !r.db && okR r
def fiR (r : Rs) : Bool := r.an && (decide (r.ki ≠ 1) && usR r)
def endS (e : Int) (r : Rs) : Int := if (e = 0 ∨ r.tt < e) ∧ fiR r = true then r.tt else e
def endF (l : List Rs) : Int := l.foldl endS 0
abbrev Sp := Int × Int
abbrev AdM := List (Sp × Fin 4294967296)
abbrev StM := List (Sp × Int)
def lookS (e : Int) (m : AdM × StM) (r : Rs) : AdM × StM :=
  if usR r = false ∨ (0 < e ∧ e < r.tt) then m
  else if r.an = false then (m.1, ins m.2 (r.fl, r.tt) (max ((look1 m.2 (r.fl, r.tt)).getD 0) 1))
  else if (look1 m.2 (r.fl, r.tt)).getD 0 ≤ 1 then (ins m.1 (r.fl, r.tt) r.fr, ins m.2 (r.fl, r.tt) 2)
  else if (look1 m.2 (r.fl, r.tt)).getD 0 = 2 ∧ (look1 m.1 (r.fl, r.tt)).getD 0 ≠ r.fr then (ins m.1 (r.fl, r.tt) 0, ins m.2 (r.fl, r.tt) 3)
  else m
def lookG (l : List Rs) : AdM × StM := l.foldl (lookS (endF l)) ([], [])
def hasS (m : StM) (fl tt : Int) : Bool := decide ((look1 m (fl, tt)).getD 0 = 2) || decide ((look1 m (fl, tt)).getD 0 = 1)
def pathG (m : AdM × StM) (fl : Int) : Nat → Int → List (Fin 4294967296)
  | 0, _ => []
  | k + 1, tt => if hasS m.2 fl tt then (look1 m.1 (fl, tt)).getD 0 :: pathG m fl k (tt + 1) else []
def pathF (l : List Rs) (fl : Int) : List (Fin 4294967296) := pathG (lookG l) fl 256 1
theorem lookG_keys(l:List Rs):∀s v,look1 (lookG l).2 s=some v ->1<=v/\ ∃r∈l,usR r=true/\ s=(r.fl,r.tt):=by
 have key:∀(q:List Rs) (m:AdM × StM),(∀r∈q,r∈l) ->(∀s v,look1 m.2 s=some v ->1<=v/\ ∃r∈l,usR r=true/\ s=(r.fl,r.tt)) ->∀s v,look1 (q.foldl (lookS (endF l)) m).2 s=some v ->1<=v/\ ∃r∈l,usR r=true/\ s=(r.fl,r.tt):=by
  intro q
  induction q with
  |nil=>intro m _ h;exact h
  |cons r q ih=>
   intro m hq hm
   refine ih (lookS (endF l) m r) (fun x hx=>hq x (List.mem_cons_of_mem _ hx)) ?_
   have hr:=hq r (List.mem_cons_self ..);intro s v hs;unfold lookS at hs;split at hs
   · exact hm s v hs
   · rename_i hu
     have hus:usR r=true:=by
      cases h:usR r with
      |true=>rfl
      |false=>exact absurd (.inl h) hu
     have fin:∀w:Int,1<=w ->look1 (ins m.2 (r.fl,r.tt) w) s=some v ->1<=v/\ ∃r∈l,usR r=true/\ s=(r.fl,r.tt):=fun w hw h=>by
      rw [look1_ins] at h;split at h
      · rename_i e;injection h with h;exact ⟨by omega,r,hr,hus,e⟩
      · exact hm s v h
     split at hs
     · exact fin _ (by omega) hs
     · split at hs
       · exact fin 2 (by decide) hs
       · split at hs
         · exact fin 3 (by decide) hs
         · exact hm s v hs
 exact key l ([],[]) (fun _ h=>h) (fun s v h=>by cases h)
abbrev Wr := Fin 4294967296 × Fin 4294967296
def idxI {α : Type} (p : α → Bool) (xs : List α) : Int := if xs.any p then (xs.findIdx p : Nat) else -1
theorem idxI_hit{α:Type}{p:α ->Bool}{xs:List α}{z:α}{i:Nat}(h:i<xs.length)(hp:p (xs.getD i z)=true)(hn:∀j,j<i ->p (xs.getD j z)=false):idxI p xs=i:=by
 have e:∀j (hj:j<xs.length),xs.getD j z=xs[j]:=fun j hj=>by simp [List.getD_eq_getElem?_getD,List.getElem?_eq_getElem hj]
 unfold idxI;rw [if_pos (List.any_eq_true.mpr ⟨xs[i],List.getElem_mem h,by rw [<- e i h];exact hp⟩)]
 congr 1
 rw [List.findIdx_eq h];exact ⟨by rw [<- e i h];exact hp,fun j hj=>by rw [<- e j (by omega)];exact hn j hj⟩
theorem idxI_miss{α:Type}{p:α ->Bool}{xs:List α}{z:α}(hn:∀j,j<xs.length ->p (xs.getD j z)=false):idxI p xs= -1:=by
 have e:∀j (hj:j<xs.length),xs.getD j z=xs[j]:=fun j hj=>by simp [List.getD_eq_getElem?_getD,List.getElem?_eq_getElem hj]
 unfold idxI;rw [if_neg];rw [Bool.not_eq_true,List.any_eq_false];intro x hx;obtain ⟨j,hj,rfl⟩:=List.getElem_of_mem hx;rw [<- e j hj,hn j hj];decide
theorem idxI_any{α:Type}(p:α ->Bool)(xs:List α):decide (0<=idxI p xs)=xs.any p:=by
 unfold idxI;split
 · rename_i h;rw [h];simp
 · rename_i h;simp at h;rw [show decide ((0:Int)<= -1)=false by decide];symm;rw [List.any_eq_false];simpa using h
theorem XX{α:Type}{xs:List α}{z:α}{i:Nat}(h:i<xs.length):xs.getD i z∈xs:=by
 simp [List.getD_eq_getElem?_getD,List.getElem?_eq_getElem h]
abbrev ESp := Tk × Int × Int
def plS (r : Rs) : ESp := (trOf r, r.fl, r.tt)
def plB (r : Rs) : Bool := r.an && usR r
abbrev SeenM := List (ESp × Fin 4294967296)
def clashG : SeenM → List Rs → Nat
  | _, [] => 0
  | m, r :: l =>
    if plB r = false then clashG m l + 1
    else if (look1 m (plS r)).isSome = true ∧ (look1 m (plS r)).getD 0 ≠ r.fr then 0
    else clashG (ins m (plS r) r.fr) l + 1
def conB (a b : Rs) : Bool := (plB a && plB b) && (decide (plS a = plS b) && decide (a.fr ≠ b.fr))
def witG (o : List Rs) : Option Nat :=
  let k := clashG [] o
  if k < o.length then (o.take k).findIdx? (fun a => conB a (o.getD k rs0)) else none
theorem clashG_le:∀(l:List Rs) (m:SeenM),clashG m l<=l.length
 | [],_=>Nat.le_refl _
 |r::l,m=>by
  simp only [clashG,List.length_cons]
  split
  · have:=clashG_le l m;omega
  · split
    · omega
    · have:=clashG_le l (ins m (plS r) r.fr);omega
theorem usR_tt{r:Rs}(h:usR r=true):1<=r.tt/\ r.tt<=255:=by
 simp only [usR,okR,Bool.and_eq_true,decide_eq_true_eq] at h;have h1:=h.2.1;unfold ckE at h1;split at h1
 · cases h1
 · rename_i h2;unfold P1 at h2;omega
theorem hasS_tt{l:List Rs}{fl tt:Int}(h:hasS (lookG l).2 fl tt=true):1<=tt/\ tt<=255:=by
 unfold hasS at h
 cases e:look1 (lookG l).2 (fl,tt) with
 |none=>rw [e] at h;simp at h
 |some v=>
  obtain ⟨_,r,_,hu,hs⟩:=lookG_keys l _ _ e
  injection hs with h1 h2
  rw [h2];exact usR_tt hu
theorem pathG_len(m:AdM × StM)(fl:Int):∀(k:Nat) (tt:Int),(pathG m fl k tt).length<=k
 |0,_=>Nat.le_refl _
 |k+1,tt=>by
  unfold pathG
  split
  · have:=pathG_len m fl k (tt+1);simp only [List.length_cons];omega
  · exact Nat.zero_le _
attribute [local irreducible] Go.Own.Fin Ok Ops St
theorem trim_ok(xs:List Int)(hl:xs.length<4611686018427387904):Ok prog 234 [intsC xs] (intsC (trimL xs)):=by
 refine Ok.enter func234 J _ ntmps234 J ?_
 intro S w;refine Qj 7 J (QY (α:=List Int) (fun ys=>trimL ys=trimL xs/\ ys.length<=xs.length) (fun ys=>[(0, .ct (intsC ys))]) (fun _=>[]) (fun ys=>ys.length) xs ⟨rfl,Nat.le_refl _⟩ (Qx J) ?_)
 intro ys ⟨hy,hle⟩;refine Qj 4 J (QV sNat.und J (Qq 2 J (QQ 6 J (fun h=> ?_) (fun h=> ?_))))
 · refine Qq 2 J (QV sNat.und J (QZ 1 J (by omega) ?_));refine Q8 0 sNat J (by omega) ?_;refine Qq 5 J ?_
   have e1:((ys.length:Int) - 1).toNat=ys.length - 1:=by omega
   refine Qy J (fun h2=> ?_) (fun h2=> ?_)
   · rw [e1] at h2;refine Qj 6 J (QV sNat.und J (QZ 1 J (by omega) ?_));refine Ops.cutHi J J J sNat (by omega) (by simp) J ?_
     rw [<- List.map_take];refine Qq 3 J ?_;refine Qk (ys.take ((ys.length:Int) - 1).toNat) (by simp;omega) ⟨?_,by simp;omega⟩ (Qx J);rw [e1,<- hy];exact trim_last (by omega) h2
   · rw [e1] at h2;refine Qj 9 J ?_;rw [<- hy,trim_done (fun _=>h2)];refine Qw J J
 · refine Qq 20 J ?_;rw [<- hy,trim_done (fun h3=>absurd h3 (by omega))];refine Qw J J
theorem result_ok(xs:List Int)(hl:xs.length<=256):Ok prog 230 [intsC xs] (.tup [intsC (trimL xs),intC 0]):=by
 refine Ok.enter func230 J _ ntmps230 J ?_
 intro S w;refine Qj 10 J (Qv (gT J) (trim_ok xs (by omega)) J ?_);refine Qq 6 J (QV sNat.und J (Qq 3 J ?_));have:=trim_len xs;refine Qy J (fun h2=> ?_) (fun h2=> ?_)
 · omega
 · refine Qj 10 J ?_;refine Qw J J
abbrev natC (n : Nat) : CT := intsC (limbs n)
theorem Add_list(xs ys:List Int)(hx:xs.length<=200)(hy:ys.length<=200)(bx:OKL xs)(by' :OKL ys):
  Ok prog 194 [intsC xs,intsC ys] (.tup [natC (val xs+val ys).toNat,intC 0]):=by
 refine Ok.enter func194 J _ ntmps194 J ?_
 intro S w;refine Qj 9 J (QV sNat.und J (Qq 1 J (QV sNat.und J (Ops.max2 J J J J (QZ 7 J (by omega) ?_)))));refine ZV 0 (max xs.length ys.length+1) J J J (by omega) sNat (by omega) (by omega) J J J ?_
 rw [ints_made];refine Qq 16 J ?_
 refine QY (α:=Nat × List Int × Int) (fun s=>s.1<=max xs.length ys.length/\ s.2.1.length=s.1/\ OKL s.2.1/\ 0<=s.2.2/\ s.2.2<=1/\ val s.2.1+s.2.2*BB ^ s.1=pre xs s.1+pre ys s.1)
  (fun s=>[(0, .ct (intsC xs)),(1, .ct (intsC ys)),(6, .ct (intC (max ↑xs.length ↑ys.length))),(7, .own 0),(8, .ct (intC s.2.2)),(19, .ct (intC (max ↑xs.length ↑ys.length))),(20, .ct (intC s.1))])
  (fun s=>[(0, .row 3 1 (ints (s.2.1++List.replicate (max xs.length ys.length+1 - s.1) 0)))])
  (fun s=>max xs.length ys.length - s.1) (0,[],0) ⟨Nat.zero_le _,rfl,OKL.nil,by decide,by decide,by simp [val,ZQ]⟩ (by exact Qx J) ?_
 rintro ⟨i,zs,c⟩ ⟨hi,hz,hok,hc0,hc1,hv⟩
 dsimp only at hi hz hok hc0 hc1 hv ⊢;refine Qj 6 J ?_;refine Qy J (fun h=> ?_) (fun h=> ?_)
 · have b1:=bx.get i
   have b2:=by'.get i
   simp only [BB] at b1 b2;refine Qj 14 J (Qv (gT J) (at_ok xs i (by omega)) J ?_);refine Qq 2 J (Qv (gT J) (at_ok ys i (by omega)) J ?_);rw [Int.toNat_natCast]
   refine QZ 10 J (by omega) ?_;refine Qh iand30 J J J J (Qq 1 J (Qh ishr30 J J J J (Qf (max xs.length ys.length+1) J J J (by simp;omega) J sNat (by omega) (by omega) J ?_)));refine Qa J J J J J zInt (by simp [Ent.cs];omega) ?_
   simp only [Ent.setc,Zz];refine QZ 8 J (by omega) ?_;refine Qk (i+1,zs++ [(xs.getD i 0+ys.getD i 0+c)%1073741824],(xs.getD i 0+ys.getD i 0+c)/1073741824) (by dsimp only;omega) ⟨by dsimp only;omega,by simp [hz],?_,?_,?_,?_⟩ ?_
   all_goals dsimp only
   · exact hok.append (OKL.cons (by simp only [BB];omega) OKL.nil)
   · omega
   · omega
   · rw [YY,hz,XQ,XQ];have e:=Int.mul_ediv_add_emod (xs.getD i 0+ys.getD i 0+c) 1073741824;simp only [val,BB] at*;generalize (xs.getD i 0+ys.getD i 0+c)/1073741824=q at*;generalize (xs.getD i 0+ys.getD i 0+c)%1073741824=m at*
     grind
   · refine QW ?_ ⟨rfl,rfl,rfl,rfl,rfl,rfl,by simp only [Int.natCast_add];rfl,trivial⟩
     have e1:max xs.length ys.length+1 - i=(max xs.length ys.length - i)+1:=by omega
     have e2:max xs.length ys.length+1 - (i+1)=max xs.length ys.length - i:=by omega
     have e3:(i:Int).toNat*1=zs.length:=by omega
     rw [e1,e2,e3,set_snoc];rfl
 · refine Qj 7 J ?_
   have hi' :i=max xs.length ys.length:=by omega
   have e1:max xs.length ys.length+1 - i=0+1:=by omega
   refine Qf (max xs.length ys.length+1) J J J (by simp;omega) J sNat (by omega) (by omega) J ?_;refine Qa J J J J J zInt (by simp [Ent.cs];omega) ?_
   simp only [Ent.setc,Zz]
   have e3:(max (xs.length:Int) ys.length).toNat*1=zs.length:=by omega
   rw [e3,e1,set_snoc];refine Qq 5 J (Zw 0 _ J (X2 _ _) noBor_sub (Qv (gT J) (result_ok _ (by simp;omega)) J ?_))
   have e4:trimL (zs++ [c]++List.replicate 0 0)=limbs (val xs+val ys).toNat:=by
    have h1:OKL (zs++ [c]):=hok.append (OKL.cons (by simp only [BB];omega) OKL.nil);simp only [List.replicate_zero,List.append_nil];rw [Zk h1,YY,hz];rw [ZZ (by omega),ZZ (by omega)] at hv
    congr 2
    simp only [val];grind
   rw [e4];refine Qq 7 J ?_;refine Qw J J
theorem isNaN_ok(x:Int):Ok prog 160 [intC x] (boolC false):=by
 refine Ok.enter func160 J _ ntmps160 J ?_
 intro S w;refine Qj 14 J ?_
 have:decide (x≠x)=false:=by simp
 rw [this];refine Qw J J
theorem cmp_ok(x y:Int):Ok prog 100 [intC x,intC y] (intC (cmpI x y)):=by
 refine Ok.enter func100 J _ ntmps100 J ?_
 intro S w;refine Qj 8 J (Qv (gT J) (isNaN_ok x) J (Qq 6 J (Qv (gT J) (isNaN_ok y) J (Qq 29 J (Qy J (fun h=> ?_) (fun h=> ?_))))))
 · refine Qj 6 J ?_;rw [cmpI_eq,if_pos h];refine Qw J J
 · refine Qj 10 J (Qy J (fun h2=> ?_) (fun h2=> ?_))
   · refine Qj 6 J ?_;rw [cmpI_eq,if_neg h,if_pos h2];refine Qw J J
   · refine Qj 8 J ?_;rw [cmpI_eq,if_neg h,if_neg h2];refine Qw J J
theorem Compare_ok(a b:Nat)(ha:(limbs a).length<4611686018427387904)(hb:(limbs b).length<4611686018427387904):Ok prog 195 [natC a,natC b] (intC (cmpI a b)):=by
 refine Ok.enter func195 J _ ntmps195 J ?_
 intro S w;refine Qj 9 J (QV sNat.und J (Qq 1 J (QV sNat.und J (Qv (gT J) (cmp_ok _ _) J (Qq 9 J (Qy J (fun h=> ?_) (fun h=> ?_)))))))
 · refine Qj 7 J ?_
   have e:cmpI ((limbs a).length:Int) ((limbs b).length:Int)=cmpI (a:Int) (b:Int):=by
    rcases Nat.lt_trichotomy (limbs a).length (limbs b).length with h1|h1|h1
    · have:=lt_of_len h1;rw [cmpI_eq,cmpI_eq,if_pos (by omega),if_pos (by omega)]
    · rw [h1] at h;simp [cmpI] at h
    · have:=lt_of_len h1;rw [cmpI_eq,cmpI_eq,if_neg (by omega),if_pos (by omega),if_neg (by omega),if_pos (by omega)]
   rw [e];refine Qw J J
 · have hl:(limbs a).length=(limbs b).length:=by
    simp only [ne_eq,Classical.not_not] at h;unfold cmpI at h;split at h
    · cases h
    · split at h
      · cases h
      · omega
   clear h;refine Qj 6 J (QV sNat.und J (QZ 5 J (by omega) ?_))
   refine QY (α:=Nat) (fun k=>k<=(limbs a).length/\ pre (limbs a) k - pre (limbs b) k=(a:Int) - b)
    (fun k=>[(0, .ct (natC a)),(1, .ct (natC b)),(6, .ct (intC ((k:Int) - 1)))]) (fun _=>[]) (fun k=>k) (limbs a).length ⟨Nat.le_refl _,?_⟩ (by exact Qx J) ?_
   · have e1:=Y9 a;have e2:=Y9 b;rw [<- hl] at e2;rw [e1,e2]
   intro k ⟨hk,hv⟩;dsimp only;refine Qj 7 J (Qy J (fun h=> ?_) (fun h=> ?_))
   · obtain ⟨q,rfl⟩:∃q,k=q+1:=⟨k - 1,by omega⟩
     have e1:(((q+1:Nat):Int) - 1)=(q:Int):=by omega
     have e2:(q:Int).toNat=q:=Int.toNat_natCast q;rw [e1];refine Qj 5 J (XY 9 0x80082723060504020100 J ?_);refine Qq 2 J (Q8 0 sNat J (by omega) ?_);refine Qq 2 J (Q8 0 sNat J (by omega) ?_);refine Qq 5 J (Qy J (fun h2=> ?_) (fun h2=> ?_))
     · refine Qj 1 J (XY 10 0x8009482723060504020100 J ?_);refine Qq 2 J (Q8 0 sNat J (by omega) ?_);refine Qq 2 J (Q8 0 sNat J (by omega) ?_);refine Qq 2 J (Qv (gT J) (cmp_ok _ _) J ?_);rw [e2] at h2 ⊢
       have e:cmpI ((limbs a).getD q 0) ((limbs b).getD q 0)=cmpI (a:Int) (b:Int):=by
        rcases Int.lt_or_gt_of_ne h2 with h3|h3
        · have:=pre_decides (Qr a) (Qr b) h3;rw [cmpI_eq,cmpI_eq,if_pos h3,if_pos (by omega)]
        · have:=pre_decides (Qr b) (Qr a) h3;rw [cmpI_eq,cmpI_eq,if_neg (by omega),if_pos h3,if_neg (by omega),if_pos (by omega)]
       rw [e];refine Qq 4 J ?_;refine Qw J J
     · rw [e2] at h2;refine Xz 8 J (by omega) ?_;refine Qk q (by omega) ⟨by omega,?_⟩ (by exact Qx J);rw [XQ,XQ] at hv;have:(limbs a).getD q 0=(limbs b).getD q 0:=Classical.not_not.1 h2;rw [this] at hv;omega
   · refine Qj 8 J ?_
     have hk0:k=0:=by omega
     subst hk0;rw [ZQ,ZQ] at hv;rw [cmpI_eq,if_neg (by omega),if_neg (by omega)];refine Qw J J
theorem From_ok(n:Nat)(hn:n<9223372036854775808):Ok prog 193 [intC n] (.tup [natC n,intC 0]):=by
 refine Ok.enter func193 J _ ntmps193 J ?_
 intro S w;refine Qj 23 J (Xo 4 0 3 1 J J J ?_)
 refine QY (α:=Nat × List Int) (fun s=>s.1<=n/\ limbs n=s.2++limbs s.1)
  (fun s=>[(0, .ct (intC s.1)),(4, .own 0)]) (fun s=>[(0, .row 3 1 (ints s.2))]) (fun s=>s.1) (n,[]) ⟨Nat.le_refl _,rfl⟩ (by exact Qx J) ?_
 rintro ⟨m,zs⟩ ⟨hm,hv⟩
 dsimp only at hm hv ⊢
 have hl:zs.length<=64:=by
  have h1:=congrArg List.length hv;have h2:=Q6 (n:=n) (k:=3) (by omega);simp at h1;omega
 refine Qj 7 J (Qy J (fun h=> ?_) (fun h=> ?_))
 · refine Qj 7 J (Qh iand30 J J J J (Qo J J sNat J J J (QJ zs.length (ints (zs++ [(m:Int)%1073741824])) J J J J sNat (by simp) J (by omega) (by omega) (by simp [ints]) J ?_)));refine Qq 5 J (Qh ishr30 J J J J (Qq 3 J (Qk (m/1073741824,zs++ [(m:Int)%1073741824]) (by dsimp only;omega) ⟨by dsimp only;omega,?_⟩ ?_)))
   all_goals dsimp only
   · rw [hv,limbs_pos (n:=m) (by omega)];simp
   · exact QW J ⟨by rw [Int.natCast_ediv];rfl,rfl,trivial⟩
 · have:m=0:=by omega
   subst this;rw [limbs_zero,List.append_nil] at hv;subst hv;refine X6 0 _ J (X2 _ _) noBor_sub (Qj 10 J ?_);refine Qw J J
end Go.Proofs.YtfimckpnnbibcaaGreat
