/- The proof that DelayNarrows holds for every input, without conditions: part 2 of 7. -/
import Derived.Test.YtojkdfilabmafaaGreatZ1
import Derived.Test.YtojkdfilabmafaaGreatProg
import Derived.KernelRfl
import Derived.Shelf.SlSortCmp.NoneTotal
import Derived.Shelf.SlLaysF0
namespace Go.Own
open Go.RowKit
variable {X : Ctx} {L : AL} {B : BL} {ops : Array Oper} {K : Act → World → Prop} {r : Pl} {k : Kd}
  {x y z : Operand} {d : Nat} {t t2 t' : TypeId} {pos : String} {af : Array Edge} {g : Option (Nat × Bool)}
theorem run_append_grow_zeros{P:Program}(w:World)(t tn ty e:TypeId)(i:TypeInfo)(z:Value)(k kn:IntKind)(ht:P.underlying t=some (.slice e))(htn:P.underlying tn=some (.int kn))(hi:P.info? e=some i)(hz:i.zero=some z)
    (b:Addr) (sLen sCap:Nat) (olds:List Value) (hlo:olds.length=sLen*i.size) (holds:∀j v,olds[j]? =some v→w.cell? (b.add j)=some v)
    (n:Nat) (h0:0<n) (hs:0<i.size) (hg:sCap<sLen+n) (h63:((sLen+n:Nat):Int)≤9223372036854775807) (h48:n*i.bytes≤281474976710656) (hfit:Builtin.nextslicecap (sLen+n) sCap*i.bytes≤281474976710656):
    (Builtin.append_ #[t,tn] ty #[.slice (some b) sLen sCap, .int k n]).run P w=
      .ok (.slice (some ⟨w.heap.size,0,none⟩) (sLen+n) (grownCap w (sLen+n) sCap e)) (w.drew.alloc (.cells (olds.toArray++Builtin.zeroCells z.cells n++Builtin.zeroCells z.cells (grownCap w (sLen+n) sCap e - (sLen+n))) e)):=by
  have hw:IntKind.i64.wrap (n:Int)=n:=by rw [IntKind.wrap_i64];omega
  have hn:¬(sLen+n≤sCap):=by omega
  have h63' :¬(9223372036854775807<((sLen:Int)+(n:Int))):=by omega
  have h48' :¬(281474976710656<Builtin.nextslicecap (sLen+n) sCap*i.bytes):=by omega
  have h48i:¬(281474976710656<(n:Int)*(i.bytes:Int)):=by
    rw [←Int.natCast_mul];omega
  have hneg:¬((n:Int)<0):=by omega
  have hns:¬(n*i.size=0):=Nat.mul_ne_zero (by omega) (by omega);have hfo:=run_firstCells_some (P:=P) w.drew i.size sLen b sLen sCap olds hlo (by simpa using holds);simp [Builtin.append_,run_underlying ht,run_underlying htn,sizeOf,typeInfo,zeroValue,hi,hz,asInt,asIntOf,hw,hn,hneg,hns,h63',h48',h48i,Question.forced,hfo,newRow,grownCap]
theorem Ops.appZK{el n bytes gb m c i tn:Nat}{zv:Value}{kk:IntKind}{j:Int}{cs:List CT}(e b q:Nat)(hg:gd ops L g=some true)(hx:ev L x=some (.ct (.ex (kh gb 0 i c))))(hy:ev L y=some (.ct (.ex (.int .i64 j))))(hj:j=(q:Int))(hi:bget B e=some (.rowx (kh gb 0 m c) el n cs))(hl:cs.length=m*n)
    (him:i≤m) (hq:0<q) (hc:c<i+q) (hT:SlcT X.P t el n bytes zv) (htn:X.P.underlying tn=some (.int kk)) (hb:(i+q)*bytes≤140737488355328) (hmx:i+q≤140737488355328) (hN:noN b L=true) (hB:bget B b=none) (hn:Nat.blt d X.n=true)
    (h:Ops X ops r ((d, .own b)::L) ((b, .row el n (cs.take (i*n)++zinit zv q))::B) K):Ops X ops (.cons ⟨some d, .call {callee:= .builtin .append,args:= #[x,y],argTypes:= #[t,tn]},t',pos,af,g⟩ .any r) L B K:=
  Ops.mkE (k:= .any) rfl hg rfl hn hN hB (fun a ρ w hI=>by
    obtain ⟨hρ,vs,cur,hcl,hlv,hgb,hmc,hcm,hcz,htk⟩:=hI.rowK hi hl hT.pos
    obtain ⟨nf,i1,i2,i3,i4⟩:=hT.inf
    have hin:i*n≤m*n:=Nat.mul_le_mul_right _ him
    have hbq:q*bytes≤(i+q)*bytes:=Nat.mul_le_mul_right _ (by omega)
    have hol:(vs.take (i*n)).length=i*n:=by rw [List.length_take,hlv];omega
    have holds:∀p u,(vs.take (i*n))[p]? =some u→w.cell? ((⟨gb,0,none⟩:Addr).add p)=some u:=fun p u hu=>by
      have:=take_cells (vs:=vs) (q:=i*n) (o:=0) (by rw [hlv];exact htk) hgb p u (by simpa using hu)
      exact this
    have hr:=run_append_grow_zeros (P:=X.P) w t tn t' el nf zv .i64 kk hT.und htn i1 i4 ⟨gb,0,none⟩ i c (vs.take (i*n)) (by rw [i2];exact hol) holds q hq (by rw [i2];exact hT.pos) hc (by omega) (by rw [i3];omega) (by rw [i3];exact growslice_fits hc hb)
    refine ⟨_,_,Zv (args:=[x,y]) (fun _=>by
      simp only [List.map_cons,List.map_nil,hI.evx hx,hI.evx hy,hj]
      exact Xb hr),((Below.refl _ _).drew).alloc (Nat.le_refl _) _,fun g hg=> ?_,fun S' hk=>⟨i+q,vs.take (i*n)++(List.replicate q zv.cells.toList).flatten,?_,?_⟩⟩
    · injection hg with hg;subst hg;exact Nat.le_refl _
    · have hge:=grownCap_ge w (i+q) c el
      have hlen:∀q,(List.replicate q zv.cells.toList).flatten.length=q*n:=fun q=>by
        rw [Xm (k:=n) (fun e he=>by rw [List.eq_of_mem_replicate he];simpa using hT.zs)];simp
      refine ⟨by rw [List.length_append,hol,hlen,Nat.add_mul], .inr ⟨w.heap.size,grownCap w (i+q) c el,_,rfl,Nat.zero_le _,heap_alloc_new w.drew _,hge,grownCap_le_maxLen w (i+q) c el (by simp only [maxLen];omega),?_,?_⟩⟩
      · rw [←Array.length_toList,Array.toList_append,Array.toList_append,zero_flat,zero_flat,List.length_append,List.length_append,hlen,hlen,List.toList_toArray,hol,←Nat.add_mul,←Nat.add_mul];congr 1;omega
      · rw [Array.toList_append,Array.toList_append,zero_flat,List.toList_toArray]
        have:(vs.take (i*n)++(List.replicate q zv.cells.toList).flatten).length=(i+q)*n:=by rw [List.length_append,hol,hlen,Nat.add_mul]
        rw [←this];exact List.take_left
    · have h1:=(hcl.take (i*n)).append (Zf (S:=Sof X B ρ) (w:=w) (List.replicate q zv.cells.toList).flatten)
      rw [zinit_map]
      exact h1.mono hk) h
theorem Ops.copyG{el n bytes gb m c o dl dc:Nat}{zv:Value}{cs:List CT}(e lo q:Nat)(ds cs' :List CT)(hg:gd ops L g=some true)(hx:ev L x=some (.ct (.ex (kh gb o dl dc))))(ho:o=lo*n)(hi:bget B e=some (.rowx (kh gb 0 m c) el n cs))(hl:cs.length=m*n)(hq:q≤dl)(hlo:lo+q≤m)(hT:SlcT X.P t el n bytes zv)
    (hy:∀a ρ w,Is X L B a ρ w→∃A cc us,a.eval y= .slice (some A) q cc∧us.length=q*n∧cells (Sof X B ρ) w ds us∧∀j u,us[j]? =some u→w.cell? (A.add j)=some u) (hone:ones ds=true) (hcs:cs' =spl cs (lo*n) ds) (hn:Nat.blt d X.n=true)
    (h:Ops X ops r ((d, .any)::L) (bset B e (.rowx (kh gb 0 m c) el n cs')) K):Ops X ops (.cons ⟨some d, .call {callee:= .builtin .copy,args:= #[x,y],argTypes:= #[t,t2]},t',pos,af,g⟩ .any r) L B K:=fun a ρ w hI=>by
  show wpO _ _ _ _ _ _
  unfold wpO
  rw [if_pos (Zw (o:=⟨some d,_,t',pos,af,g⟩) hI hg)]
  obtain ⟨hρ,vs,cur,hc,hlv,hgb,hmc,hcm,hcz,htk⟩:=hI.rowK hi hl hT.pos
  obtain ⟨nf,i1,i2,i3,i4⟩:=hT.inf
  obtain ⟨A,cc,us,hA,hul,huc,hum⟩:=hy a ρ w hI
  have hcl:cur.toList.length=c*n:=by simpa using hcz
  have hmn:(lo+q)*n≤m*n:=Nat.mul_le_mul_right _ hlo
  have hcn:m*n≤c*n:=Nat.mul_le_mul_right _ hmc
  rw [Nat.add_mul] at hmn
  have hds:ds.length=q*n:=by rw [←huc.length,hul]
  have hones:∀u∈us,u.oneCell' =true:=ones_cells hone huc
  have hload:(loadCells A (q*n)).run X.P w= .ok us.toArray w:=by
    have:=run_loadCells_list (P:=X.P) w A us hum
    rwa [hul] at this
  have hstore:(storeCells ⟨gb,lo*n,none⟩ us).run X.P w= .ok () (w.setRow gb (cur.toList.take (lo*n)++us++cur.toList.drop (lo*n+us.length)).toArray):=by
    have:=run_storeCells_at (P:=X.P) gb (lo*n) el us 0 cur w hgb (by rw [hul,←Array.length_toList,hcl];omega) hones
    simpa using this
  have hrun:(execOp a.eval ⟨some d, .call {callee:= .builtin .copy,args:= #[x,y],argTypes:= #[t,t2]},t',pos,af,g⟩).run X.P w= .ok (.value (goInt q)) (w.setRow gb (cur.toList.take (lo*n)++us++cur.toList.drop (lo*n+us.length)).toArray):=
    Zv (args:=[x,y]) (fun _=>by
      simp only [List.map_cons,List.map_nil,hI.evx hx,hA]
      refine Xb ?_
      have hmin:Nat.min q dl=q:=Nat.min_eq_left hq
      simp [Builtin.copy_,run_underlying hT.und,Builtin.lenOf,hmin,Zx i1,i2,Builtin.firstCells,hload,hstore,ho])
  unfold Oper.wp;rw [hrun];show wpX _ _ _ _ (a.put (some d) (goInt q)) _
  have hW:=Is.write (i:=e) (v:=ρ e) (e' :=(Ent.rowx (kh gb 0 m c) el n cs).putc (lo*n) ds) (w' :=w.setRow gb (cur.toList.take (lo*n)++us++cur.toList.drop (lo*n+us.length)).toArray) hI hi J J J (by simp)
    (fun p hp hne=>setRow_other _ _ _ _ (fun e=>hne (by rw [e,hρ];rfl))) (.inl J) (fun S' hk=>Ent.put_ok (hI.ent e _ hi).1 (by rw [hρ];rfl) hgb huc (by rw [hds];show _≤cs.length;rw [hl];omega) hk) (.inl J) (.inr J)
  have hpc:(Ent.rowx (kh gb 0 m c) el n cs).putc (lo*n) ds= .rowx (kh gb 0 m c) el n cs' :=by rw [hcs];rfl
  rw [hpc] at hW;exact h _ _ _ ((hW.bext (Xf hi)).put (s:= .any) (Xg hn) trivial)
theorem src_fr{n:Nat}{es:List (List CT)}(hy:ev L y=some (.ct (.fr (sliceT n es))))(hne:es≠ []):∀a ρ w,Is X L B a ρ w→∃A cc us,a.eval y= .slice (some A) es.length cc∧us.length=es.length*n∧cells (Sof X B ρ) w es.flatten us∧∀j u,us[j]? =some u→w.cell? (A.add j)=some u:=fun a ρ w hI=>by
  obtain ⟨A,c,h1,h2,h3,h4,h5⟩:=hI.ev hy
  obtain ⟨b,o,rfl,hS,hb,us,hc,hm⟩:=h5 hne
  exact ⟨_,c,us,h1,by rw [hc.length,Xm h4],hc,fun j u hu=>by rw [YU];exact hm j u hu⟩
theorem src_kh{gb m c o q qc el n bytes tt:Nat}{zv:Value}{cs:List CT}(e lo:Nat)(hy:ev L y=some (.ct (.ex (kh gb o q qc))))(ho:o=lo*n)(hi:bget B e=some (.rowx (kh gb 0 m c) el n cs))(hl:cs.length=m*n)(hlo:lo+q≤m)(hT:SlcT X.P tt el n bytes zv):
    ∀a ρ w,Is X L B a ρ w→∃A cc us,a.eval y= .slice (some A) q cc∧us.length=q*n∧cells (Sof X B ρ) w ((cs.drop (lo*n)).take (q*n)) us∧∀j u,us[j]? =some u→w.cell? (A.add j)=some u:=fun a ρ w hI=>by
  obtain ⟨hρ,vs,cur,hc,hlv,hgb,hmc,hcm,hcz,htk⟩:=hI.rowK hi hl hT.pos
  have hmn:(lo+q)*n≤m*n:=Nat.mul_le_mul_right _ hlo
  rw [Nat.add_mul] at hmn
  refine ⟨⟨gb,o,none⟩,qc,(vs.drop (lo*n)).take (q*n),hI.evx hy,by rw [List.length_take,List.length_drop,hlv];omega,(hc.drop _).take _,fun j u hu=> ?_⟩
  rw [ho]
  exact take_cells (by rw [hlv];exact htk) hgb j u hu
theorem Ops.callRO{f:FuncId}{args:List Operand}{tys:Array TypeId}{As:List CT}{u:Value}(i:Nat){e:Ent}(hgo:InGo X.P f)(hok:Ok X.P f As (.ex u))(hg:gd ops L g=some true)(hi:bget B i=some e)(hargs:∀a ρ w,Is X L B a ρ w→cells (Sof X (bdel B i) ρ) w As (args.map a.eval))(hk:k.mk=true)(hn:Nat.blt d X.n=true)
    (h:Ops X ops r ((d, .ct (.ex u))::L) B K):Ops X ops (.cons ⟨some d, .call {callee:= .value (.func f),args:=args.toArray,argTypes:=tys},t,pos,af,g⟩ k r) L B K:=fun a ρ w hI=>by
  refine wpX_makes k hk ?_
  unfold wpO
  rw [if_pos (Zw (o:=⟨some d,_,t,pos,af,g⟩) hI hg)]
  unfold Oper.wp
  have hrun:(execOp a.eval ⟨some d, .call {callee:= .value (.func f),args:=args.toArray,argTypes:=tys},t,pos,af,g⟩).run X.P w= .ok (.enter f (args.map a.eval).toArray) w:=by
    show (do let D ←resolve a.eval {callee:= .value (.func f),args:=args.toArray,argTypes:=tys} t;invoke D.target D.args:Sem Next).run X.P w=_;have hf:a.eval (.func f)= .func (.func f) #[] #[]:=rfl;simp only [resolve,hf,Deferred.ofValue,Sem.run_bind,Sem.run_pure,Result.andThen_ok,invoke];rw [hgo]
    congr 2
    simp
  rw [hrun]
  have hfr:∀k,w.heap.size≤k→Sof X (bdel B i) ρ k:=fun k hk=>⟨(hI.freshS k hk).1,fun j e' hj=>by
    by_cases hji:j=i
    · subst hji;rw [Zj] at hj;cases hj
    · rw [XK _ hji] at hj;exact (hI.freshS k hk).2 j e' hj⟩
  refine Calls.mono (hok (Sof X (bdel B i) ρ) w _ hfr (hargs a ρ w hI)) ?_
  rintro e w' ⟨v,rfl,hv,hb⟩
  exact ⟨hb,h _ ρ w' ((hI.below hb).put (s:= .ct (.ex u)) (Xg hn) hv)⟩
theorem Sof_del{ρ:Nat→Value}{w:World}(i:Nat):Kp (Sof X B ρ) (Sof X (bdel B i) ρ) w w:=⟨Nat.le_refl _,fun k _ hs=>⟨⟨hs.1,fun j e hj=>by
    by_cases hji:j=i
    · subst hji;rw [Zj] at hj;cases hj
    · rw [XK _ hji] at hj;exact hs.2 j e hj⟩,rfl⟩⟩
theorem Is.readX{a:Act}{ρ:Nat→Value}{w:World}(hI:Is X L B a ρ w){i el n:Nat}{v:Value}{es:List (List CT)}(hi:bget B i=some (.rowx v el n es.flatten))(hk:∀e∈es,e.length=n)(hp:0<n)(hbor:∀gb,X.bor gb→X.S0 gb):(CT.fr (sliceT n es)).p (Sof X (bdel B i) ρ) w v:=by
  have h:=(hI.ent i _ hi).1;have:=hI.frozen_val (e2:= .row el n es.flatten) (T:=sliceT n es) hi ⟨es,rfl,hk,hp,rfl⟩ h.2 (fun g _ hb=>hbor g hb);rw [h.1] at this;exact this
theorem Is.readK{a:Act}{ρ:Nat→Value}{w:World}(hI:Is X L B a ρ w){i el n gb m c:Nat}{es:List (List CT)}(q:Nat)(hi:bget B i=some (.rowx (kh gb 0 m c) el n es.flatten))(hm:es.length=m)(hk:∀e∈es,e.length=n)(hp:0<n)(hq:q≤m)(hm0:0<m)(hbor:∀gb,X.bor gb→X.S0 gb):(CT.fr (sliceT n (es.take q))).p (Sof X (bdel B i) ρ) w (kh gb 0 q c):=by
  obtain ⟨A,cc,h1,h2,h3,h4,h5⟩:=hI.readX hi hk hp hbor
  injection h1 with e1 e2 e3
  subst e3;obtain ⟨b,o,h6,h7⟩:=h5 (fun h=>by rw [h] at hm;simp at hm;omega);rw [h6] at e1
  injection e1 with e1
  injection e1 with e1 e4
  subst e1;subst e4;refine ⟨some ⟨gb,0,none⟩,c,by rw [List.length_take,Nat.min_eq_left (by omega)],by rw [List.length_take];omega,h3,fun e he=>hk e (List.mem_of_mem_take he),fun _=>⟨gb,0,rfl,?_⟩⟩;have:=cut_memAt h7 hk 0 q
  simpa using this
def Sl.ren (a : Nat) : Sl → Sl
  | .own _ => .own a
  | s => s
theorem OkM.nm {P : Program} {f : FuncId} {As : List CT} {e : Ent} {α : Type} {J : α → Prop} {R : α → Sl} {k : Nat} {e' : α → Ent} (a : Nat) (h : OkM P f (As.map Sl.ct) [(0, e)] [] J R (fun q => [(k, e' q)])) (hR : ∀ q, J q → (∃ c, R q = .ct c) ∨ R q = .own k) :
    OkM P f (As.map Sl.ct) [(a, e)] [] J (fun q => (R q).ren a) (fun q => [(a, e' q)]) := by
  intro S w ρ vs hS hSe hH hsl
  have g1 : ∀ {α' : Type} (c : Nat) (x : Ent) (i : Nat) (y : Ent), bget [(c, x)] i = some y ↔ i = c ∧ y = x := fun c x i y => by
    by_cases hc : c = i
    · subst hc; rw [Qd]; constructor
      · intro h; injection h with h; exact ⟨rfl, h.symm⟩
      · rintro ⟨_, rfl⟩; rfl
    · rw [QU _ _ hc]; constructor
      · intro h; cases h
      · rintro ⟨h, _⟩; exact absurd h.symm hc
  have g := @g1 Unit
  have hSn : Sn S [(0, e)] (fun _ => ρ a) = Sn S [(a, e)] ρ := by
    funext k
    refine propext ⟨fun h => ⟨h.1, fun i x hi => ?_⟩, fun h => ⟨h.1, fun i x hi => ?_⟩⟩
    · obtain ⟨rfl, rfl⟩ := (g a e i x).1 hi; exact h.2 0 _ ((g 0 _ 0 _).2 ⟨rfl, rfl⟩)
    · obtain ⟨rfl, rfl⟩ := (g 0 e i x).1 hi; exact h.2 a _ ((g a _ a _).2 ⟨rfl, rfl⟩)
  have hslots : ∀ (As : List CT) (vs : List Value) (ρ' : Nat → Value), slots (Sn S [(a, e)] ρ) ρ w (As.map Sl.ct) vs → slots (Sn S [(a, e)] ρ) ρ' w (As.map Sl.ct) vs := by
    intro As
    induction As with
    | nil =>
      intro vs ρ' h
      cases vs with
      | nil => trivial
      | cons v vs => exact h.elim
    | cons c As ih =>
      intro vs ρ' h
      cases vs with
      | nil => exact h.elim
      | cons v vs => exact ⟨h.1, ih vs ρ' h.2⟩
  refine Calls.mono (h S w (fun _ => ρ a) vs hS (fun i x hi gb hgb => hSe a e ((g a _ a _).2 ⟨rfl, rfl⟩) gb hgb) ⟨fun i x hi => ?_, fun i j x x' hi hj hij => ?_⟩ (by rw [hSn]; exact hslots As vs _ hsl)) ?_
  · obtain ⟨rfl, rfl⟩ := (g 0 e i x).1 hi; rw [hSn]; exact hH.ent a _ ((g a _ a _).2 ⟨rfl, rfl⟩)
  · obtain ⟨rfl, rfl⟩ := (g 0 e i x).1 hi; obtain ⟨rfl, rfl⟩ := (g 0 _ j x').1 hj; exact absurd Y hij
  · rintro en w' ⟨v, q, ρ', rfl, hJ, hv, hH', hfx, hnew, hF⟩
    have hSn2 : Sn S [(a, e' q)] (fun _ => ρ' k) = Sn S [(k, e' q)] ρ' := by
      funext b
      refine propext ⟨fun h => ⟨h.1, fun i x hi => ?_⟩, fun h => ⟨h.1, fun i x hi => ?_⟩⟩
      · obtain ⟨rfl, rfl⟩ := (g k _ i x).1 hi; exact h.2 a _ ((g a _ a _).2 ⟨rfl, rfl⟩)
      · obtain ⟨rfl, rfl⟩ := (g a _ i x).1 hi; exact h.2 k _ ((g k _ k _).2 ⟨rfl, rfl⟩)
    refine ⟨v, q, fun _ => ρ' k, rfl, hJ, ?_, ⟨fun i x hi => ?_, fun i j x x' hi hj hij => ?_⟩, fun i hi => absurd hi (by simp), fun i x hi gb hgb => ?_, ?_⟩
    · show Sl.p (Sn S [(a, e' q)] (fun _ => ρ' k)) (fun _ => ρ' k) w' ((R q).ren a) v; rw [hSn2]; rcases hR q hJ with ⟨c, hc⟩ | hc
      · rw [hc] at hv ⊢; exact hv
      · rw [hc] at hv ⊢; exact hv
    · obtain ⟨rfl, rfl⟩ := (g a _ i x).1 hi; rw [hSn2]; exact hH'.ent k _ ((g k _ k _).2 ⟨rfl, rfl⟩)
    · obtain ⟨rfl, rfl⟩ := (g a _ i x).1 hi; obtain ⟨rfl, rfl⟩ := (g _ _ j x').1 hj; exact absurd Y hij
    · obtain ⟨rfl, rfl⟩ := (g a _ i x).1 hi; rcases hnew k _ ((g k _ k _).2 ⟨rfl, rfl⟩) gb hgb with h1 | ⟨j, f', h1, h2⟩
      · exact .inl h1
      · exact .inr ⟨i, e, (g i _ i _).2 ⟨rfl, rfl⟩, h2⟩
    · have hb : (fun kk => ∃ j f', bget [(0, e)] j = some f' ∧ blk ((fun _ => ρ a) j) = some kk) = fun kk => ∃ j f', bget [(a, e)] j = some f' ∧ blk (ρ j) = some kk := by
        funext kk
        refine propext ⟨fun ⟨j, f', h1, h2⟩ => ⟨a, e, (g a _ a _).2 ⟨rfl, rfl⟩, h2⟩, fun ⟨j, f', h1, h2⟩ => ?_⟩; obtain ⟨rfl, rfl⟩ := (g a _ j f').1 h1; exact ⟨0, _, (g 0 _ 0 _).2 ⟨rfl, rfl⟩, h2⟩
      rw [hb] at hF; exact hF
theorem St.factI{c:Code}{Q:Exit→Act→World→Prop}(p:Prop)(hp:∀a ρ w,Is X L B a ρ w→p)(h:p→St X L B c Q):St X L B c Q:=fun a ρ w hI=>h (hp a ρ w hI) a ρ w hI
def notN (a j : Nat) : Bool := !Nat.beq a j
theorem Ops.call1{f:FuncId}{args:List Operand}{tys:Array TypeId}{As:List CT}{e:Ent}{α:Type}{J:α→Prop}{R:α→Sl}{e' :α→Ent}(a:Nat)(hgo:InGo X.P f)(hok:OkM X.P f (As.map Sl.ct) [(a,e)] [] J R (fun q=>[(a,e' q)]))(hg:gd ops L g=some true)(hargs:evS L args=some (As.map Sl.ct))(hn:Nat.blt d X.n=true)
    (hbor:∀gb,X.bor gb→X.S0 gb) (hi:bget B a=some e) (hfix:∀p∈X.fix,p.1≠a∧(bget B p.1).isSome=true) (hR:∀q j,(R q= .own j∨∃o,R q= .loc j o)→j=a)
    (h:∀q,J q→Ops X ops r ((d,R q)::keepL (notN a) L) ((a,e' q)::bdel B a) K):Ops X ops (.cons ⟨some d, .call {callee:= .value (.func f),args:=args.toArray,argTypes:=tys},t,pos,af,g⟩ .any r) L B K:=by
  refine Ops.callM (bdel B a) (notN a) hgo hok hg hargs hn hbor (fun j=> ?_) (fun j hj=> ?_) (fun j hj=> ?_) (fun p hp=> ?_) (fun q j hq=> ?_) h
  · show _=bget ((a,e)::bdel B a) j;by_cases hja:a=j
    · subst hja;rw [Qd];exact hi
    · rw [QU _ _ hja,XK _ (Ne.symm hja)]
  · have hja:a≠j:=fun he=>by subst he;rw [Zj] at hj;cases hj
    exact ⟨by rw [QU _ _ hja];rfl,fun q=>by rw [QU _ _ hja];rfl⟩
  · have hja:a≠j:=fun he=>by subst he;simp [notN] at hj
    exact .inr fun q=>by rw [QU _ _ hja];rfl
  · have:=hfix p hp;exact .inl (by rw [XK _ this.1];exact this.2)
  · rw [hR q j hq,Qd];rfl
end Go.Own
namespace Go.Own
variable {P : Program} {n : Nat} {S : BSet} {w0 : World} {B0 : BL} {fx : List Nat} {ρ0 : Nat → Value} {α : Type} {J : α → Prop} {R : α → Sl} {B1 : α → BL} {L : AL} {B : BL}
theorem Is.dropsB{X:Ctx}{a:Act}{ρ:Nat→Value}{w:World}{v:Value}{c:CT}:∀(ds:List Nat) {B:BL},(ds.all fun i=>noFix X i)=true→Is X L B a ρ w→c.p (Sof X B ρ) w v→Is X L (ds.foldl bdel B) a ρ w∧c.p (Sof X (ds.foldl bdel B) ρ) w v
  | [],_,_,h,hv=>⟨h,hv⟩
  |i::ds,B,hf,h,hv=>by
    rw [List.all_cons,Bool.and_eq_true] at hf
    exact Is.dropsB ds hf.2 (h.dropB i hf.1) (CT.mono (Sof_del i) hv)
theorem Fin.retMCG{fn:Func}{cs:List CT}{rv:List ResultVar}(ds:List Nat)(q:α)(hfn:fn.results=rv.toArray)(hr:AllRes (lentM P n S w0 B0 fx ρ0) L B rv cs)(hR:R q= .ct (retC cs))(hf:(ds.all fun i=>noFix (lentM P n S w0 B0 fx ρ0) i)=true)(hB:∀j,bget (B1 q) j=bget (ds.foldl bdel B) j)(hJ:J q):
    ∀a ρ w,Is (lentM P n S w0 B0 fx ρ0) L B a ρ w→a.defers=[]∧∃v,(results fn a.tmps).run P w= .ok v w∧Own.postM S w0 ρ0 B0 fx J R B1 (.returned v) w:=fun a ρ w hI=>by
  obtain ⟨v,h1,h2⟩:=results_run hfn hr hI
  obtain ⟨h3,h4⟩:=Is.dropsB ds hf hI h2
  exact ⟨hI.defers,v,h1,h3.postM q hB hJ (by rw [hR];exact h4)⟩
theorem Fin.retMC{fn:Func}{cs:List CT}(ds:List Nat)(q:α)(rv:List ResultVar)(hfn:fn.results=rv.toArray)(hr:AllRes (lentM P n S w0 B0 fx ρ0) L B rv cs)(hR:R q= .ct (retC cs))(hf:(ds.all fun i=>noFix (lentM P n S w0 B0 fx ρ0) i)=true)(hB:∀j,bget (B1 q) j=bget (ds.foldl bdel B) j)(hJ:J q):
    Fin (lentM P n S w0 B0 fx ρ0) L B (fun a w=>bodyPost P fn (Own.postM S w0 ρ0 B0 fx J R B1) .ret a w):=Fin.retMCG ds q hfn hr hR hf hB hJ
theorem Fin.endMC{fn:Func}{cs:List CT}(ds:List Nat)(q:α)(rv:List ResultVar)(hfn:fn.results=rv.toArray)(hr:AllRes (lentM P n S w0 B0 fx ρ0) L B rv cs)(hR:R q= .ct (retC cs))(hf:(ds.all fun i=>noFix (lentM P n S w0 B0 fx ρ0) i)=true)(hB:∀j,bget (B1 q) j=bget (ds.foldl bdel B) j)(hJ:J q):
    Fin (lentM P n S w0 B0 fx ρ0) L B (fun a w=>bodyPost P fn (Own.postM S w0 ρ0 B0 fx J R B1) .normal a w):=Fin.retMCG ds q hfn hr hR hf hB hJ
end Go.Own
namespace Go.Own
open Go.RowKit
variable {X : Ctx} {L : AL} {B : BL} {ops : Array Oper} {K : Act → World → Prop} {r : Pl} {k : Kd}
  {x y z : Operand} {d : Nat} {t t2 t' : TypeId} {pos : String} {af : Array Edge} {g : Option (Nat × Bool)}
abbrev Ctx.pin (X : Ctx) (i : Nat) (v : Value) : Ctx := { X with fix := (i, v) :: X.fix }
theorem Is.pin{a:Act}{ρ:Nat→Value}{w:World}(hI:Is X L B a ρ w){i:Nat}(hi:isBx (bget B i)=true):Is (X.pin i (ρ i)) L B a ρ w:=
  ⟨hI.size,hI.defers,hI.slot,hI.ent,hI.apart,hI.frame,hI.fresh,fun p hp=>by
    rcases List.mem_cons.1 hp with rfl|hp
    · exact ⟨hi,rfl⟩
    · exact hI.fixd p hp⟩
theorem Is.unpin{a:Act}{ρ:Nat→Value}{w:World}{i:Nat}{v:Value}(hI:Is (X.pin i v) L B a ρ w):Is X L B a ρ w:=
  ⟨hI.size,hI.defers,hI.slot,hI.ent,hI.apart,hI.frame,hI.fresh,fun p hp=>hI.fixd p (List.mem_cons_of_mem _ hp)⟩
theorem Is.box_one{a:Act}{ρ:Nat→Value}{w:World}(hI:Is X L B a ρ w){i:Nat}(hi:isBx (bget B i)=true):(ρ i).oneCell' =true:=by
  cases h:bget B i with
  |none=>rw [h] at hi;cases hi
  |some e=>
    rw [h] at hi
    cases e with
    |box t cs=>
      obtain ⟨g,vs,h1,_⟩:=(hI.ent i _ h).1;rw [h1];rfl
    |_=>cases hi
theorem Fin.unpin{i:Nat}{v:Value}(h:Fin X L B K):Fin (X.pin i v) L B K:=fun a ρ w hI=>h a ρ w hI.unpin
theorem Ops.pin{l:Pl}(i:Nat)(hi:isBx (bget B i)=true)(h:∀v:Value,v.oneCell' =true→Ops (X.pin i v) ops l L B K):Ops X ops l L B K:=fun a ρ w hI=>h (ρ i) (hI.box_one hi) a ρ w (hI.pin hi)
theorem St.pin{c:Code}{Q:Exit→Act→World→Prop}(i:Nat)(hi:isBx (bget B i)=true)(h:∀v:Value,v.oneCell' =true→St (X.pin i v) L B c Q):St X L B c Q:=fun a ρ w hI=>h (ρ i) (hI.box_one hi) a ρ w (hI.pin hi)
def fixG : List (Nat × Value) → Nat → Option Value
  | [], _ => none
  | (j, v) :: F, i => match Nat.beq j i with | true => some v | false => fixG F i
theorem fixG_mem:∀{F:List (Nat × Value)} {i:Nat} {v:Value},fixG F i=some v→(i,v)∈F
  | [],_,_,h=>by cases h
  |(j,u)::F,i,v,h=>by
    simp only [fixG] at h
    split at h
    · rename_i he
      injection h with h
      rw [Nat.eq_of_beq_eq_true he,h];exact List.mem_cons_self ..
    · exact List.mem_cons_of_mem _ (fixG_mem h)
theorem Is.fixG{a:Act}{ρ:Nat→Value}{w:World}(hI:Is X L B a ρ w){i:Nat}{v:Value}(h:Own.fixG X.fix i=some v):ρ i=v:=(hI.fixd _ (fixG_mem h)).2
theorem Fin.nameB(dd i:Nat){v:Value}(hd:look L dd=some (.own i))(hf:fixG X.fix i=some v)(h:Fin X ((dd, .ct (.ex v))::L) B K):Fin X L B K:=fun a ρ w hI=>by
  have h1:a.tmps.getD dd undef=ρ i:=hI.slot dd _ hd
  exact h a ρ w (hI.slotx (s:= .ct (.ex v)) (h1.trans (hI.fixG hf)))
theorem Ops.nameB{l:Pl}(dd i:Nat){v:Value}(hd:look L dd=some (.own i))(hf:fixG X.fix i=some v)(h:Ops X ops l ((dd, .ct (.ex v))::L) B K):Ops X ops l L B K:=Fin.nameB dd i hd hf h
theorem Fin.linkB(dd i:Nat){v v' :Value}(hd:look L dd=some (.ct (.ex v)))(hf:fixG X.fix i=some v')(hv:v' =v)(h:Fin X ((dd, .own i)::L) B K):Fin X L B K:=fun a ρ w hI=>by
  have h1:a.tmps.getD dd undef=v:=hI.slot dd _ hd
  exact h a ρ w (hI.slotx (s:= .own i) (h1.trans (hv.symm.trans (hI.fixG hf).symm)))
theorem Zd{l:Pl}(dd i:Nat){v v' :Value}(hd:look L dd=some (.ct (.ex v)))(hf:fixG X.fix i=some v')(hv:v' =v)(h:Ops X ops l ((dd, .own i)::L) B K):Ops X ops l L B K:=Fin.linkB dd i hd hf hv h
def OkMv (P : Program) (f : FuncId) (As : List Sl) (B0 : BL) (fv : List (Nat × Value)) {α : Type} (J : α → Prop) (R : α → Sl) (B1 : α → BL) : Prop :=
  ∀ (S : BSet) (w : World) (ρ : Nat → Value) (vs : List Value), (∀ k, w.heap.size ≤ k → S k) → (∀ i e, bget B0 i = some e → ∀ gb, blk (ρ i) = some gb → S gb) → Hp S B0 ρ w → (∀ p ∈ fv, ρ p.1 = p.2) → slots (Sn S B0 ρ) ρ w As vs →
    Calls P f vs.toArray w (postM S w ρ B0 (fv.map (·.1)) J R B1)
theorem OkMv.enter{P:Program}{f:FuncId}{fn:Func}{c:Code}{As:List Sl}{B0:BL}{fv:List (Nat × Value)}{α:Type}{J:α→Prop}{R:α→Sl}{B1:α→BL}(hf:P.funcs[f]? =some fn)(hb:fn.body=some c)(n:Nat)(hn:fn.ntmps=n)(ha:Nat.ble As.length n=true)(hfx:∀i∈fv.map (·.1),isBx (bget B0 i)=true)
    (h:∀S w ρ0,(∀gb,(lentM P n S w B0 (fv.map (·.1)) ρ0).bor gb→S gb)→(∀p∈fv,ρ0 p.1=p.2)→St (lentM P n S w B0 (fv.map (·.1)) ρ0) (argS 0 As) B0 c (bodyPost P fn (postM S w ρ0 B0 (fv.map (·.1)) J R B1))):OkMv P f As B0 fv J R B1:=by
  intro S w ρ vs hS hB hH hv hA;have hl:=hA.length;have hle:=Nat.le_of_ble_eq_true ha;refine calls_of_wp hf hb (h S w ρ (fun gb ⟨j,f,h1,h2⟩=>hB j f h1 gb h2) hv _ ρ w ?_);refine ⟨by simp [lentM,hn];omega,rfl,fun d s hd=> ?_,fun i e hi=>⟨hH.ent i e hi,fun gb hgb=> .inr ⟨i,e,hi,hgb⟩⟩,hH.apart,⟨rfl,rfl,rfl,Nat.le_refl _,fun _ _ _=>rfl,Nat.le_refl _⟩,hS,fun p hp=> ?_⟩
  · obtain ⟨v,h1,h2,h3⟩:=look_argS hA hd;have hlt:d - 0<vs.length:=(List.getElem?_eq_some_iff.1 h2).1
    have:(vs.toArray++Array.replicate (fn.ntmps - vs.toArray.size) undef).getD d undef=v:=by
      rw [Array.getD_eq_getD_getElem?,Array.getElem?_append_left (by simp;omega)];simp only [Nat.sub_zero] at h2;simp [h2]
    rw [this];exact h3
  · obtain ⟨i,hi,rfl⟩:=List.mem_map.1 hp;exact ⟨hfx i hi,rfl⟩
def fixGs (F : List (Nat × Value)) : List Nat → List Value → Bool
  | [], [] => true
  | i :: is, _ :: vs => (fixG F i).isSome && fixGs F is vs
  | _, _ => false
theorem slots_append{S:BSet}{ρ:Nat→Value}{w:World}:∀{ss ss' :List Sl} {vs vs' :List Value},slots S ρ w ss vs→slots S ρ w ss' vs'→slots S ρ w (ss++ss') (vs++vs')
  | [],_,[],_,_,h=>h
  |_::_,_,_::_,_,⟨a,b⟩,h=>⟨a,slots_append b h⟩
  | [],_,_::_,_,h,_=>h.elim
  |_::_,_,[],_,h,_=>h.elim
theorem slots_own{S:BSet}{ρ:Nat→Value}{w:World}:∀{is:List Nat} {vs:List Value},is.map ρ=vs→slots S ρ w (is.map Sl.own) vs
  | [],_,h=>by subst h;trivial
  |i::is,_,h=>by subst h;exact ⟨rfl,slots_own rfl⟩
theorem cells_exs{S:BSet}{w:World}:∀{cs vs:List Value},cells S w (cs.map CT.ex) vs→vs=cs
  | [],[],_=>rfl
  | [],_::_,h=>h.elim
  |_::_,[],h=>h.elim
  |c::cs,v::vs,⟨a,b⟩=>by rw [show v=c from a,cells_exs b]
theorem Ops.callCM{f:FuncId}{args:List Operand}{tys:Array TypeId}{As:List Sl}{cs:List Value}{B0:BL}{fv:List (Nat × Value)}{α:Type}{J:α→Prop}{R:α→Sl}{B1:α→BL}(is:List Nat)(C:BL)(kp:Nat→Bool)(hgo:InGo X.P f)(hok:OkMv X.P f (As++is.map Sl.own) B0 fv J R B1)
    (hx:ev L x=some (.ct (.fr (closT f (cs.map CT.ex))))) (hcap:is.map (fixG X.fix)=cs.map some) (hfv:∀p∈fv,fixG X.fix p.1=some p.2) (hg:gd ops L g=some true) (hargs:evS L args=some As) (hn:Nat.blt d X.n=true)
    (hbor:∀gb,X.bor gb→X.S0 gb) (hB:∀j,bget B j=bget (B0++C) j) (hC:∀j,(bget C j).isSome=true→bget B0 j=none∧∀q,bget (B1 q) j=none) (hkp:∀j,kp j=true→j∈fv.map (·.1)∨∀q,bget (B1 q) j=none) (hfix:∀p∈X.fix,(bget C p.1).isSome=true∨p.1∈fv.map (·.1))
    (hRk:∀q j,(R q= .own j∨∃o,R q= .loc j o)→(bget (B1 q) j).isSome=true)
    (h:∀q,J q→Ops X ops r ((d,R q)::keepL kp L) (B1 q++C) K):Ops X ops (.cons ⟨some d, .call {callee:= .value x,args:=args.toArray,argTypes:=tys},t,pos,af,g⟩ .any r) L B K:=fun a ρ w hI=>by
  show wpO _ _ _ _ _ _
  unfold wpO
  rw [if_pos (Zw (o:=⟨some d,_,t,pos,af,g⟩) hI hg)]
  unfold Oper.wp
  obtain ⟨us,hf,hus⟩:=hI.ev hx
  have hus:=cells_exs hus
  subst hus
  have hcs:is.map ρ=us:=by
    have:∀(is:List Nat) (us:List Value),is.map (fixG X.fix)=us.map some→is.map ρ=us:=by
      intro is
      induction is with
      |nil=>intro us hu;cases us with
        |nil=>rfl
        |cons u us=>cases hu
      |cons i is ih=>intro us hu;cases us with
        |nil=>cases hu
        |cons u us=>
          simp only [List.map_cons,List.cons.injEq] at hu ⊢;exact ⟨hI.fixG hu.1,ih us hu.2⟩
    exact this is us hcap
  have hrun:(execOp a.eval ⟨some d, .call {callee:= .value x,args:=args.toArray,argTypes:=tys},t,pos,af,g⟩).run X.P w= .ok (.enter f (args.map a.eval++us).toArray) w:=by
    show (do let D ←resolve a.eval {callee:= .value x,args:=args.toArray,argTypes:=tys} t;invoke D.target D.args:Sem Next).run X.P w=_;simp only [resolve,hf,Deferred.ofValue,Sem.run_bind,Sem.run_pure,Result.andThen_ok,invoke];rw [hgo]
    congr 2
    simp
  rw [hrun]
  have c0:∀j e,bget B0 j=some e→bget B j=some e:=fun j e h=>by rw [hB,X8,h];rfl
  have cC:∀j e,bget C j=some e→bget B j=some e:=fun j e h=>by rw [hB,X8,(hC j (by rw [h];rfl)).1,h];rfl
  have hS0:∀j e,bget B j=some e→∀gb,blk (ρ j)=some gb→X.S0 gb:=fun j e hj gb hgb=>by
    rcases (hI.ent j e hj).2 gb hgb with h1|h1
    · exact hI.fresh gb h1
    · exact hbor gb h1
  have hSn:Sn (fun k=>X.S0 k∧∀i e,bget C i=some e→blk (ρ i)≠some k) B0 ρ=Sof X B ρ:=by
    funext k
    refine propext ⟨fun h=>⟨h.1.1,fun i e hi=> ?_⟩,fun h=>⟨⟨h.1,fun i e hi=>h.2 i e (cC i e hi)⟩,fun i e hi=>h.2 i e (c0 i e hi)⟩⟩;rw [hB,X8] at hi
    cases h1:bget B0 i with
    |none=>rw [h1] at hi;exact h.1.2 i e hi
    |some e1=>rw [h1] at hi;exact h.2 i e (by rw [h1];exact hi)
  refine Calls.mono (hok (fun k=>X.S0 k∧∀i e,bget C i=some e→blk (ρ i)≠some k) w ρ _ (fun k hk=>⟨hI.fresh k (Nat.le_trans hI.frame.size hk),fun i e hi hbk=> ?_⟩) (fun i e hi gb hgb=>⟨hS0 i e (c0 i e hi) gb hgb,fun j f hj hbk=> ?_⟩) ⟨fun i e hi=> ?_,fun i j e e' hi hj=>hI.apart i j e e' (c0 i e hi) (c0 j e' hj)⟩ (fun p hp=>hI.fixG (hfv p hp)) (by rw [hSn];exact slots_append (hI.evS hargs) (slots_own hcs))) ?_
  · have:=hI.lt (cC i e hi) hbk;omega
  · have hij:i≠j:=fun he=>by subst he;rw [(hC i (by rw [hj];rfl)).1] at hi;cases hi
    exact hI.apart i j e f (c0 i e hi) (cC j f hj) hij gb hgb hbk
  · rw [hSn];exact (hI.ent i e (c0 i e hi)).1
  · rintro e w' ⟨v,q,ρ',rfl,hJ,hv,hH,hfx,hnew,hF⟩
    have:=hI.afterM kp hB (fun j hj=>(hC j hj).1) Y (fun j hj=>(hC j hj).2 q) (fun j hj=>(hkp j hj).imp id (fun h=>h q)) hfix hv hH hfx hnew hF (hRk q);exact h q hJ _ _ w' (this.1.put (s:=R q) (Xg hn) this.2)
end Go.Own
namespace Go.Proofs.YtojkdfilabmafaaGreat
open Go.Own
theorem mixed:Tryz.prog.follows .mixedOrders=true:=by kernel_rfl
theorem sInts:SlcT Tryz.prog 26 3 1 8 (.int .i64 0):=SlcT.of Tryz.underlying26 (by kernel_rfl) rfl (by decide)
theorem lInt:Ld1 Tryz.prog 3:=Ld1.of _ Tryz.underlying3 rfl
theorem lBool:Ld1 Tryz.prog 4:=Ld1.of _ Tryz.underlying4 rfl
theorem lInts:Ld1 Tryz.prog 26:=Ld1.of _ Tryz.underlying26 rfl
theorem zInt:(Tryz.prog.info? 3).map (·.size)=some 1:=by kernel_rfl
abbrev intC (x : Int) : CT := .ex (.int .i64 x)
abbrev boolC (b : Bool) : CT := .ex (.bool b)
abbrev intsC (xs : List Int) : CT := .fr (sliceT 1 (xs.map fun x => [intC x]))
def ints (xs : List Int) : List CT := xs.map intC
@[simp] theorem ints_length (xs:List Int):(ints xs).length=xs.length:=by simp [ints]
theorem ZX(xs:List Int)(i:Nat)(x:Int):(ints xs).set i (intC x)=ints (xs.set i x):=by simp [ints,List.map_set]
theorem Xo{xs:List Int}{i:Nat}(h:i<xs.length):(ints xs)[i]? =some (intC (xs.getD i 0)):=by
  simp [ints,List.getElem?_eq_getElem h,List.getD_eq_getElem?_getD]
theorem ints_made(n:Nat):zinit (.int .i64 0) n=ints (List.replicate n 0):=by
  rw [zinit_map];simp [ints,Value.cells]
theorem flat_one{α β:Type}(f:α→β)(xs:List α):(xs.map fun x=>[f x]).flatten=xs.map f:=by
  induction xs with
  |nil=>rfl
  |cons x xs ih=>simp [ih]
theorem Zy(e:Nat)(xs:List Int):(Ent.row e 1 (ints xs)).frozen (sliceT 1 (xs.map fun x=>[intC x])):=
  ⟨xs.map fun x=>[intC x],(flat_one intC xs).symm,by simp,by decide,rfl⟩
theorem Xs{xs:List Int}{j:Int}(h0:0≤j)(h:j<(xs.length:Int)):(xs.map fun x=>[intC x])[j.toNat]? =some [intC (xs.getD j.toNat 0)]:=by
  have hl:j.toNat<xs.length:=by omega
  rw [List.getElem?_map,List.getElem?_eq_getElem hl,List.getD_eq_getElem?_getD,List.getElem?_eq_getElem hl];rfl
attribute [local irreducible] Go.Own.Fin Ok OkB OkF OkL OkN OkT Ops St
abbrev unitC : CT := .fr (tupT [])
theorem uInt' :Tryz.prog.underlying 3=some (.int .i64):=Tryz.underlying3
theorem uAddr:Tryz.prog.underlying 35=some (.int .u32):=Tryz.underlying35
theorem lAddr:Ld1 Tryz.prog 35:=Ld1.of _ Tryz.underlying35 rfl
abbrev adrC (x : Int) : CT := .ex (.int .u32 x)
def cmp3 (a b : Int) : Int := if a < b then -1 else if b < a then 1 else 0
theorem cmp3_eq(a b:Int):cmp3 a b=if a<b then -1 else if b<a then 1 else 0:=rfl
def cmpL : List Int → List Int → Int
  | x :: xs, y :: ys => if cmp3 x y ≠ 0 then cmp3 x y else cmpL xs ys
  | _, _ => 0
theorem gonan:InGo Tryz.prog 215:=InGo.of Tryz.func215 rfl (by decide)
theorem gonanA:InGo Tryz.prog 154:=InGo.of Tryz.func154 rfl (by decide)
theorem gocm:InGo Tryz.prog 148:=InGo.of Tryz.func148 rfl (by decide)
theorem gocmA:InGo Tryz.prog 92:=InGo.of Tryz.func92 rfl (by decide)
theorem nan_ok(x:Int):Ok Tryz.prog 215 [intC x] (boolC false):=by
  refine Ok.enter Tryz.func215 J _ Tryz.ntmps215 J ?_
  intro S w;refine Qy (Qx fun K hK=> ?_);refine Qv J J J (Qj (hK _ _ (Qz (Qy ?_))));clear hK K;refine Qx (fun K hK=> ?_);refine Qq J J J (Qq J J J (Qk ineq J J J J (Qv J J J (Qj (hK _ _ (Qz (Q4 ?_)))))));clear hK K;refine Q1 [_] rfl (QX J QZ) (by rw [←decide_eq_false (show ¬(x≠x) by simp)];rfl) J
theorem nanA_ok(x:Int):Ok Tryz.prog 154 [adrC x] (boolC false):=by
  refine Ok.enter Tryz.func154 J _ Tryz.ntmps154 J ?_
  intro S w;refine Qy (Qx fun K hK=> ?_);refine Qv J J J (Qj (hK _ _ (Qz (Qy ?_))));clear hK K;refine Qx (fun K hK=> ?_);refine Qq J J J (Qq J J J (Qk ineq J J J J (Qv J J J (Qj (hK _ _ (Qz (Q4 ?_)))))));clear hK K;refine Q1 [_] rfl (QX J QZ) (by rw [←decide_eq_false (show ¬(x≠x) by simp)];rfl) J
theorem cm_ok(x y:Int):Ok Tryz.prog 148 [intC x,intC y] (intC (cmp3 x y)):=by
  refine Ok.enter Tryz.func148 J _ Tryz.ntmps148 J ?_
  intro S w;refine Qy (Qx fun K hK=> ?_);refine Qv J J J (Qj (hK _ _ (Qz (Qy ?_))));clear hK K;refine Qx (fun K hK=> ?_);refine Qq J J J (QV gonan (nan_ok x) J J J J (Qv J J J (Qj (hK _ _ (Qz (Qy ?_))))));clear hK K;refine Qx (fun K hK=> ?_);refine Qq J J J (QV gonan (nan_ok y) J J J J (Qv J J J (Qj (hK _ _ (Qz (Qy (Qy ?_)))))));clear hK K;refine Qx (fun K hK=> ?_);refine Qq J J J (Qj (hK _ _ (Qz (Xy J (QW (Qz (Qy (Qy ?_))))))));clear hK K;refine Qx (fun K hK=> ?_);refine Qq J J J (Qj (hK _ _ (Qz (Xy J (QW (Qz (Qy (Qy ?_))))))));clear hK K;refine Qx (fun K hK=> ?_);refine Qq J J J (Qq J J J (Qk ilss J J J J (Qj (hK _ _ (Qz ?_)))));clear hK K;refine Q2 J (fun h=> ?_) (fun h=> ?_)
  · refine Qy (Qx fun K hK=> ?_);refine Qv J J J (Qj (hK _ _ (Qz (Q4 (QY ?_)))));clear hK K;refine Q1 [_] rfl (QX J QZ) (by rw [cmp3_eq,if_pos h];rfl) J
  · refine QW (Qz (Qy (Qy (Qx fun K hK=> ?_))));refine Qq J J J (Qq J J J (Qk igtr J J J J (Qj (hK _ _ (Qz ?_)))));clear hK K;refine Q2 J (fun h2=> ?_) (fun h2=> ?_)
    · refine Qy (Qx fun K hK=> ?_);refine Qv J J J (Qj (hK _ _ (Qz (Q4 (QY ?_)))));clear hK K;refine Q1 [_] rfl (QX J QZ) (by rw [cmp3_eq,if_neg h,if_pos h2];rfl) J
    · refine QW (Qz (Qy (Qx fun K hK=> ?_)));refine Qv J J J (Qj (hK _ _ (Qz (Q4 ?_))));clear hK K;refine Q1 [_] rfl (QX J QZ) (by rw [cmp3_eq,if_neg h,if_neg h2];rfl) J
theorem cmA_ok(x y:Int):Ok Tryz.prog 92 [adrC x,adrC y] (intC (cmp3 x y)):=by
  refine Ok.enter Tryz.func92 J _ Tryz.ntmps92 J ?_
  intro S w;refine Qy (Qx fun K hK=> ?_);refine Qv J J J (Qj (hK _ _ (Qz (Qy ?_))));clear hK K;refine Qx (fun K hK=> ?_);refine Qq J J J (QV gonanA (nanA_ok x) J J J J (Qv J J J (Qj (hK _ _ (Qz (Qy ?_))))));clear hK K;refine Qx (fun K hK=> ?_);refine Qq J J J (QV gonanA (nanA_ok y) J J J J (Qv J J J (Qj (hK _ _ (Qz (Qy (Qy ?_)))))));clear hK K;refine Qx (fun K hK=> ?_);refine Qq J J J (Qj (hK _ _ (Qz (Xy J (QW (Qz (Qy (Qy ?_))))))));clear hK K;refine Qx (fun K hK=> ?_);refine Qq J J J (Qj (hK _ _ (Qz (Xy J (QW (Qz (Qy (Qy ?_))))))));clear hK K;refine Qx (fun K hK=> ?_);refine Qq J J J (Qq J J J (Qk ilss J J J J (Qj (hK _ _ (Qz ?_)))));clear hK K;refine Q2 J (fun h=> ?_) (fun h=> ?_)
  · refine Qy (Qx fun K hK=> ?_);refine Qv J J J (Qj (hK _ _ (Qz (Q4 (QY ?_)))));clear hK K;refine Q1 [_] rfl (QX J QZ) (by rw [cmp3_eq,if_pos h];rfl) J
  · refine QW (Qz (Qy (Qy (Qx fun K hK=> ?_))));refine Qq J J J (Qq J J J (Qk igtr J J J J (Qj (hK _ _ (Qz ?_)))));clear hK K;refine Q2 J (fun h2=> ?_) (fun h2=> ?_)
    · refine Qy (Qx fun K hK=> ?_);refine Qv J J J (Qj (hK _ _ (Qz (Q4 (QY ?_)))));clear hK K;refine Q1 [_] rfl (QX J QZ) (by rw [cmp3_eq,if_neg h,if_pos h2];rfl) J
    · refine QW (Qz (Qy (Qx fun K hK=> ?_)));refine Qv J J J (Qj (hK _ _ (Qz (Q4 ?_))));clear hK K;refine Q1 [_] rfl (QX J QZ) (by rw [cmp3_eq,if_neg h,if_neg h2];rfl) J
def firstN : List Int → Int
  | [] => 0
  | x :: xs => if x ≠ 0 then x else firstN xs
theorem goOr:InGo Tryz.prog 91:=InGo.of Tryz.func91 rfl (by decide)
theorem firstN_drop{xs:List Int}{i:Nat}(h:i<xs.length):firstN (xs.drop i)=if xs.getD i 0≠0 then xs.getD i 0 else firstN (xs.drop (i+1)):=by
  rw [List.drop_eq_getElem_cons h,List.getD_eq_getElem?_getD,List.getElem?_eq_getElem h];rfl
theorem Or_ok(xs:List Int)(hl:xs.length≤100):Ok Tryz.prog 91 [intsC xs] (intC (firstN xs)):=by
  refine Ok.enter Tryz.func91 J _ Tryz.ntmps91 J ?_
  intro S w;refine Qy (Qx fun K hK=> ?_);refine Qv J J J (Qj (hK _ _ (Qz (Qy ?_))));clear hK K;refine Qx (fun K hK=> ?_);refine Qv J J J (Qj (hK _ _ (Qz (Qy (Qy ?_)))));clear hK K;refine Qx (fun K hK=> ?_);refine Qq J J J (Qh J J sInts.und (List.length_map ..) J (Qq J J J (Qj (hK _ _ (Qz (Q3 ?_))))));clear hK K
  refine Qs (α:=Nat) (fun i=>i≤xs.length∧firstN (xs.drop i)=firstN xs)
    (fun i=>[(3, .ct (intC 0)),(6, .ct (intsC xs)),(7, .ct (intC xs.length)),(8, .ct (intC i))]) (fun _=>[]) (fun i=>xs.length - i) 0 ⟨Nat.zero_le _,rfl⟩ (by exact Qu J ⟨rfl,rfl,rfl,rfl,trivial⟩) ?_
  rintro i ⟨hi,hf⟩
  dsimp only at hi hf ⊢;refine Qy (Qx fun K hK=> ?_);refine Qk ilss J J J J (Qj (hK _ _ (Qz (Qy ?_))));clear hK K;refine Q2 J (fun h=> ?_) (fun h=> ?_)
  · have e2:(i:Int).toNat=i:=Int.toNat_natCast i;have h3:=firstN_drop (xs:=xs) (i:=i) (by omega);refine QW (Qz (Qy (Q3 (Qy (Qx fun K hK=> ?_)))))
    refine Xx J J J sInts (by omega) (Xs (by omega) (by omega)) J ?_
    refine X1 J J J lInt J (Qv J J J (Qj (hK _ _ (Qz (Qy ?_)))));clear hK K;refine Qx (fun K hK=> ?_);refine Qq J J J (Qq J J J (Qk ineq J J J J (Qj (hK _ _ (Qz ?_)))));clear hK K;rw [e2];generalize xs.getD i 0=x at h3;skip;refine Q2 J (fun h2=> ?_) (fun h2=> ?_)
    · refine Qy (Qx fun K hK=> ?_);refine Qq J J J (Qv J J J (Qj (hK _ _ (Qz (Q4 (Qb (QY (QY (Qb (QY ?_))))))))));clear hK K;refine Q1 [_] rfl (QX J QZ) (by rw [←hf,h3,if_pos h2];rfl) J
    · refine QW (Qz (Qx fun K hK=> ?_))
      refine Qk (iadd (by omega) (by omega)) J J J J ?_
      refine Qq J J J (Qj (hK _ _ (Q6 ?_)));clear hK K;refine Q9 (i+1) (by omega) ⟨by omega,by rw [←hf,h3,if_neg h2]⟩ (by exact Qu J ⟨rfl,rfl,rfl,by simp only [Int.natCast_add];rfl,trivial⟩)
  · refine Qm (Qz (Qy (Qx fun K hK=> ?_)));refine Qq J J J (Qv J J J (Qj (hK _ _ (Qz (Q4 ?_)))));clear hK K
    have hi' :i=xs.length:=by omega
    refine Q1 [_] rfl (QX J QZ) (by rw [←hf,hi',List.drop_length];rfl) J
theorem aPair:ArrT Tryz.prog 239 3 2 1 (.agg #[.int .i64 0, .int .i64 0]):=⟨Tryz.underlying239,by kernel_rfl,by kernel_rfl⟩
theorem uPair:Tryz.prog.underlying 239=some (.array 2 3):=Tryz.underlying239
theorem szPair:(Tryz.prog.info? 239).map (·.size)=some 2:=by kernel_rfl
theorem zvPair:(Tryz.prog.info? 239).map (·.zero)=some (some (.agg #[.int .i64 0, .int .i64 0])):=by kernel_rfl
abbrev pr (p q : Int) : List CT := [intC p, intC q]
def prs (xs ys : List Int) : List (List CT) := List.zipWith pr xs ys
theorem prs_at{xs ys:List Int}{j:Nat}(h1:j<xs.length)(h2:j<ys.length):(prs xs ys)[j]? =some (pr (xs.getD j 0) (ys.getD j 0)):=by
  simp [prs,List.getElem?_zipWith,List.getElem?_eq_getElem h1,List.getElem?_eq_getElem h2,List.getD_eq_getElem?_getD]
theorem prs_len(xs ys:List Int):∀e∈prs xs ys,e.length=2:=fun e he=>by
  unfold prs at he
  rw [List.mem_iff_getElem?] at he
  obtain ⟨i,hi⟩:=he
  rw [List.getElem?_zipWith] at hi
  split at hi
  · injection hi with hi;subst hi;rfl
  · cases hi
theorem cmpL_drop{xs ys:List Int}{j:Nat}(h1:j<xs.length)(h2:j<ys.length):cmpL (xs.drop j) (ys.drop j)=if cmp3 (xs.getD j 0) (ys.getD j 0)≠0 then cmp3 (xs.getD j 0) (ys.getD j 0) else cmpL (xs.drop (j+1)) (ys.drop (j+1)):=by
  rw [List.drop_eq_getElem_cons h1,List.drop_eq_getElem_cons h2,List.getD_eq_getElem?_getD,List.getElem?_eq_getElem h1,List.getD_eq_getElem?_getD,List.getElem?_eq_getElem h2];rfl
end Go.Proofs.YtojkdfilabmafaaGreat
namespace Go.Own
open Go.RowKit
variable {X : Ctx} {L : AL} {B : BL} {ops : Array Oper} {K : Act → World → Prop} {r : Pl} {k : Kd}
  {x y z : Operand} {d : Nat} {t t2 t' : TypeId} {pos : String} {af : Array Edge} {g : Option (Nat × Bool)}
section
variable {α : Type} {f : α → List CT} {n : Nat}
theorem el_len(hf:∀a,(f a).length=n)(l:List α):(l.map f).flatten.length=l.length*n:=by
  rw [Xm (k:=n) (fun e he=>by obtain ⟨m,_,rfl⟩:=List.mem_map.mp he;exact hf m)];simp
theorem el_take(hf:∀a,(f a).length=n)(l:List α)(i:Nat):(l.map f).flatten.take (i*n)=((l.take i).map f).flatten:=by
  induction l generalizing i with
  |nil=>simp
  |cons c l ih=>
    cases i with
    |zero=>simp
    |succ i=>
      rw [List.map_cons,List.flatten_cons,List.take_succ_cons,List.map_cons,List.flatten_cons,List.take_append,List.take_of_length_le (by rw [hf,Nat.succ_mul];omega),←ih]
      congr 2;rw [hf,Nat.succ_mul];omega
theorem el_drop(hf:∀a,(f a).length=n)(l:List α)(i:Nat):(l.map f).flatten.drop (i*n)=((l.drop i).map f).flatten:=by
  induction l generalizing i with
  |nil=>simp
  |cons c l ih=>
    cases i with
    |zero=>simp
    |succ i=>
      rw [List.map_cons,List.flatten_cons,List.drop_succ_cons,List.drop_append,List.drop_of_length_le (by rw [hf,Nat.succ_mul];omega),List.nil_append,←ih]
      congr 1;rw [hf,Nat.succ_mul];omega
theorem el_get(hf:∀a,(f a).length=n){l:List α}{i:Nat}(z:α)(h:i<l.length):((l.map f).flatten.drop (i*n)).take n=f (l.getD i z):=by
  rw [el_drop hf]
  conv=>lhs;rw [←Nat.one_mul n]
  rw [el_take hf]
  have:(l.drop i).take 1=[l.getD i z]:=by
    rw [List.getD_eq_getElem?_getD,List.getElem?_eq_getElem h,List.drop_eq_getElem_cons h];rfl
  rw [this];simp
theorem el_put(hf:∀a,(f a).length=n){l:List α}{i:Nat}(c:α)(h:i<l.length):spl (l.map f).flatten (i*n) (f c)=((l.set i c).map f).flatten:=by
  unfold spl;rw [el_take hf,hf,←Nat.succ_mul,el_drop hf,List.set_eq_take_append_cons_drop,if_pos h];simp
theorem ones_append:∀a b:List CT,ones (a++b)=(ones a&&ones b)
  | [],b=>rfl
  |c::a,b=>by simp only [List.cons_append,ones,ones_append a b,Bool.and_assoc]
theorem el_ones(h:∀a,ones (f a)=true):∀l:List α,ones (l.map f).flatten=true
  | []=>rfl
  |a::l=>by rw [List.map_cons,List.flatten_cons,ones_append,h a,el_ones h l];rfl
theorem ldE{i j:Nat}{e:Ent}{l:List α}(f:α→List CT)(z:α)(hf:∀a,(f a).length=n)(hk:k.rd=true)(hg:gd ops L g=some true)(hx:ev L x=some (.loc i (j*n)))(hi:bget B i=some e)(he:e.cs=(l.map f).flatten)(hj:j<l.length)(hT:LdN X.P t n)(hn:Nat.blt d X.n=true)
    (h:Ops X ops r ((d, .ct (.fr (aggT (f (l.getD j z)))))::L) B K):Ops X ops (.cons ⟨some d, .load t x,t',pos,af,g⟩ k r) L B K:=
  Yv hk hg hx hi (by rw [he,el_len hf,←Nat.succ_mul];exact Nat.mul_le_mul_right _ hj) hT hn (by rw [he,el_get hf z hj];exact h)
end
end Go.Own
namespace Go.Own
open Go.RowKit
inductive Am where
  | i (k : IntKind) (n : Int)
  | b (x : Bool)
deriving DecidableEq
def Am.v : Am → Value
  | .i k n => .int k n
  | .b x => .bool x
def Am.ty : Am → TypeDesc
  | .i k _ => .int k
  | .b _ => .bool
abbrev amC (aq : List Am) : List CT := aq.map fun a => CT.ex a.v
theorem run_part_am{P:Program}{t:TypeId}{a:Am}{cs:Array Value}{o:Nat}(h:P.underlying t=some a.ty)(hv:cs[o]? =some a.v)(w:World):(part t cs o).run P w= .ok a.v w:=by
  cases a with
  |i k n=>exact run_part_int h hv w
  |b x=>
    have h:P.underlying t=some .bool:=h;simp [part,isAgg,run_underlying h,hv]
theorem run_eqAm{P:Program}{t:TypeId}{a b:Am}(d:Nat)(w:World)(h:P.underlying t=some a.ty)(hb:a.ty=b.ty):(Op.equalIn (d+1) t a.v b.v).run P w= .ok (decide (a=b)) w:=by
  cases a with
  |i k n=>
    cases b with
    |i k' n' =>
      injection hb with hb;subst hb
      show (Op.equalIn (d+1) t (.int k n) (.int k n')).run P w=_;rw [run_equalIn_int w d t k k n n' h]
      congr 1
      by_cases hn:n=n' <;>simp [hn]
    |b x=>cases hb
  |b x=>
    cases b with
    |i k n=>cases hb
    |b y=>
      show (Op.equalIn (d+1) t (.bool x) (.bool y)).run P w=_;rw [run_equalIn_bool' w d t x y h]
      congr 1
      cases x <;>cases y <;>rfl
theorem run_eqAtoms{P:Program}(d:Nat)(xs ys:Array Value)(w:World)(rest:List Field):∀(fs:List Field) (aq bs:List Am) (s:Nat),aq.map Am.ty=bs.map Am.ty→
    fs.map (fun f=>(f.name== "_",f.offset,P.underlying f.type))=(aq.zipIdx s).map (fun p=>(false,p.2,some p.1.ty))→
    (∀j a,aq[j]? =some a→xs[s+j]? =some a.v)→(∀j a,bs[j]? =some a→ys[s+j]? =some a.v)→
    (Op.eqFields (d+1) xs ys (fs++rest)).run P w=if aq=bs then (Op.eqFields (d+1) xs ys rest).run P w else .ok false w
  | [],[],[],_,_,_,_,_=>by simp
  | [],_::_,_,_,_,h,_,_=>by simp at h
  |_::_,[],_,_,_,h,_,_=>by simp at h
  | [],[],_::_,_,h,_,_,_=>by simp at h
  |_::_,_::_,[],_,h,_,_,_=>by simp at h
  |f::fs,a::aq,b::bs,s,h1,hf,hx,hy=>by
    simp only [List.map_cons,List.zipIdx_cons] at hf h1
    injection hf with hf1 hf2
    injection hf1 with hn ho
    injection ho with ho hu
    injection h1 with h1 h2
    have hx0:=hx 0 a rfl
    have hy0:=hy 0 b rfl
    rw [Nat.add_zero] at hx0 hy0
    have hne:f.name≠ "_" :=by simpa using hn
    have ih:=run_eqAtoms d xs ys w rest fs aq bs (s+1) h2 hf2 (fun j a' e=>by rw [show s+1+j=s+(j+1) by omega];exact hx (j+1) a' e) (fun j a' e=>by rw [show s+1+j=s+(j+1) by omega];exact hy (j+1) a' e)
    simp only [List.cons_append,Op.eqFields,if_pos hne,Sem.run_bind]
    rw [run_part_am hu (by rw [ho];exact hx0)]
    simp only [Result.andThen_ok]
    rw [run_part_am (a:=b) (hu.trans (by rw [h1])) (by rw [ho];exact hy0)]
    simp only [Result.andThen_ok]
    rw [run_eqAm d w hu h1]
    simp only [Result.andThen_ok]
    by_cases hab:a=b
    · subst hab
      simp only [decide_true,Bool.not_true,Bool.false_eq_true,if_false]
      rw [ih]
      by_cases h3:aq=bs <;>simp [h3]
    · simp [hab]
structure EqN (P : Program) (t ta : TypeId) (k1 k2 : List TypeDesc) : Prop where
  und : P.underlying t = some (.struct (P.fieldsOf t))
  held : P.stoodInHeld t = false
  guard : P.eqGuardType P.depth t = false
  fields : (P.fieldsOf t).toList.map (fun f => (f.name == "_", f.offset, P.underlying f.type)) = k1.zipIdx.map (fun p => (false, p.2, some p.1)) ++ [(false, k1.length, some (.struct (P.fieldsOf ta)))]
  last : ((P.fieldsOf t).toList.getLast?).map (·.type) = some ta
  unda : P.underlying ta = some (.struct (P.fieldsOf ta))
  helda : P.stoodInHeld ta = false
  size : (P.info? ta).map (·.size) = some k2.length
  fieldsa : (P.fieldsOf ta).toList.map (fun f => (f.name == "_", f.offset, P.underlying f.type)) = k2.zipIdx.map (fun p => (false, p.2, some p.1))
theorem zipIdx_ty(aq:List Am)(s:Nat):((aq.map Am.ty).zipIdx s).map (fun p=>(false,p.2,some p.1))=(aq.zipIdx s).map (fun p=>(false,p.2,some p.1.ty)):=by
  induction aq generalizing s with
  |nil=>rfl
  |cons a aq ih=>simp only [List.map_cons,List.zipIdx_cons,ih]
theorem EqN.run{P:Program}{t ta:TypeId}{k1 k2:List TypeDesc}(h:EqN P t ta k1 k2)(a1 b1 a2 b2:List Am)(e1:a1.map Am.ty=k1)(e2:b1.map Am.ty=k1)(e3:a2.map Am.ty=k2)(e4:b2.map Am.ty=k2)(w:World):
    (Op.equalIn 10000 t (.agg ((a1++a2).map Am.v).toArray) (.agg ((b1++b2).map Am.v).toArray)).run P w= .ok (decide (a1=b1∧a2=b2)) w:=by
  rw [run_equalIn_struct w 9999 t _ _ h.und h.held]
  have hl1:a1.length=k1.length:=by rw [←e1,List.length_map]
  have hl2:b1.length=k1.length:=by rw [←e2,List.length_map]
  have hl3:a2.length=k2.length:=by rw [←e3,List.length_map]
  have hl4:b2.length=k2.length:=by rw [←e4,List.length_map]
  obtain ⟨fs,fa,hfs⟩:∃fs fa,(P.fieldsOf t).toList=fs++ [fa]:=by
    rcases List.eq_nil_or_concat (P.fieldsOf t).toList with h0|⟨fs,fa,h0⟩
    · have:=h.last;rw [h0] at this;cases this
    · exact ⟨fs,fa,by rw [h0];simp⟩
  have hF:=h.fields;rw [hfs,List.map_append] at hF;have hF2:=List.append_inj' hF J
  have hlast:fa.type=ta:=by
    have:=h.last;rw [hfs,List.getLast?_append] at this
    simpa using this
  have hfa:=hF2.2;simp only [List.map_cons,List.map_nil,List.cons.injEq,and_true,Prod.mk.injEq] at hfa;obtain ⟨hn,ho,hu⟩:=hfa
  have hne:fa.name≠ "_" :=by simpa using hn
  have gx:∀(p q:List Am) (j:Nat) (a:Am),p[j]? =some a→((p++q).map Am.v).toArray[0+j]? =some a.v:=fun p q j a e=>by
    have hj:j<p.length:=(List.getElem?_eq_some_iff.1 e).1;rw [Nat.zero_add,List.getElem?_toArray,List.getElem?_map,List.getElem?_append_left hj,e];rfl
  rw [hfs,run_eqAtoms 9998 _ _ w [fa] fs a1 b1 0 (e1.trans e2.symm) (by rw [hF2.1,←e1,zipIdx_ty]) (gx a1 a2) (gx b1 b2)];by_cases h1:a1=b1
  · rw [if_pos h1]
    have hpart:∀(p q:List Am),p.length=k1.length→q.length=k2.length→(part fa.type ((p++q).map Am.v).toArray fa.offset).run P w= .ok (.agg (q.map Am.v).toArray) w:=fun p q hp hq=>by
      have hs:(sizeOf fa.type).run P w= .ok k2.length w:=by
        rw [hlast];obtain ⟨i,hi,hs⟩:=Option.map_eq_some_iff.1 h.size;simp [sizeOf,typeInfo,hi,hs]
      have ha:(isAgg fa.type).run P w= .ok true w:=by simp [isAgg,run_underlying (hlast▸h.unda)]
      simp only [part,Sem.run_bind,ha,Result.andThen_ok,if_true,hs,Sem.run_pure]
      congr 2
      rw [ho]
      apply Array.ext'
      simp only [Array.toList_extract,List.extract_eq_take_drop,List.map_append];rw [show k1.length+k2.length - k1.length=k2.length by omega,List.drop_append,List.drop_of_length_le (by rw [List.length_map];omega),List.nil_append,List.length_map,hp,Nat.sub_self,List.drop_zero,List.take_of_length_le (by rw [List.length_map];omega)]
    simp only [Op.eqFields,if_pos hne,Sem.run_bind];rw [hpart a1 a2 hl1 hl3];simp only [Result.andThen_ok];rw [hpart b1 b2 hl2 hl4];simp only [Result.andThen_ok];rw [hlast,run_equalIn_struct w 9998 ta _ _ h.unda h.helda]
    have gy:∀(q:List Am) (j:Nat) (a:Am),q[j]? =some a→(q.map Am.v).toArray[0+j]? =some a.v:=fun q j a e=>by
      rw [Nat.zero_add,List.getElem?_toArray,List.getElem?_map,e];rfl
    have:=run_eqAtoms 9997 (a2.map Am.v).toArray (b2.map Am.v).toArray w [] (P.fieldsOf ta).toList a2 b2 0 (e3.trans e4.symm) (by rw [h.fieldsa,←e3,zipIdx_ty]) (gy a2) (gy b2);rw [List.append_nil] at this;rw [this];by_cases h2:a2=b2
    · rw [if_pos h2];simp [Op.eqFields,h1,h2]
    · rw [if_neg h2];simp [h2]
  · rw [if_neg h1];simp [h1]
theorem am_cells{S:BSet}{w:World}:∀{aq:List Am} {vs:List Value},cells S w (amC aq) vs→vs=aq.map Am.v
  | [],[],_=>rfl
  |a::aq,v::vs,⟨h1,h2⟩=>by
    have h1:v=a.v:=h1
    rw [h1,am_cells h2];rfl
  | [],_::_,h=>h.elim
  |_::_,[],h=>h.elim
variable {X : Ctx} {L : AL} {B : BL} {ops : Array Oper} {K : Act → World → Prop} {r : Pl} {k : Kd}
  {x y z : Operand} {d : Nat} {t t2 t' ta : TypeId} {pos : String} {af : Array Edge} {g : Option (Nat × Bool)}
theorem Ops.eqN{k1 k2:List TypeDesc}(a1 a2 b1 b2:List Am)(hg:gd ops L g=some true)(hx:ev L x=some (.ct (.fr (aggT (amC (a1++a2))))))(hy:ev L y=some (.ct (.fr (aggT (amC (b1++b2))))))(e1:a1.map Am.ty=k1)(e2:b1.map Am.ty=k1)(e3:a2.map Am.ty=k2)(e4:b2.map Am.ty=k2)(hE:EqN X.P t ta k1 k2)(hn:Nat.blt d X.n=true)
    (h:Ops X ops r ((d, .ct (.ex (.bool (decide (a1=b1∧a2=b2)))))::L) B K):Ops X ops (.cons ⟨some d, .binOp .eql t x y t2,t',pos,af,g⟩ k r) L B K:=
  XU (s:= .ct (.ex (.bool (decide (a1=b1∧a2=b2))))) hg rfl hn (fun a ρ w hI=>⟨_,fun w' _=>by
    obtain ⟨us,f1,c1⟩:=hI.ev hx
    obtain ⟨vs,f2,c2⟩:=hI.ev hy
    have d1:=am_cells c1
    have d2:=am_cells c2
    subst d1;subst d2
    show (do pure (Next.value (←(do eqGuard .eql t x y (a.eval x) (a.eval y);binOp .eql t (a.eval x) (a.eval y):Sem Value))):Sem Next).run X.P w' =_
    rw [f1,f2]
    refine Xb ?_
    simp only [Sem.run_bind,run_eqGuard_agg w' _ t x y _ _ hE.guard,Result.andThen_ok]
    rw [run_eql_struct,hE.run a1 b1 a2 b2 e1 e2 e3 e4 w'];rfl,rfl⟩) h
theorem Ops.neN{k1 k2:List TypeDesc}(a1 a2 b1 b2:List Am)(hg:gd ops L g=some true)(hx:ev L x=some (.ct (.fr (aggT (amC (a1++a2))))))(hy:ev L y=some (.ct (.fr (aggT (amC (b1++b2))))))(e1:a1.map Am.ty=k1)(e2:b1.map Am.ty=k1)(e3:a2.map Am.ty=k2)(e4:b2.map Am.ty=k2)(hE:EqN X.P t ta k1 k2)(hn:Nat.blt d X.n=true)
    (h:Ops X ops r ((d, .ct (.ex (.bool (!decide (a1=b1∧a2=b2)))))::L) B K):Ops X ops (.cons ⟨some d, .binOp .neq t x y t2,t',pos,af,g⟩ k r) L B K:=
  XU (s:= .ct (.ex (.bool (!decide (a1=b1∧a2=b2))))) hg rfl hn (fun a ρ w hI=>⟨_,fun w' _=>by
    obtain ⟨us,f1,c1⟩:=hI.ev hx
    obtain ⟨vs,f2,c2⟩:=hI.ev hy
    have d1:=am_cells c1
    have d2:=am_cells c2
    subst d1;subst d2
    show (do pure (Next.value (←(do eqGuard .neq t x y (a.eval x) (a.eval y);binOp .neq t (a.eval x) (a.eval y):Sem Value))):Sem Next).run X.P w' =_
    rw [f1,f2]
    refine Xb ?_
    simp only [Sem.run_bind,run_eqGuard_agg w' _ t x y _ _ hE.guard,Result.andThen_ok]
    rw [run_neq_struct,hE.run a1 b1 a2 b2 e1 e2 e3 e4 w'];rfl,rfl⟩) h
end Go.Own
namespace Go.Own
open Go.RowKit
structure Tb where
  fld : List (Nat × Nat × Nat)
  one : List Nat
  cv : List (Nat × Nat × IntKind)
  ar : List Nat
structure Tb.ok (P : Program) (T : Tb) : Prop where
  fld : ∀ p ∈ T.fld, ∃ sz, fldInfo P p.1 p.2.1 = some (p.2.2, some (sz + 1))
  one : ∀ t ∈ T.one, Ld1 P t
  cv : ∀ p ∈ T.cv, (∃ D, P.underlying p.1 = some D) ∧ P.underlying p.2.1 = some (.int p.2.2)
  ar : ∀ t ∈ T.ar, ∃ el v0 v1, ArrT P t el 2 1 (.agg #[v0, v1])
def fldL : List (Nat × Nat × Nat) → Nat → Nat → Option Nat
  | [], _, _ => none
  | (a, b, o) :: l, t, f => match Nat.beq a t, Nat.beq b f with
    | true, true => some o
    | _, _ => fldL l t f
def hasL : List Nat → Nat → Bool
  | [], _ => false
  | a :: l, t => match Nat.beq a t with
    | true => true
    | false => hasL l t
def cvL : List (Nat × Nat × IntKind) → Nat → Nat → Option IntKind
  | [], _, _ => none
  | (a, b, k) :: l, s, t => match Nat.beq a s, Nat.beq b t with
    | true, true => some k
    | _, _ => cvL l s t
theorem fldL_mem:∀{l:List (Nat × Nat × Nat)} {t f o:Nat},fldL l t f=some o→(t,f,o)∈l
  |(a,b,o')::l,t,f,o,h=>by
    unfold fldL at h
    split at h
    · rename_i h1 h2
      injection h with h;subst h
      rw [Nat.eq_of_beq_eq_true h1,Nat.eq_of_beq_eq_true h2];exact List.mem_cons_self ..
    · exact List.mem_cons_of_mem _ (fldL_mem h)
theorem hasL_mem:∀{l:List Nat} {t:Nat},hasL l t=true→t∈l
  |a::l,t,h=>by
    unfold hasL at h
    split at h
    · rename_i h1
      rw [Nat.eq_of_beq_eq_true h1];exact List.mem_cons_self ..
    · exact List.mem_cons_of_mem _ (hasL_mem h)
theorem cvL_mem:∀{l:List (Nat × Nat × IntKind)} {s t:Nat} {k:IntKind},cvL l s t=some k→(s,t,k)∈l
  |(a,b,k')::l,s,t,k,h=>by
    unfold cvL at h
    split at h
    · rename_i h1 h2
      injection h with h;subst h
      rw [Nat.eq_of_beq_eq_true h1,Nat.eq_of_beq_eq_true h2];exact List.mem_cons_self ..
    · exact List.mem_cons_of_mem _ (cvL_mem h)
def stepB (T : Tb) (n : Nat) (B : BL) (L : AL) : Oper → Kd → Option AL
  | ⟨some d, op, _, _, _, none⟩, k =>
    match Nat.blt d n with
    | false => none
    | true =>
      match op with
      | .move x => (ev L x).map fun s => (d, s) :: L
      | .fieldAddr t x f =>
        match fldL T.fld t f with
        | some off =>
          match ev L x with
          | some (.own i) => match bget B i with
            | some (.box _ _) => some ((d, .loc i off) :: L)
            | _ => none
          | some (.loc i o) => some ((d, .loc i (o + off)) :: L)
          | _ => none
        | _ => none
      | .load t x =>
        match k.rd, hasL T.one t with
        | true, true =>
          match ev L x with
          | some (.loc i o) => match bget B i with
            | some e => (e.cs[o]?).map fun c => (d, .ct c) :: L
            | none => none
          | _ => none
        | _, _ => none
      | .convert src dst x =>
        match cvL T.cv src dst, ev L x with
        | some k2, some (.ct (.ex (.int _ p))) => some ((d, .ct (.ex (.int k2 (k2.wrap p)))) :: L)
        | _, _ => none
      | .build t ps =>
        match ps.toList, hasL T.ar t with
        | [(0, x), (1, y)], true =>
          match ev L x, ev L y with
          | some (.ct c1), some (.ct c2) => match c1.one, c2.one with
            | true, true => some ((d, .ct (.fr (aggT [c1, c2]))) :: L)
            | _, _ => none
          | _, _ => none
        | _, _ => none
      | _ => none
  | _, _ => none
def goB (T : Tb) (n : Nat) (B : BL) : Nat → Pl → AL → Option (Pl × AL)
  | 0, l, L => some (l, L)
  | m + 1, .cons o k r, L => match stepB T n B L o k with
    | some L' => goB T n B m r L'
    | none => none
  | _ + 1, _, _ => none
variable {X : Ctx} {L : AL} {B : BL} {ops : Array Oper} {K : Act → World → Prop} {T : Tb}
theorem stepB_ok(hT:T.ok X.P){o:Oper}{k:Kd}{r:Pl}{L' :AL}(h:stepB T X.n B L o k=some L')(hr:Ops X ops r L' B K):Ops X ops (.cons o k r) L B K:=by
  obtain ⟨dst,op,t',pos,af,g⟩:=o
  cases dst with
  |none=>simp [stepB] at h
  |some d=>
    cases g with
    |some g=>simp [stepB] at h
    |none=>
      unfold stepB at h;dsimp only at h
      cases hn:Nat.blt d X.n with
      |false=>rw [hn] at h;simp at h
      |true=>
        rw [hn] at h;dsimp only at h
        cases op with
        |move x=>
          simp only [Option.map_eq_some_iff] at h;obtain ⟨s,h1,rfl⟩:=h;exact Qq J h1 hn hr
        |fieldAddr t x f=>
          simp only at h;split at h
          · rename_i off hF
            obtain ⟨sz,hF⟩:=hT.fld _ (fldL_mem hF);split at h
            · rename_i i hx
              split at h
              · rename_i tt cs hi
                injection h with h;subst h
                exact QJ J hx hi hF hn hr
              · cases h
            · rename_i i o hx
              injection h with h;subst h
              exact Z6 J hx hF hn hr
            · cases h
          · cases h
        |load t x=>
          simp only at h;split at h
          · rename_i hk hD
            split at h
            · rename_i i o hx
              split at h
              · rename_i e hi
                simp only [Option.map_eq_some_iff] at h;obtain ⟨c,hc,rfl⟩:=h;exact QQ hk J hx hi hc (hT.one _ (hasL_mem hD)) hn hr
              · cases h
            · cases h
          · cases h
        |convert src dst x=>
          simp only at h;split at h
          · rename_i k2 k1 p h1 hx
            injection h with h;subst h
            obtain ⟨⟨D,h2⟩,h3⟩:=hT.cv _ (cvL_mem h1)
            exact Z5 J hx h2 h3 J hn hr
          · cases h
        |build t ps=>
          simp only at h;split at h
          · rename_i x y hp hA
            split at h
            · rename_i c1 c2 hx hy
              split at h
              · rename_i o1 o2
                injection h with h;subst h
                obtain ⟨el,v0,v1,hT⟩:=hT.ar _ (hasL_mem hA);obtain ⟨pl⟩:=ps;have hp:pl=[(0,x),(1,y)]:=hp;subst hp;exact Z9 (n:=1) (cs:=[c1,c2]) J hT (.one J hx o1 J (.one J hy o2 J .nil)) hn hr
              · cases h
            · cases h
          · cases h
        |_=>simp at h
theorem goB_ok(hT:T.ok X.P):∀(m:Nat) (l:Pl) (L:AL) (r:Pl) (L' :AL),goB T X.n B m l L=some (r,L')→Ops X ops r L' B K→Ops X ops l L B K
  |0,l,L,r,L',h,hr=>by
    simp only [goB,Option.some.injEq,Prod.mk.injEq] at h
    obtain ⟨rfl,rfl⟩:=h
    exact hr
  |m+1, .cons o k q,L,r,L',h,hr=>by
    simp only [goB] at h
    split at h
    · rename_i L2 h2
      exact stepB_ok hT h2 (goB_ok hT m q L2 r L' h hr)
    · cases h
  |_+1, .nil,_,_,_,h,_=>by simp [goB] at h
  |_+1, .fork ..,_,_,_,h,_=>by simp [goB] at h
theorem Ops.batchP(hT:T.ok X.P)(m:Nat)(ord' :Od)(L' :AL){lst:List Oper}{ord:Od}(h1:goB T X.n B m (pick lst ord) L=some (pick lst ord',L'))(L2:AL)(h3:subL L' L2)(h:Ops X ops (pick lst ord') L2 B K):Ops X ops (pick lst ord) L B K:=
  goB_ok hT m _ L _ L' h1 (fun a ρ w hI=>h a ρ w (hI.subL h3))
end Go.Own
namespace Go.Proofs.YtojkdfilabmafaaGreat
open Go.Own
attribute [local irreducible] St Ops Go.Own.Fin Ok OkB OkN OkT OkL OkF
structure Rs where
  va : Int
  ru : Int
  nu : Int
  tm : Int
  dst : Fin 4294967296
  pr : Int
  fl : Int
  tt : Int
  an : Bool
  db : Bool
  bk : Int
  fr : Fin 4294967296
  ki : Int
  co : Int
  le : Int
  id : Int
  qu : Int
deriving DecidableEq
theorem wrap_fin(x:Fin 4294967296):IntKind.i64.wrap (x.val:Int)=(x.val:Int):=Z2 (by have:=x.isLt;omega) (by have:=x.isLt;omega)
def rs0 : Rs := ⟨0, 0, 0, 0, 0, 0, 0, 0, false, false, 0, 0, 0, 0, 0, 0, 0⟩
instance : Inhabited Rs := ⟨rs0⟩
def rsA (r : Rs) : List Am := [.i .i64 r.va, .i .i64 r.ru, .i .i64 r.nu, .i .i64 r.tm, .i .u32 r.dst.val, .i .i64 r.pr, .i .i64 r.fl, .i .i64 r.tt, .b r.an, .b r.db, .i .i64 r.bk]
def anA (r : Rs) : List Am := [.i .u32 r.fr.val, .i .i64 r.ki, .i .i64 r.co, .i .i64 r.le, .i .i64 r.id, .i .i64 r.qu]
abbrev rsCs (r : Rs) : List CT := [intC r.va, intC r.ru, intC r.nu, intC r.tm, adrC r.dst.val, intC r.pr, intC r.fl, intC r.tt, boolC r.an, boolC r.db, intC r.bk, adrC r.fr.val, intC r.ki, intC r.co, intC r.le, intC r.id, intC r.qu]
abbrev rsC (r : Rs) : CT := .fr (aggT (rsCs r))
abbrev rssC (l : List Rs) : CT := .fr (sliceT 17 (l.map rsCs))
def rss (l : List Rs) : List CT := (l.map rsCs).flatten
def rsV (r : Rs) : List Value := [.int .i64 r.va, .int .i64 r.ru, .int .i64 r.nu, .int .i64 r.tm, .int .u32 r.dst.val, .int .i64 r.pr, .int .i64 r.fl, .int .i64 r.tt, .bool r.an, .bool r.db, .int .i64 r.bk, .int .u32 r.fr.val, .int .i64 r.ki, .int .i64 r.co, .int .i64 r.le, .int .i64 r.id, .int .i64 r.qu]
theorem rs_len(r:Rs):(rsCs r).length=17:=rfl
theorem rss_frozen(e:Nat)(l:List Rs):(Ent.row e 17 (rss l)).frozen (sliceT 17 (l.map rsCs)):=
  ⟨_,rfl,fun e he=>by obtain ⟨m,_,rfl⟩:=List.mem_map.mp he;rfl,by decide,rfl⟩
theorem rss_at{l:List Rs}{j:Int}(h0:0≤j)(h:j<(l.length:Int)):(l.map rsCs)[j.toNat]? =some (rsCs (l.getD j.toNat rs0)):=by
  have:j.toNat<l.length:=by omega
  simp [List.getElem?_map,List.getElem?_eq_getElem this,List.getD_eq_getElem?_getD]
theorem rss_len(l:List Rs):(rss l).length=l.length*17:=el_len rs_len l
theorem rsA_inj{x y:Rs}:(rsA x=rsA y∧anA x=anA y)↔x=y:=by
  obtain ⟨a1,a2,a3,a4,a5,a6,a7,a8,a9,a10,a11,a12,a13,a14,a15,a16,a17⟩:=x;obtain ⟨b1,b2,b3,b4,b5,b6,b7,b8,b9,b10,b11,b12,b13,b14,b15,b16,b17⟩:=y;simp only [rsA,anA,List.cons.injEq,Am.i.injEq,Am.b.injEq,true_and,and_true,Rs.mk.injEq,Int.ofNat_inj,Fin.val_inj];constructor
  · rintro ⟨⟨h1,h2,h3,h4,h5,h6,h7,h8,h9,h10,h11⟩,h12,h13,h14,h15,h16,h17⟩
    exact ⟨h1,h2,h3,h4,h5,h6,h7,h8,h9,h10,h11,h12,h13,h14,h15,h16,h17⟩
  · rintro ⟨h1,h2,h3,h4,h5,h6,h7,h8,h9,h10,h11,h12,h13,h14,h15,h16,h17⟩
    exact ⟨⟨h1,h2,h3,h4,h5,h6,h7,h8,h9,h10,h11⟩,h12,h13,h14,h15,h16,h17⟩
theorem szRes:(Tryz.prog.info? 47).map (·.size)=some 17:=by kernel_rfl
theorem szAns:(Tryz.prog.info? 45).map (·.size)=some 6:=by kernel_rfl
theorem lRes:LdN Tryz.prog 47 17:=LdN.of _ Tryz.underlying47 rfl (by kernel_rfl)
theorem lAns:LdN Tryz.prog 45 6:=LdN.of _ Tryz.underlying45 rfl (by kernel_rfl)
abbrev zRes : Value := .agg #[.int .i64 0, .int .i64 0, .int .i64 0, .int .i64 0, .int .u32 0, .int .i64 0, .int .i64 0, .int .i64 0, .bool false, .bool false, .int .i64 0, .int .u32 0, .int .i64 0, .int .i64 0, .int .i64 0, .int .i64 0, .int .i64 0]
theorem zvRes:(Tryz.prog.info? 47).map (·.zero)=some (some zRes):=by kernel_rfl
theorem zvAns:(Tryz.prog.info? 45).map (·.zero)=some (some (.agg #[.int .u32 0, .int .i64 0, .int .i64 0, .int .i64 0, .int .i64 0, .int .i64 0])):=by kernel_rfl
theorem sRes:SlcT Tryz.prog 24 47 17 128 zRes:=SlcT.of Tryz.underlying24 (by kernel_rfl) rfl (by decide)
theorem lRess:Ld1 Tryz.prog 24:=Ld1.of _ Tryz.underlying24 rfl
theorem bRes:bInfo Tryz.prog 47=some (zRes,[(0,some 1),(1,some 1),(2,some 1),(3,some 1),(4,some 1),(5,some 1),(6,some 1),(7,some 1),(8,some 1),(9,some 1),(10,some 1),(11,some 6)]):=by kernel_rfl
theorem bAns:bInfo Tryz.prog 45=some (.agg #[.int .u32 0, .int .i64 0, .int .i64 0, .int .i64 0, .int .i64 0, .int .i64 0],[(0,some 1),(1,some 1),(2,some 1),(3,some 1),(4,some 1),(5,some 1)]):=by kernel_rfl
theorem fS0:fldInfo Tryz.prog 47 0=some (0,some 1):=by kernel_rfl
theorem fS1:fldInfo Tryz.prog 47 1=some (1,some 1):=by kernel_rfl
theorem fS2:fldInfo Tryz.prog 47 2=some (2,some 1):=by kernel_rfl
theorem fS3:fldInfo Tryz.prog 47 3=some (3,some 1):=by kernel_rfl
theorem fS4:fldInfo Tryz.prog 47 4=some (4,some 1):=by kernel_rfl
theorem fS5:fldInfo Tryz.prog 47 5=some (5,some 1):=by kernel_rfl
theorem fS6:fldInfo Tryz.prog 47 6=some (6,some 1):=by kernel_rfl
theorem fS7:fldInfo Tryz.prog 47 7=some (7,some 1):=by kernel_rfl
theorem fS8:fldInfo Tryz.prog 47 8=some (8,some 1):=by kernel_rfl
theorem fS9:fldInfo Tryz.prog 47 9=some (9,some 1):=by kernel_rfl
theorem fS10:fldInfo Tryz.prog 47 10=some (10,some 1):=by kernel_rfl
theorem fS11:fldInfo Tryz.prog 47 11=some (11,some 6):=by kernel_rfl
theorem fN0:fldInfo Tryz.prog 45 0=some (0,some 1):=by kernel_rfl
theorem fN1:fldInfo Tryz.prog 45 1=some (1,some 1):=by kernel_rfl
theorem fN2:fldInfo Tryz.prog 45 2=some (2,some 1):=by kernel_rfl
theorem fN3:fldInfo Tryz.prog 45 3=some (3,some 1):=by kernel_rfl
theorem fN4:fldInfo Tryz.prog 45 4=some (4,some 1):=by kernel_rfl
theorem fN5:fldInfo Tryz.prog 45 5=some (5,some 1):=by kernel_rfl
theorem lBool1:Ld1 Tryz.prog 4:=Ld1.of _ Tryz.underlying4 rfl
theorem eRes:EqN Tryz.prog 47 45 [.int .i64, .int .i64, .int .i64, .int .i64, .int .u32, .int .i64, .int .i64, .int .i64, .bool, .bool, .int .i64] [.int .u32, .int .i64, .int .i64, .int .i64, .int .i64, .int .i64]:=
  ⟨by kernel_rfl,by kernel_rfl,by kernel_rfl,by kernel_rfl,by kernel_rfl,by kernel_rfl,by kernel_rfl,by kernel_rfl,by kernel_rfl⟩
def rsT : Tb := ⟨[(47, 0, 0), (47, 1, 1), (47, 2, 2), (47, 3, 3), (47, 4, 4), (47, 5, 5), (47, 6, 6), (47, 7, 7), (47, 8, 8), (47, 9, 9), (47, 10, 10), (47, 11, 11), (45, 0, 0), (45, 1, 1), (45, 2, 2), (45, 3, 3), (45, 4, 4), (45, 5, 5)], [3, 35, 4], [(35, 3, .i64)], [239]⟩
theorem rsT_ok:rsT.ok Tryz.prog:=by
  refine ⟨fun p hp=> ?_,fun t ht=> ?_,fun p hp=> ?_,fun t ht=> ?_⟩
  · simp only [rsT,List.mem_cons,List.not_mem_nil,or_false] at hp;rcases hp with rfl|rfl|rfl|rfl|rfl|rfl|rfl|rfl|rfl|rfl|rfl|rfl|rfl|rfl|rfl|rfl|rfl|rfl
    · exact ⟨0,fS0⟩
    · exact ⟨0,fS1⟩
    · exact ⟨0,fS2⟩
    · exact ⟨0,fS3⟩
    · exact ⟨0,fS4⟩
    · exact ⟨0,fS5⟩
    · exact ⟨0,fS6⟩
    · exact ⟨0,fS7⟩
    · exact ⟨0,fS8⟩
    · exact ⟨0,fS9⟩
    · exact ⟨0,fS10⟩
    · exact ⟨5,fS11⟩
    · exact ⟨0,fN0⟩
    · exact ⟨0,fN1⟩
    · exact ⟨0,fN2⟩
    · exact ⟨0,fN3⟩
    · exact ⟨0,fN4⟩
    · exact ⟨0,fN5⟩
  · simp only [rsT,List.mem_cons,List.not_mem_nil,or_false] at ht;rcases ht with rfl|rfl|rfl
    · exact lInt
    · exact lAddr
    · exact lBool1
  · simp only [rsT,List.mem_cons,List.not_mem_nil,or_false] at hp;subst hp;exact ⟨⟨_,uAddr⟩,uInt'⟩
  · simp only [rsT,List.mem_cons,List.not_mem_nil,or_false] at ht;subst ht;exact ⟨_,_,_,aPair⟩
section
variable {X : Ctx} {L : AL} {B : BL} {ops : Array Oper} {K : Act → World → Prop} {r : Pl} {k : Kd}
  {x y : Operand} {d : Nat} {t t2 t' : TypeId} {pos : String} {af : Array Edge} {g : Option (Nat × Bool)}
theorem eqRs(p q:Rs)(hg:gd ops L g=some true)(hx:ev L x=some (.ct (rsC p)))(hy:ev L y=some (.ct (rsC q)))(hP:X.P=Tryz.prog)(hn:Nat.blt d X.n=true)
    (h:Ops X ops r ((d, .ct (boolC (decide (p=q))))::L) B K):Ops X ops (.cons ⟨some d, .binOp .eql 47 x y t2,t',pos,af,g⟩ k r) L B K:=
  Ops.eqN (rsA p) (anA p) (rsA q) (anA q) hg hx hy rfl rfl rfl rfl (hP▸eRes) hn (by rw [decide_eq_decide.2 rsA_inj];exact h)
theorem neRs(p q:Rs)(hg:gd ops L g=some true)(hx:ev L x=some (.ct (rsC p)))(hy:ev L y=some (.ct (rsC q)))(hP:X.P=Tryz.prog)(hn:Nat.blt d X.n=true)
    (h:Ops X ops r ((d, .ct (boolC (!decide (p=q))))::L) B K):Ops X ops (.cons ⟨some d, .binOp .neq 47 x y t2,t',pos,af,g⟩ k r) L B K:=
  Ops.neN (rsA p) (anA p) (rsA q) (anA q) hg hx hy rfl rfl rfl rfl (hP▸eRes) hn (by rw [decide_eq_decide.2 rsA_inj];exact h)
end
def anI (r : Rs) : List Int := [(r.fr.val : Int), r.ki, r.co, r.le, r.id, r.qu]
def P1 (r : Rs) : Prop := r.va < 0 ∨ 15 < r.va ∨ r.ru < 0 ∨ 63 < r.ru ∨ r.nu < 0 ∨ 999 < r.nu ∨ r.tm < 0 ∨ 2251799813685248 < r.tm ∨ r.bk < 0 ∨ 2251799813685248 < r.bk ∨ r.bk < r.tm ∨ r.fl < 0 ∨ 1023 < r.fl ∨ r.tt < 1 ∨ 255 < r.tt
def P2 (r : Rs) : Prop := r.pr ≠ 1 ∧ r.pr ≠ 6 ∧ r.pr ≠ 17
def P3 (r : Rs) : Prop := r.an = false ∧ (r.db = true ∨ anI r ≠ [0, 0, 0, 0, 0, 0])
def P4 (r : Rs) : Prop := r.an = true ∧ (r.ki < 1 ∨ 5 < r.ki ∨ r.co < 0 ∨ 255 < r.co ∨ r.le < 0 ∨ 255 < r.le ∨ r.qu < 0 ∨ 255 < r.qu ∨ r.id < 0 ∨ 65535 < r.id)
instance (r : Rs) : Decidable (P1 r) := by unfold P1; infer_instance
instance (r : Rs) : Decidable (P2 r) := by unfold P2; infer_instance
instance (r : Rs) : Decidable (P3 r) := by unfold P3; infer_instance
instance (r : Rs) : Decidable (P4 r) := by unfold P4; infer_instance
def ckE (r : Rs) : Int := if P1 r then 1 else if P2 r then 16 else if P3 r then 7 else if P4 r then 1 else 0
def okR (r : Rs) : Bool := decide (ckE r = 0) && (decide (r.dst.val ≠ 0) && (!r.an || decide (r.fr.val ≠ 0)))
theorem eAns:EqS Tryz.prog 45 [.u32, .i64, .i64, .i64, .i64, .i64]:=⟨by kernel_rfl,by kernel_rfl,by kernel_rfl,by kernel_rfl⟩
theorem gowithin:InGo Tryz.prog 164:=InGo.of Tryz.func164 rfl (by decide)
theorem gojrun:InGo Tryz.prog 163:=InGo.of Tryz.func163 rfl (by decide)
theorem gojCheck:InGo Tryz.prog 101:=InGo.of Tryz.func101 rfl (by decide)
theorem goValidR:InGo Tryz.prog 58:=InGo.of Tryz.func58 rfl (by decide)
theorem within_ok(n m:Int):Ok Tryz.prog 164 [intC n,intC m] (boolC (decide (0≤n∧n≤m))):=by
  refine Ok.enter Tryz.func164 J _ Tryz.ntmps164 J ?_
  intro S w;refine Qy (Qx fun K hK=> ?_);refine Qv J J J (Qj (hK _ _ (Qz (Qy ?_))));clear hK K;refine Qx (fun K hK=> ?_);refine Qq J J J (Qk igeq J J J J (Qq J J J (Qi 7 J (fun h=> ?_) (fun h=> ?_))))
  · refine Qq J J J (Qq J J J (Qk ileq J J J J (Q5 J J J J (Qv J J J (Qj (hK _ _ (Qz (Q4 ?_))))))));clear hK K;refine Q1 [_] rfl (QX J QZ) (by rw [show decide (0≤n∧n≤m)=decide (n≤m) from decide_eq_decide.2 ⟨fun h2=>h2.2,fun h2=>⟨h,h2⟩⟩];rfl) J
  · refine Qw J J J (Qw J J J (Qw J J J (Q7 J J J J (Qv J J J (Qj (hK _ _ (Qz (Q4 ?_))))))));clear hK K;refine Q1 [_] rfl (QX J QZ) (by rw [decide_eq_false (fun h2:0≤n∧n≤m=>h h2.1)];rfl) J
theorem jrun_ok(n m:Int):Ok Tryz.prog 163 [intC n,intC m] (boolC (decide ((0≤n∧n≤15)∧0≤m∧m≤63))):=by
  refine Ok.enter Tryz.func163 J _ Tryz.ntmps163 J ?_
  intro S w;refine Qy (Qx fun K hK=> ?_);refine Qv J J J (Qj (hK _ _ (Qz (Qy ?_))));clear hK K;refine Qx (fun K hK=> ?_);refine Qq J J J (QV gowithin (within_ok n 15) J J J J (Qq J J J (Qi 7 J (fun h=> ?_) (fun h=> ?_))))
  · refine Qq J J J (QV gowithin (within_ok m 63) J J J J (Q5 J J J J (Qv J J J (Qj (hK _ _ (Qz (Q4 ?_)))))));clear hK K;refine Q1 [_] rfl (QX J QZ) (by rw [show decide ((0≤n∧n≤15)∧0≤m∧m≤63)=decide (0≤m∧m≤63) from decide_eq_decide.2 ⟨fun h2=>h2.2,fun h2=>⟨h,h2⟩⟩];rfl) J
  · refine Qw J J J (Qw J J J (Q7 J J J J (Qv J J J (Qj (hK _ _ (Qz (Q4 ?_)))))));clear hK K;refine Q1 [_] rfl (QX J QZ) (by rw [decide_eq_false (fun h2:(0≤n∧n≤15)∧0≤m∧m≤63=>h h2.1)];rfl) J
set_option maxHeartbeats 4000000 in
theorem jCheck_ok(r:Rs):Ok Tryz.prog 101 [rsC r] (intC (ckE r)):=by
  refine Ok.enter Tryz.func101 J _ Tryz.ntmps101 J ?_
  intro S w;refine Qy (Qx fun K hK=> ?_);refine Xu 0 J J J J J J J (Qv J J J (Qj (hK _ _ (Qz (Qy ?_)))));clear hK K;refine Qx (fun K hK=> ?_);refine QJ J J J fS11 J (Yv (n:=6) J J J J (Nat.le_of_ble_eq_true J) lAns J (Qf 1 J J zvAns J J J (Qa 6 J J J J J szAns J J (Qj (hK _ _ (Qz (Qy (Q3 (Qy (Qy ?_))))))))));clear hK K;refine Qx (fun K hK=> ?_);refine QJ J J J fS0 J (QQ J J J J J lInt J (QJ J J J fS1 J (QQ J J J J J lInt J (QV gojrun (jrun_ok r.va r.ru) J J J J (Qi 11 J (fun h1=> ?_) (fun h1=> ?_))))));rotate_left
  · refine Xz J J J (Qv J J J (Qj (hK _ _ (Qz (XZ J (QW (Qz (XZ J (Qy ?_)))))))));clear hK K;refine Qx (fun K hK=> ?_);refine Qv J J J (Qj (hK _ _ (Qz (Q4 (Qb (QY ?_))))));clear hK K;refine Q1 [_] rfl (QX J QZ) (by rw [show ckE r=1 from if_pos (by unfold P1;omega)];rfl) J
  refine Xz J J J (Qv J J J (Qj (hK _ _ (Qz (Xy J (Qy ?_))))));clear hK K;refine Qx (fun K hK=> ?_);refine QJ J J J fS2 J (QQ J J J J J lInt J (QV gowithin (within_ok r.nu 999) J J J J (Qi 15 J (fun h2=> ?_) (fun h2=> ?_))));rotate_left
  · refine Xz J J J (Qv J J J (Qj (hK _ _ (Qz (XZ J (QW (Qz (XZ J (Qy ?_)))))))));clear hK K;refine Qx (fun K hK=> ?_);refine Qv J J J (Qj (hK _ _ (Qz (Q4 (Qb (QY ?_))))));clear hK K;refine Q1 [_] rfl (QX J QZ) (by rw [show ckE r=1 from if_pos (by unfold P1;omega)];rfl) J
  refine Xz J J J (Qv J J J (Qj (hK _ _ (Qz (Xy J (Qy ?_))))));clear hK K;refine Qx (fun K hK=> ?_);refine QJ J J J fS3 J (QQ J J J J J lInt J (QV gowithin (within_ok r.tm 2251799813685248) J J J J (Qi 19 J (fun h3=> ?_) (fun h3=> ?_))));rotate_left
  · refine Xz J J J (Qv J J J (Qj (hK _ _ (Qz (XZ J (QW (Qz (XZ J (Qy ?_)))))))));clear hK K;refine Qx (fun K hK=> ?_);refine Qv J J J (Qj (hK _ _ (Qz (Q4 (Qb (QY ?_))))));clear hK K;refine Q1 [_] rfl (QX J QZ) (by rw [show ckE r=1 from if_pos (by unfold P1;omega)];rfl) J
  refine Xz J J J (Qv J J J (Qj (hK _ _ (Qz (Xy J (Qy ?_))))));clear hK K;refine Qx (fun K hK=> ?_);refine QJ J J J fS10 J (QQ J J J J J lInt J (QV gowithin (within_ok r.bk 2251799813685248) J J J J (Qi 23 J (fun h4=> ?_) (fun h4=> ?_))));rotate_left
  · refine Xz J J J (Qv J J J (Qj (hK _ _ (Qz (XZ J (QW (Qz (XZ J (Qy ?_)))))))));clear hK K;refine Qx (fun K hK=> ?_);refine Qv J J J (Qj (hK _ _ (Qz (Q4 (Qb (QY ?_))))));clear hK K;refine Q1 [_] rfl (QX J QZ) (by rw [show ckE r=1 from if_pos (by unfold P1;omega)];rfl) J
  refine Xz J J J (Qv J J J (Qj (hK _ _ (Qz (Xy J (Qy ?_))))));clear hK K;refine Qx (fun K hK=> ?_);refine QJ J J J fS10 J (QQ J J J J J lInt J (QJ J J J fS3 J (QQ J J J J J lInt J (Qk ilss J J J J (Qv J J J (Qj (hK _ _ (Qz ?_))))))));clear hK K;refine Q2 J (fun h5=> ?_) (fun h5=> ?_)
  · refine QW (Qz ?_);refine Q2 J (fun _=> ?_) (fun h=>absurd h5 h);refine Qy (Qx fun K hK=> ?_);refine Qv J J J (Qj (hK _ _ (Qz (Q4 (Qb (QY ?_))))));clear hK K;refine Q1 [_] rfl (QX J QZ) (by rw [show ckE r=1 from if_pos (by unfold P1;omega)];rfl) J
  refine Qy (Qx fun K hK=> ?_);refine QJ J J J fS6 J (QQ J J J J J lInt J (QV gowithin (within_ok r.fl 1023) J J J J (Qi 32 J (fun h6=> ?_) (fun h6=> ?_))));rotate_left
  · refine Xz J J J (Qv J J J (Qj (hK _ _ (Qz (XZ J (QW (Qz (XZ J (Qy ?_)))))))));clear hK K;refine Qx (fun K hK=> ?_);refine Qv J J J (Qj (hK _ _ (Qz (Q4 (Qb (QY ?_))))));clear hK K;refine Q1 [_] rfl (QX J QZ) (by rw [show ckE r=1 from if_pos (by unfold P1;omega)];rfl) J
  refine Xz J J J (Qv J J J (Qj (hK _ _ (Qz (Xy J ?_)))));clear hK K;refine Qx (fun K hK=> ?_);refine QJ J J J fS7 J (QQ J J J J J lInt J (Qk ilss J J J J (Qq J J J (Qi 37 J (fun h7=> ?_) (fun h7=> ?_)))))
  · refine Qw J J J (Qw J J J (Qw J J J (Q5 J J J J (Qv J J J (Qj (hK _ _ (Qz (XZ J (Qy ?_)))))))));clear hK K;refine Qx (fun K hK=> ?_);refine Qv J J J (Qj (hK _ _ (Qz (Q4 (Qb (QY ?_))))));clear hK K;refine Q1 [_] rfl (QX J QZ) (by rw [show ckE r=1 from if_pos (by unfold P1;omega)];rfl) J
  refine QJ J J J fS7 J (QQ J J J J J lInt J (Qk igtr J J J J (Q7 J J J J (Qv J J J (Qj (hK _ _ (Qz ?_)))))));clear hK K;refine Q2 J (fun h8=> ?_) (fun h8=> ?_)
  · refine Qy (Qx fun K hK=> ?_);refine Qv J J J (Qj (hK _ _ (Qz (Q4 (Qb (QY ?_))))));clear hK K;refine Q1 [_] rfl (QX J QZ) (by rw [show ckE r=1 from if_pos (by unfold P1;omega)];rfl) J
  have n1:¬P1 r:=by unfold P1;omega
  clear h1 h2 h3 h4 h5 h6 h7 h8;refine Qy (YJ (α:=Bool) (fun b=>b=decide (P2 r)) (fun b=>[(1, .own 0),(3, .own 1),(42, .ct (boolC b))]) (fun _=>[(1, .box 45 [adrC r.fr.val,intC r.ki,intC r.co,intC r.le,intC r.id,intC r.qu]),(0, .box 47 (rsCs r))]) (fun b hb=> ?_) (fun KK hN=> ?_));rotate_left
  · refine Qx (fun K hK=> ?_);refine QJ J J J fS5 J (QQ J J J J J lInt J (Qk ineq J J J J (Qq J J J (Qi 46 J (fun h9=> ?_) (fun h9=> ?_)))))
    · refine QJ J J J fS5 J (QQ J J J J J lInt J (Qk ineq J J J J (Q5 J J J J (Qq J J J (Qi 51 J (fun h10=> ?_) (fun h10=> ?_))))))
      · refine QJ J J J fS5 J (QQ J J J J J lInt J (Qk ineq J J J J (Q5 J J J J (Qv J J J (Qj (hK _ _ ?_))))));clear hK K;exact Xk hN (decide (r.pr≠17)) (decide_eq_decide.2 ⟨fun h=>⟨h9,h10,h⟩,fun h=>h.2.2⟩) (by exact Qu J ⟨rfl,rfl,rfl,trivial⟩)
      · refine Qw J J J (Qw J J J (Qw J J J (Q7 J J J J (Qv J J J (Qj (hK _ _ ?_))))));clear hK K;exact Xk hN false (decide_eq_false (fun h=>h10 h.2.1)).symm (by exact Qu J ⟨rfl,rfl,rfl,trivial⟩)
    · refine Qw J J J (Qw J J J (Qw J J J (Q7 J J J J (Qq J J J (Qw J J J (Qw J J J (Qw J J J (Q7 J J J J (Qv J J J (Qj (hK _ _ ?_)))))))))));clear hK K;exact Xk hN false (decide_eq_false (fun h=>h9 h.1)).symm (by exact Qu J ⟨rfl,rfl,rfl,trivial⟩)
  subst hb;skip;refine X6 J (fun h9=> ?_) (fun h9=> ?_)
  · refine Qy (Qx fun K hK=> ?_);refine Qv J J J (Qj (hK _ _ (Qz (Q4 (Qb (QY ?_))))));clear hK K;refine Q1 [_] rfl (QX J QZ) (by rw [show ckE r=16 from (if_neg n1).trans (if_pos (of_decide_eq_true h9))];rfl) J
  have n2:¬P2 r:=of_decide_eq_false h9;have hbx:rsCs r=[intC r.va,intC r.ru,intC r.nu,intC r.tm,adrC r.dst.val,intC r.pr,intC r.fl,intC r.tt,boolC r.an,boolC r.db,intC r.bk,adrC r.fr.val,intC r.ki,intC r.co,intC r.le,intC r.id,intC r.qu]:=rfl;rw [hbx];clear hbx h9;have e3:P3 r=(r.an=false∧(r.db=true∨anI r≠ [0,0,0,0,0,0])):=rfl;have e4:P4 r=(r.an=true∧(r.ki<1∨5<r.ki∨r.co<0∨255<r.co∨r.le<0∨255<r.le∨r.qu<0∨255<r.qu∨r.id<0∨65535<r.id)):=rfl;generalize han:r.an=an at e3 e4 ⊢;generalize hdb:r.db=db at e3 ⊢
  cases an with
  |false=>
    cases db with
    |true=>
      refine Qy (Qy (Qx fun K hK=> ?_));refine QJ J J J fS9 J (QQ J J J J J lBool1 J (Qq J J J (QJ J J J fS8 J (QQ J J J J J lBool1 J (Xz J J J (Q5 J J J J (Qv J J J (Qj (hK _ _ (Qz (XZ J (QW (Qz (XZ J (Qy ?_)))))))))))))));clear hK K;refine Qx (fun K hK=> ?_);refine Qv J J J (Qj (hK _ _ (Qz (Q4 (Qb (QY ?_))))));clear hK K;refine Q1 [_] rfl (QX J QZ) (by rw [show ckE r=7 from (if_neg n1).trans ((if_neg n2).trans (if_pos (by rw [e3];exact ⟨rfl, .inl J⟩)))];rfl) J
    |false=>
      refine Qy (Qy (Qx fun K hK=> ?_));refine QJ J J J fS9 J (QQ J J J J J lBool1 J (Qq J J J (Qw J J J (Qw J J J (Qw J J J (Q7 J J J J (Qv J J J (Qj (hK _ _ (Qz (Xy J ?_)))))))))));clear hK K;refine Qx (fun K hK=> ?_);refine QJ J J J fS8 J (QQ J J J J J lBool1 J (Xz J J J (Qq J J J (Qc (n:=6) J J J J J lAns J (Qo J bAns J .nil J (Ops.neS (ks:=[.u32, .i64, .i64, .i64, .i64, .i64]) (anI r) [0,0,0,0,0,0] rfl rfl rfl rfl rfl eAns J (Q5 J J J J (Qv J J J (Qj (hK _ _ (Qz ?_)))))))))));clear hK K;refine X6 J (fun k0=> ?_) (fun k0=> ?_)
      · refine Qy (Qx fun K hK=> ?_);refine Qv J J J (Qj (hK _ _ (Qz (Q4 (Qb (QY ?_))))));clear hK K;refine Q1 [_] rfl (QX J QZ) (by rw [show ckE r=7 from (if_neg n1).trans ((if_neg n2).trans (if_pos (by rw [e3];exact ⟨rfl, .inr (of_decide_eq_false (by simpa using k0))⟩)))];rfl) J
      · have n3:¬P3 r:=by rw [e3];exact fun h=>h.2.elim (fun h=>by cases h) (fun h=>h (by simpa using k0))
        have n4:¬P4 r:=by rw [e4];exact fun h=>by cases h.1
        refine Qy (Qx fun K hK=> ?_);refine QJ J J J fS8 J (QQ J J J J J lBool1 J (Qq J J J (Qw J J J (Qw J J J (Qw J J J (Qw J J J (Qw J J J (Qw J J J (Qw J J J (Qw J J J (Qw J J J (Qw J J J (Qw J J J (Qw J J J (Qw J J J (Qw J J J (Qw J J J (Qw J J J (Qw J J J (Qw J J J (Qw J J J (Qw J J J (Qw J J J (Qw J J J (Qw J J J (Qw J J J (Qw J J J (Qw J J J (Qw J J J (Qw J J J (Qw J J J (Qw J J J (Qw J J J (Qw J J J (Q7 J J J J (Qv J J J (Qj (hK _ _ (Qz (Xy J (QW (Qz (Qy ?_)))))))))))))))))))))))))))))))))))))))))));clear hK K;refine Qx (fun K hK=> ?_);refine Qv J J J (Qj (hK _ _ (Qz (Q4 ?_))));clear hK K;refine Q1 [_] rfl (QX J QZ) (by rw [show ckE r=0 from (if_neg n1).trans ((if_neg n2).trans ((if_neg n3).trans (if_neg n4)))];rfl) J
  |true=>
    have n3:¬P3 r:=by rw [e3];exact fun h=>by cases h.1
    cases db with
    |false=>
      refine Qy (Qy (Qx fun K hK=> ?_));refine QJ J J J fS9 J (QQ J J J J J lBool1 J (Qq J J J (Qw J J J (Qw J J J (Qw J J J (Q7 J J J J (Qv J J J (Qj (hK _ _ (Qz (Xy J ?_)))))))))));clear hK K;refine Qx (fun K hK=> ?_);refine QJ J J J fS8 J (QQ J J J J J lBool1 J (Xz J J J (Qq J J J (Qw J J J (Qw J J J (Qw J J J (Q7 J J J J (Qv J J J (Qj (hK _ _ (Qz (Xy J (Qy ?_)))))))))))));clear hK K;refine Qx (fun K hK=> ?_);refine QJ J J J fS8 J (QQ J J J J J lBool1 J (Qq J J J (QJ J J J fN1 J (QQ J J J J J lInt J (Qk ilss J J J J (Qq J J J (Qi 79 J (fun k1=> ?_) (fun k1=> ?_))))))))
      · refine Qw J J J (Qw J J J (Qw J J J (Q5 J J J J (Qq J J J (Qw J J J (Qw J J J (Qw J J J (Qw J J J (Q5 J J J J (Qq J J J (Qw J J J (Qw J J J (Qw J J J (Qw J J J (Q5 J J J J (Qq J J J (Qw J J J (Qw J J J (Qw J J J (Qw J J J (Q5 J J J J (Qq J J J (Qw J J J (Qw J J J (Qw J J J (Qw J J J (Q5 J J J J (Q5 J J J J (Qv J J J (Qj (hK _ _ (Qz (XZ J (Qy ?_))))))))))))))))))))))))))))))))));clear hK K;refine Qx (fun K hK=> ?_);refine Qv J J J (Qj (hK _ _ (Qz (Q4 (Qb (QY ?_))))));clear hK K;refine Q1 [_] rfl (QX J QZ) (by rw [show ckE r=1 from (if_neg n1).trans ((if_neg n2).trans ((if_neg n3).trans (if_pos (by rw [e4];exact ⟨rfl,by omega⟩))))];rfl) J
      refine QJ J J J fN1 J (QQ J J J J J lInt J (Qk igtr J J J J (Q7 J J J J (Qq J J J (Qi 84 J (fun k2=> ?_) (fun k2=> ?_))))))
      · refine Qw J J J (Qw J J J (Qw J J J (Qw J J J (Q5 J J J J (Qq J J J (Qw J J J (Qw J J J (Qw J J J (Qw J J J (Q5 J J J J (Qq J J J (Qw J J J (Qw J J J (Qw J J J (Qw J J J (Q5 J J J J (Qq J J J (Qw J J J (Qw J J J (Qw J J J (Qw J J J (Q5 J J J J (Q5 J J J J (Qv J J J (Qj (hK _ _ (Qz (XZ J (Qy ?_)))))))))))))))))))))))))))));clear hK K;refine Qx (fun K hK=> ?_);refine Qv J J J (Qj (hK _ _ (Qz (Q4 (Qb (QY ?_))))));clear hK K;refine Q1 [_] rfl (QX J QZ) (by rw [show ckE r=1 from (if_neg n1).trans ((if_neg n2).trans ((if_neg n3).trans (if_pos (by rw [e4];exact ⟨rfl,by omega⟩))))];rfl) J
      refine QJ J J J fN2 J (QQ J J J J J lInt J (QV gowithin (within_ok r.co 255) J J J J (Qi 87 J (fun k3=> ?_) (fun k3=> ?_))));rotate_left
      · refine Xz J J J (Q7 J J J J (Qq J J J (Qw J J J (Qw J J J (Qw J J J (Qw J J J (Q5 J J J J (Qq J J J (Qw J J J (Qw J J J (Qw J J J (Qw J J J (Q5 J J J J (Qq J J J (Qw J J J (Qw J J J (Qw J J J (Qw J J J (Q5 J J J J (Q5 J J J J (Qv J J J (Qj (hK _ _ (Qz (XZ J (Qy ?_))))))))))))))))))))))))));clear hK K;refine Qx (fun K hK=> ?_);refine Qv J J J (Qj (hK _ _ (Qz (Q4 (Qb (QY ?_))))));clear hK K;refine Q1 [_] rfl (QX J QZ) (by rw [show ckE r=1 from (if_neg n1).trans ((if_neg n2).trans ((if_neg n3).trans (if_pos (by rw [e4];exact ⟨rfl,by omega⟩))))];rfl) J
      refine Xz J J J (Q7 J J J J (Qq J J J (QJ J J J fN3 J (QQ J J J J J lInt J (QV gowithin (within_ok r.le 255) J J J J (Qi 93 J (fun k4=> ?_) (fun k4=> ?_)))))));rotate_left
      · refine Xz J J J (Q7 J J J J (Qq J J J (Qw J J J (Qw J J J (Qw J J J (Qw J J J (Q5 J J J J (Qq J J J (Qw J J J (Qw J J J (Qw J J J (Qw J J J (Q5 J J J J (Q5 J J J J (Qv J J J (Qj (hK _ _ (Qz (XZ J (Qy ?_))))))))))))))))))));clear hK K;refine Qx (fun K hK=> ?_);refine Qv J J J (Qj (hK _ _ (Qz (Q4 (Qb (QY ?_))))));clear hK K;refine Q1 [_] rfl (QX J QZ) (by rw [show ckE r=1 from (if_neg n1).trans ((if_neg n2).trans ((if_neg n3).trans (if_pos (by rw [e4];exact ⟨rfl,by omega⟩))))];rfl) J
      refine Xz J J J (Q7 J J J J (Qq J J J (QJ J J J fN5 J (QQ J J J J J lInt J (QV gowithin (within_ok r.qu 255) J J J J (Qi 99 J (fun k5=> ?_) (fun k5=> ?_)))))));rotate_left
      · refine Xz J J J (Q7 J J J J (Qq J J J (Qw J J J (Qw J J J (Qw J J J (Qw J J J (Q5 J J J J (Q5 J J J J (Qv J J J (Qj (hK _ _ (Qz (XZ J (Qy ?_))))))))))))));clear hK K;refine Qx (fun K hK=> ?_);refine Qv J J J (Qj (hK _ _ (Qz (Q4 (Qb (QY ?_))))));clear hK K;refine Q1 [_] rfl (QX J QZ) (by rw [show ckE r=1 from (if_neg n1).trans ((if_neg n2).trans ((if_neg n3).trans (if_pos (by rw [e4];exact ⟨rfl,by omega⟩))))];rfl) J
      refine Xz J J J (Q7 J J J J (Qq J J J (QJ J J J fN4 J (QQ J J J J J lInt J (QV gowithin (within_ok r.id 65535) J J J J (Qi 105 J (fun k6=> ?_) (fun k6=> ?_)))))));rotate_left
      · refine Xz J J J (Q7 J J J J (Q5 J J J J (Qv J J J (Qj (hK _ _ (Qz (XZ J (Qy ?_))))))));clear hK K;refine Qx (fun K hK=> ?_);refine Qv J J J (Qj (hK _ _ (Qz (Q4 (Qb (QY ?_))))));clear hK K;refine Q1 [_] rfl (QX J QZ) (by rw [show ckE r=1 from (if_neg n1).trans ((if_neg n2).trans ((if_neg n3).trans (if_pos (by rw [e4];exact ⟨rfl,by omega⟩))))];rfl) J
      have n4:¬P4 r:=by rw [e4];exact fun h=>by have:=h.2;omega
      refine Xz J J J (Q7 J J J J (Q5 J J J J (Qv J J J (Qj (hK _ _ (Qz (Xy J (QW (Qz (Qy ?_))))))))));clear hK K;refine Qx (fun K hK=> ?_);refine Qv J J J (Qj (hK _ _ (Qz (Q4 ?_))));clear hK K;refine Q1 [_] rfl (QX J QZ) (by rw [show ckE r=0 from (if_neg n1).trans ((if_neg n2).trans ((if_neg n3).trans (if_neg n4)))];rfl) J
    |true=>
      refine Qy (Qy (Qx fun K hK=> ?_));refine QJ J J J fS9 J (QQ J J J J J lBool1 J (Qq J J J (QJ J J J fS8 J (QQ J J J J J lBool1 J (Xz J J J (Q5 J J J J (Qv J J J (Qj (hK _ _ (Qz (Xy J ?_)))))))))));clear hK K;refine Qx (fun K hK=> ?_);refine QJ J J J fS8 J (QQ J J J J J lBool1 J (Xz J J J (Qq J J J (Qw J J J (Qw J J J (Qw J J J (Q7 J J J J (Qv J J J (Qj (hK _ _ (Qz (Xy J (Qy ?_)))))))))))));clear hK K;refine Qx (fun K hK=> ?_);refine QJ J J J fS8 J (QQ J J J J J lBool1 J (Qq J J J (QJ J J J fN1 J (QQ J J J J J lInt J (Qk ilss J J J J (Qq J J J (Qi 79 J (fun k1=> ?_) (fun k1=> ?_))))))))
      · refine Qw J J J (Qw J J J (Qw J J J (Q5 J J J J (Qq J J J (Qw J J J (Qw J J J (Qw J J J (Qw J J J (Q5 J J J J (Qq J J J (Qw J J J (Qw J J J (Qw J J J (Qw J J J (Q5 J J J J (Qq J J J (Qw J J J (Qw J J J (Qw J J J (Qw J J J (Q5 J J J J (Qq J J J (Qw J J J (Qw J J J (Qw J J J (Qw J J J (Q5 J J J J (Q5 J J J J (Qv J J J (Qj (hK _ _ (Qz (XZ J (Qy ?_))))))))))))))))))))))))))))))))));clear hK K;refine Qx (fun K hK=> ?_);refine Qv J J J (Qj (hK _ _ (Qz (Q4 (Qb (QY ?_))))));clear hK K;refine Q1 [_] rfl (QX J QZ) (by rw [show ckE r=1 from (if_neg n1).trans ((if_neg n2).trans ((if_neg n3).trans (if_pos (by rw [e4];exact ⟨rfl,by omega⟩))))];rfl) J
      refine QJ J J J fN1 J (QQ J J J J J lInt J (Qk igtr J J J J (Q7 J J J J (Qq J J J (Qi 84 J (fun k2=> ?_) (fun k2=> ?_))))))
      · refine Qw J J J (Qw J J J (Qw J J J (Qw J J J (Q5 J J J J (Qq J J J (Qw J J J (Qw J J J (Qw J J J (Qw J J J (Q5 J J J J (Qq J J J (Qw J J J (Qw J J J (Qw J J J (Qw J J J (Q5 J J J J (Qq J J J (Qw J J J (Qw J J J (Qw J J J (Qw J J J (Q5 J J J J (Q5 J J J J (Qv J J J (Qj (hK _ _ (Qz (XZ J (Qy ?_)))))))))))))))))))))))))))));clear hK K;refine Qx (fun K hK=> ?_);refine Qv J J J (Qj (hK _ _ (Qz (Q4 (Qb (QY ?_))))));clear hK K;refine Q1 [_] rfl (QX J QZ) (by rw [show ckE r=1 from (if_neg n1).trans ((if_neg n2).trans ((if_neg n3).trans (if_pos (by rw [e4];exact ⟨rfl,by omega⟩))))];rfl) J
      refine QJ J J J fN2 J (QQ J J J J J lInt J (QV gowithin (within_ok r.co 255) J J J J (Qi 87 J (fun k3=> ?_) (fun k3=> ?_))));rotate_left
      · refine Xz J J J (Q7 J J J J (Qq J J J (Qw J J J (Qw J J J (Qw J J J (Qw J J J (Q5 J J J J (Qq J J J (Qw J J J (Qw J J J (Qw J J J (Qw J J J (Q5 J J J J (Qq J J J (Qw J J J (Qw J J J (Qw J J J (Qw J J J (Q5 J J J J (Q5 J J J J (Qv J J J (Qj (hK _ _ (Qz (XZ J (Qy ?_))))))))))))))))))))))))));clear hK K;refine Qx (fun K hK=> ?_);refine Qv J J J (Qj (hK _ _ (Qz (Q4 (Qb (QY ?_))))));clear hK K;refine Q1 [_] rfl (QX J QZ) (by rw [show ckE r=1 from (if_neg n1).trans ((if_neg n2).trans ((if_neg n3).trans (if_pos (by rw [e4];exact ⟨rfl,by omega⟩))))];rfl) J
      refine Xz J J J (Q7 J J J J (Qq J J J (QJ J J J fN3 J (QQ J J J J J lInt J (QV gowithin (within_ok r.le 255) J J J J (Qi 93 J (fun k4=> ?_) (fun k4=> ?_)))))));rotate_left
      · refine Xz J J J (Q7 J J J J (Qq J J J (Qw J J J (Qw J J J (Qw J J J (Qw J J J (Q5 J J J J (Qq J J J (Qw J J J (Qw J J J (Qw J J J (Qw J J J (Q5 J J J J (Q5 J J J J (Qv J J J (Qj (hK _ _ (Qz (XZ J (Qy ?_))))))))))))))))))));clear hK K;refine Qx (fun K hK=> ?_);refine Qv J J J (Qj (hK _ _ (Qz (Q4 (Qb (QY ?_))))));clear hK K;refine Q1 [_] rfl (QX J QZ) (by rw [show ckE r=1 from (if_neg n1).trans ((if_neg n2).trans ((if_neg n3).trans (if_pos (by rw [e4];exact ⟨rfl,by omega⟩))))];rfl) J
      refine Xz J J J (Q7 J J J J (Qq J J J (QJ J J J fN5 J (QQ J J J J J lInt J (QV gowithin (within_ok r.qu 255) J J J J (Qi 99 J (fun k5=> ?_) (fun k5=> ?_)))))));rotate_left
      · refine Xz J J J (Q7 J J J J (Qq J J J (Qw J J J (Qw J J J (Qw J J J (Qw J J J (Q5 J J J J (Q5 J J J J (Qv J J J (Qj (hK _ _ (Qz (XZ J (Qy ?_))))))))))))));clear hK K;refine Qx (fun K hK=> ?_);refine Qv J J J (Qj (hK _ _ (Qz (Q4 (Qb (QY ?_))))));clear hK K;refine Q1 [_] rfl (QX J QZ) (by rw [show ckE r=1 from (if_neg n1).trans ((if_neg n2).trans ((if_neg n3).trans (if_pos (by rw [e4];exact ⟨rfl,by omega⟩))))];rfl) J
      refine Xz J J J (Q7 J J J J (Qq J J J (QJ J J J fN4 J (QQ J J J J J lInt J (QV gowithin (within_ok r.id 65535) J J J J (Qi 105 J (fun k6=> ?_) (fun k6=> ?_)))))));rotate_left
      · refine Xz J J J (Q7 J J J J (Q5 J J J J (Qv J J J (Qj (hK _ _ (Qz (XZ J (Qy ?_))))))));clear hK K;refine Qx (fun K hK=> ?_);refine Qv J J J (Qj (hK _ _ (Qz (Q4 (Qb (QY ?_))))));clear hK K;refine Q1 [_] rfl (QX J QZ) (by rw [show ckE r=1 from (if_neg n1).trans ((if_neg n2).trans ((if_neg n3).trans (if_pos (by rw [e4];exact ⟨rfl,by omega⟩))))];rfl) J
      have n4:¬P4 r:=by rw [e4];exact fun h=>by have:=h.2;omega
      refine Xz J J J (Q7 J J J J (Q5 J J J J (Qv J J J (Qj (hK _ _ (Qz (Xy J (QW (Qz (Qy ?_))))))))));clear hK K;refine Qx (fun K hK=> ?_);refine Qv J J J (Qj (hK _ _ (Qz (Q4 ?_))));clear hK K;refine Q1 [_] rfl (QX J QZ) (by rw [show ckE r=0 from (if_neg n1).trans ((if_neg n2).trans ((if_neg n3).trans (if_neg n4)))];rfl) J
set_option maxHeartbeats 4000000 in
theorem ValidR_ok(r:Rs):Ok Tryz.prog 58 [rsC r] (boolC (okR r)):=by
  have e0:okR r=(decide (ckE r=0)&&(decide (r.dst.val≠0)&&(!r.an||decide (r.fr.val≠0)))):=rfl;have hC:=jCheck_ok r;generalize ckE r=e at e0 hC
  refine Ok.enter Tryz.func58 J _ Tryz.ntmps58 J ?_
  intro S w;refine Qy (Qx fun K hK=> ?_);refine Xu 0 J J J J J J J (Qv J J J (Qj (hK _ _ (Qz (Qy ?_)))));clear hK K;refine Qx (fun K hK=> ?_);refine Qc (n:=17) J J J J J lRes J (QV gojCheck hC J J J J (Qk ieql J J J J (Qq J J J (Qi 6 J (fun h=> ?_) (fun h=> ?_)))));rotate_left
  · refine Qw J J J (Qw J J J (Qw J J J (Q7 J J J J (Qq J J J (Qw J J J (Qw J J J (Qw J J J (Qw J J J (Qw J J J (Qw J J J (Qw J J J (Qw J J J (Qw J J J (Q7 J J J J (Qv J J J (Qj (hK _ _ (Qz (Q4 ?_)))))))))))))))))));clear hK K;refine Q1 [_] rfl (QX J QZ) (by rw [e0,decide_eq_false h];rfl) J
  rw [decide_eq_true h,Bool.true_and] at e0;refine QJ J J J fS4 J (QQ J J J J J lAddr J (Qk ineq J J J J (Q5 J J J J (Qq J J J (Qi 11 J (fun h2=> ?_) (fun h2=> ?_))))));rotate_left
  · refine Qw J J J (Qw J J J (Qw J J J (Qw J J J (Qw J J J (Qw J J J (Qw J J J (Qw J J J (Qw J J J (Q7 J J J J (Qv J J J (Qj (hK _ _ (Qz (Q4 ?_))))))))))))));clear hK K;refine Q1 [_] rfl (QX J QZ) (by rw [e0,decide_eq_false (show ¬r.dst.val≠0 by omega)];rfl) J
  rw [decide_eq_true (show r.dst.val≠0 by omega),Bool.true_and] at e0;refine QJ J J J fS8 J (QQ J J J J J lBool1 J (Xz J J J (Qq J J J (Xd 15 J (fun h3=> ?_) (fun h3=> ?_)))))
  · have h3:r.an=false:=by simpa using h3
    refine Qw J J J (Qw J J J (Qw J J J (Qw J J J (Q5 J J J J (Q5 J J J J (Qv J J J (Qj (hK _ _ (Qz (Q4 ?_))))))))));clear hK K;refine Q1 [_] rfl (QX J QZ) (by rw [e0,h3];rfl) J
  · have h3:r.an=true:=by simpa using h3
    refine QJ J J J fS11 J (Z6 J J fN0 J (QQ J J J J J lAddr J (Qk ineq J J J J (Q7 J J J J (Q5 J J J J (Qv J J J (Qj (hK _ _ (Qz (Q4 ?_))))))))));clear hK K;refine Q1 [_] rfl (QX J QZ) (by rw [e0,h3,show decide (r.fr.val≠0)=decide ((r.fr.val:Int)≠0) from decide_eq_decide.2 (by omega)];rfl) J
end Go.Proofs.YtojkdfilabmafaaGreat
namespace Go.Own
open Go.RowKit
def partsL (L : AL) (n : Nat) : Nat → List (Nat × Operand) → List (List CT) → Prop
  | s, (i, x) :: ps, e :: es => i = s ∧ ev L x = some (.ct (.fr (aggT e))) ∧ e.length = n ∧ partsL L n (s + 1) ps es
  | _, [], [] => True
  | _, _, _ => False
theorem parts_fill{L:AL}{n:Nat}:∀(ps:List (Nat × Operand)) (es:List (List CT)) (s:Nat) (pre cs:List CT),partsL L n s ps es→pre.length=s*n→cs.length=ps.length*n→BParts L (fun i=>some (i*n,n)) ps (pre++cs) (pre++es.flatten)
  | [],[],s,pre,cs,_,_,hc=>by
    have:cs=[]:=List.eq_nil_of_length_eq_zero (by simpa using hc)
    subst this
    exact .nil
  |(i,x)::ps,e::es,s,pre,cs,h,hp,hc=>by
    obtain ⟨rfl,h2,h3,h4⟩:=h
    rw [List.length_cons,Nat.succ_mul] at hc
    have hs:spl (pre++cs) (i*n) e=(pre++e)++cs.drop n:=by
      unfold spl;rw [←hp,List.take_left,h3,List.drop_append,List.drop_of_length_le (by omega),List.nil_append,show pre.length+n - pre.length=n by omega]
    refine .agg J h2 h3 (Nat.ble_eq_true_of_le (by rw [List.length_append,hp];omega)) ?_
    rw [hs];have:=parts_fill ps es (i+1) (pre++e) (cs.drop n) h4 (by rw [List.length_append,hp,h3,Nat.succ_mul]) (by rw [List.length_drop];omega);rw [List.flatten_cons,←List.append_assoc];exact this
  | [],_::_,_,_,_,h,_,_=>h.elim
  |_::_,[],_,_,_,h,_,_=>h.elim
variable {X : Ctx} {L : AL} {B : BL} {ops : Array Oper} {K : Act → World → Prop} {r : Pl} {k : Kd}
  {x y z : Operand} {d : Nat} {t t2 t' : TypeId} {pos : String} {af : Array Edge} {g : Option (Nat × Bool)}
theorem Ops.buildAA{el len n:Nat}{ps:List (Nat × Operand)}{zv:Value}(es:List (List CT))(hg:gd ops L g=some true)(hT:ArrT X.P t el len n zv)(hz:zv.cells.size=ps.length*n)(hb:partsL L n 0 ps es)(hn:Nat.blt d X.n=true)
    (h:Ops X ops r ((d, .ct (.fr (aggT es.flatten)))::L) B K):Ops X ops (.cons ⟨some d, .build t ps.toArray,t',pos,af,g⟩ k r) L B K:=
  Z9 hg hT (by
    have:=parts_fill ps es 0 [] (zv.cells.toList.map CT.ex) hb (by simp) (by rw [List.length_map,Array.length_toList];exact hz)
    simpa using this) hn h
end Go.Own
namespace Go.Own
open Go.RowKit
def memN : List Nat → Nat → Bool
  | [], _ => false
  | a :: l, x => match Nat.beq a x with
    | true => true
    | false => memN l x
theorem memN_iff:∀{l:List Nat} {x:Nat},memN l x=true↔x∈l
  | [],x=>by simp [memN]
  |a::l,x=>by
    unfold memN
    split
    · rename_i h
      rw [Nat.eq_of_beq_eq_true h];simp
    · rename_i h
      have:a≠x:=fun e=>by subst e;rw [Nat.beq_refl] at h;cases h
      rw [memN_iff,List.mem_cons]
      constructor
      · exact .inr
      · rintro (rfl|h)
        · exact absurd rfl this
        · exact h
def bnd (o : Oper) : List Nat := (o.after.toList.filter (Region.binds .any)).map (·.on)
theorem mem_bnd{o:Oper}{i:Nat}:i∈bnd o↔∃e∈o.after,Region.binds .any e=true∧e.on=i:=by
  unfold bnd;simp only [List.mem_map,List.mem_filter,Array.mem_toList_iff];constructor
  · rintro ⟨e,⟨h1,h2⟩,h3⟩;exact ⟨e,h1,h2,h3⟩
  · rintro ⟨e,h1,h2,h3⟩;exact ⟨e,⟨h1,h2⟩,h3⟩
def noneIn (A rem : List Nat) : Bool := A.all fun x => !memN rem x
def okT (A : List Nat) (j t : Nat) : List Oper → Nat → Bool
  | [], _ => true
  | o :: r, i => (match o.dst with
    | some d => match Nat.beq d t with
      | true => Nat.beq i j || memN A i
      | false => true
    | none => true) && okT A j t r (i + 1)
def s1F (ops : Array Oper) (l : List Oper) : List Oper → Nat → Bool
  | [], _ => true
  | o :: r, j => ((o.looksAt ops).all fun t => okT (bnd o) j t l 0) && s1F ops l r (j + 1)
def s2F : List Oper → Bool
  | [] => true
  | o :: r => (match o.dst with
    | some d => r.all fun q => match q.dst with
      | some e => !Nat.beq d e
      | none => true
    | none => true) && s2F r
def inB (n : Nat) : List Oper → Bool
  | [] => true
  | o :: r => (bnd o).all (fun x => Nat.blt x n) && inB n r
theorem okT_spec{A:List Nat}{j t:Nat}:∀{r:List Oper} {s:Nat},okT A j t r s=true→∀i,i<r.length→(nth r i).dst=some t→s+i=j∨(s+i)∈A
  | [],_,_,i,h,_=>by simp at h
  |o::r,s,h,0,_,hd=>by
    simp only [okT,Bool.and_eq_true] at h
    have h1:=h.1
    have hd:o.dst=some t:=hd
    rw [hd] at h1
    simp only [Nat.beq_refl,Bool.or_eq_true] at h1
    rcases h1 with h1|h1
    · exact .inl (Nat.eq_of_beq_eq_true h1)
    · exact .inr (memN_iff.1 h1)
  |o::r,s,h,i+1,hi,hd=>by
    simp only [okT,Bool.and_eq_true] at h
    have:=okT_spec h.2 i (by simpa using hi) hd
    rw [show s+(i+1)=s+1+i by omega];exact this
theorem s1F_spec{ops:Array Oper}{l:List Oper}:∀{r:List Oper} {s:Nat},s1F ops l r s=true→∀j,j<r.length→∀t∈(nth r j).looksAt ops,∀i,i<l.length→(nth l i).dst=some t→i=s+j∨i∈bnd (nth r j)
  | [],_,_,j,h=>by simp at h
  |o::r,s,h,0,_=>fun t ht i hi hd=>by
    simp only [s1F,Bool.and_eq_true,List.all_eq_true] at h
    have:=okT_spec (h.1 t ht) i hi hd
    rw [Nat.zero_add] at this
    rcases this with h|h
    · exact .inl h
    · exact .inr h
  |o::r,s,h,j+1,hj=>fun t ht i hi hd=>by
    simp only [s1F,Bool.and_eq_true] at h
    have:=s1F_spec h.2 j (by simpa using hj) t ht i hi hd
    rw [show s+(j+1)=s+1+j by omega];exact this
theorem nth_mem:∀{l:List Oper} {i:Nat},i<l.length→nth l i∈l
  | [],i,h=>by simp at h
  |o::l,0,_=>List.mem_cons_self ..
  |o::l,i+1,h=>List.mem_cons_of_mem _ (nth_mem (by simpa using h))
theorem s2F_spec:∀{l:List Oper},s2F l=true→∀i j,i<l.length→j<l.length→i≠j→∀d,(nth l i).dst=some d→(nth l j).dst≠some d:=by
  have key:∀{o:Oper} {r:List Oper} {d:Nat},s2F (o::r)=true→o.dst=some d→∀j,j<r.length→(nth r j).dst≠some d:=fun {o r d} h hd j hj he=>by
    simp only [s2F,Bool.and_eq_true,hd,List.all_eq_true] at h;have:=h.1 _ (nth_mem hj);rw [he] at this;simp at this
  intro l
  induction l with
  |nil=>intro _ i j hi;simp at hi
  |cons o r ih=>
    intro h i j hi hj hij d hd
    have h2:s2F r=true:=by simp only [s2F,Bool.and_eq_true] at h;exact h.2
    cases i with
    |zero=>
      cases j with
      |zero=>exact absurd J hij
      |succ j=>exact key h hd j (by simpa using hj)
    |succ i=>
      cases j with
      |zero=>
        intro he;have he:o.dst=some d:=he;exact key h he i (by simpa using hi) hd
      |succ j=>exact ih h2 i j (by simpa using hi) (by simpa using hj) (by omega) d hd
theorem inB_spec{n:Nat}:∀{l:List Oper},inB n l=true→∀i,i<l.length→∀x∈bnd (nth l i),x<n
  | [],_,i,h=>by simp at h
  |o::r,h,0,_=>fun x hx=>by
    simp only [inB,Bool.and_eq_true,List.all_eq_true] at h
    exact Nat.blt_eq▸h.1 x hx
  |o::r,h,i+1,hi=>inB_spec (by simp only [inB,Bool.and_eq_true] at h;exact h.2) i (by simpa using hi)
def dropN (rem : List Nat) (i : Nat) : List Nat := rem.filter fun x => !Nat.beq x i
def readyR (l : List Oper) (rem : List Nat) : List Nat := rem.filter fun r => noneIn (bnd (nth l r)) rem
def eqN : List Nat → List Nat → Bool
  | [], [] => true
  | a :: l, b :: m => Nat.beq a b && eqN l m
  | _, _ => false
theorem eqN_eq:∀{l m:List Nat},eqN l m=true→l=m
  | [],[],_=>rfl
  |a::l,b::m,h=>by
    simp only [eqN,Bool.and_eq_true] at h
    rw [Nat.eq_of_beq_eq_true h.1,eqN_eq h.2]
  | [],_::_,h=>by cases h
  |_::_,[],h=>by cases h
def chkF (l : List Oper) (N : Nat) : Od → List Nat → Bool
  | .done, rem => (readyR l rem).isEmpty
  | .p i r, rem => memN rem i && noneIn (bnd (nth l i)) rem && chkF l N r (dropN rem i)
  | .f i r, rem => memN rem i && noneIn (bnd (nth l i)) rem && waitsOn l.toArray N i && chkF l N r (dropN rem i)
  | .m i r, rem => eqN (readyR l rem) [i] && Nat.blt i N && chkF l N r (dropN rem i)
  | .a i r, rem => eqN (readyR l rem) [i] && !Nat.blt i N && chkF l N r (dropN rem i)
  | .fork i r j s, rem => eqN (readyR l rem) [i, j] && Nat.blt i N && Nat.blt j N && chkF l N r (dropN rem i) && chkF l N s (dropN rem j)
def statF (l : List Oper) : Bool := s1F l.toArray l l 0 && s2F l && inB l.length l
structure Rel (l : List Oper) (rem : List Nat) (listed : Array Bool) : Prop where
  size : listed.size = l.length
  rem : rem = (List.range l.length).filter fun i => !listed.getD i true
theorem Rel.mem{l:List Oper}{rem:List Nat}{listed:Array Bool}(h:Rel l rem listed){i:Nat}:i∈rem↔i<l.length∧listed.getD i true=false:=by
  rw [h.rem,List.mem_filter,List.mem_range];simp
theorem Rel.drop{l:List Oper}{rem:List Nat}{listed:Array Bool}(h:Rel l rem listed)(i:Nat):Rel l (dropN rem i) (listed.setIfInBounds i true):=by
  refine ⟨by rw [Array.size_setIfInBounds];exact h.size,?_⟩;unfold dropN;rw [h.rem,List.filter_filter]
  apply List.filter_congr
  intro x hx;have hx:=List.mem_range.1 hx;by_cases e:x=i
  · subst e
    have:(listed.setIfInBounds x true).getD x true=true:=by
      rw [Array.getD_eq_getD_getElem?,Array.getElem?_setIfInBounds_self_of_lt (by rw [h.size];exact hx)];rfl
    rw [this,Nat.beq_refl];rfl
  · rw [getD_set_ne true (Ne.symm e)]
    have:Nat.beq x i=false:=by
      cases e2:Nat.beq x i with
      |false=>rfl
      |true=>exact absurd (Nat.eq_of_beq_eq_true e2) e
    rw [this];simp
theorem listed_false{l:List Oper}{rem:List Nat}{listed:Array Bool}(h:Rel l rem listed){x:Nat}(hx:x<l.length):listed.getD x false=true↔x ∉ rem:=by
  have hs:x<listed.size:=by rw [h.size];exact hx
  rw [h.mem]
  have e1:listed.getD x false=listed[x]:=by simp [Array.getD,hs]
  have e2:listed.getD x true=listed[x]:=by simp [Array.getD,hs]
  rw [e1,e2]
  cases listed[x] <;>simp [hx]
theorem none_spec{l:List Oper}{rem:List Nat}{listed:Array Bool}(h:Rel l rem listed)(hB:inB l.length l=true){i:Nat}(hi:i<l.length):noneIn (bnd (nth l i)) rem=true↔∀e∈(nth l i).after,Region.binds .any e=true→listed.getD e.on false=true:=by
  unfold noneIn;rw [List.all_eq_true];constructor
  · intro h1 e he hb;have hm:e.on∈bnd (nth l i):=mem_bnd.2 ⟨e,he,hb,rfl⟩;rw [listed_false h (inB_spec hB i hi _ hm)];have:=h1 _ hm;intro h2;rw [memN_iff.2 h2] at this;cases this
  · intro h1 x hx;obtain ⟨e,he,hb,rfl⟩:=mem_bnd.1 hx;have:=(listed_false h (inB_spec hB i hi _ hx)).1 (h1 e he hb)
    cases e2:memN rem e.on with
    |false=>rfl
    |true=>exact absurd (memN_iff.1 e2) this
theorem ready_eq{l:List Oper}{rem:List Nat}{listed:Array Bool}(h:Rel l rem listed)(hB:inB l.length l=true):Region.ready .any l.toArray listed=readyR l rem:=by
  unfold Region.ready readyR
  conv=>rhs;arg 2;rw [h.rem]
  rw [List.filter_filter,List.size_toArray]
  apply List.filter_congr
  intro x hx;have hx:=List.mem_range.1 hx;have hn:=nth_eq hx;rw [hn];have:=none_spec h hB hx;simp only [Option.map_some,Option.getD_some];rw [Bool.and_comm]
  congr 1
  apply Bool.eq_iff_iff.2
  rw [this,Array.all_eq_true_iff_forall_mem];constructor
  · intro h1 e he hb;have:=h1 e he;rw [hb] at this;simpa using this
  · intro h1 e he
    cases hb:Region.binds .any e with
    |false=>rfl
    |true=>simpa using h1 e he hb
theorem free_of {l : List Oper} {rem : List Nat} {listed : Array Bool} (h : Rel l rem listed) (hs : statF l = true) {i : Nat} (hi : i ∈ rem) (hn : noneIn (bnd (nth l i)) rem = true) : Region.free .any l.toArray listed i = true := by
  unfold statF at hs; simp only [Bool.and_eq_true] at hs; obtain ⟨⟨h1, h2⟩, hB⟩ := hs; have hil := (h.mem.1 hi).1; unfold Region.free; rw [nth_eq hil]; simp only [List.all_eq_true, List.mem_range, List.size_toArray]; intro j hj; rw [nth_eq hj]; by_cases hji : j = i
  · subst hji; simp
  by_cases hl : listed.getD j true = true
  · rw [hl]; simp
  have hjr : j ∈ rem := h.mem.2 ⟨hj, by simpa using hl⟩; by_cases ha : i ∈ bnd (nth l j)
  · obtain ⟨e, he, hb, heq⟩ := mem_bnd.1 ha; have : ((nth l j).after.any fun e => Region.binds .any e && e.on == i) = true := Array.any_eq_true'.2 ⟨e, he, by rw [hb, heq]; simp⟩; simp only [this, Bool.true_or, Bool.or_true]
  · have hap : (nth l i).apart l.toArray (nth l j) = true := by
      unfold Oper.apart; rw [Bool.and_eq_true]; constructor
      · cases hd : (nth l i).dst with
        | none => rfl
        | some d =>
          have c1 : ¬ d ∈ (nth l j).looksAt l.toArray := fun hm => by
            rcases s1F_spec h1 j hj d hm i hil hd with h3 | h3
            · exact hji (by omega)
            · exact ha h3
          have c2 := s2F_spec h2 i j hil hj (Ne.symm hji) d hd; simp only [Bool.and_eq_true, Bool.not_eq_true', bne_iff_ne, ne_eq]; exact ⟨by simpa using c1, c2⟩
      · cases hd : (nth l j).dst with
        | none => rfl
        | some d =>
          have c1 : ¬ d ∈ (nth l i).looksAt l.toArray := fun hm => by
            rcases s1F_spec h1 i hil d hm j hj hd with h3 | h3
            · exact hji (by omega)
            · unfold noneIn at hn; rw [List.all_eq_true] at hn; have := hn j h3; rw [memN_iff.2 hjr] at this; cases this
          simpa using c1
    simp only [hap, Bool.or_true]
theorem chkF_ok{l:List Oper}{N:Nat}(hs:statF l=true):∀(ord:Od) (rem:List Nat) (listed:Array Bool),Rel l rem listed→chkF l N ord rem=true→chk l.toArray N ord rem.length listed=true:=by
  have hB:inB l.length l=true:=by unfold statF at hs;simp only [Bool.and_eq_true] at hs;exact hs.2
  have hdrop:∀{rem:List Nat} {listed:Array Bool} {i:Nat},Rel l rem listed→i∈rem→rem.length=(dropN rem i).length+1:=fun {rem listed i} h hi=>by
    have hnd:rem.Nodup:=by rw [h.rem];exact List.nodup_range.filter _
    have e:dropN rem i=rem.erase i:=by
      rw [hnd.erase_eq_filter];unfold dropN
      apply List.filter_congr
      intro x _
      cases e2:Nat.beq x i with
      |true=>rw [Nat.eq_of_beq_eq_true e2];simp
      |false=>
        have:x≠i:=fun e=>by subst e;rw [Nat.beq_refl] at e2;cases e2
        simp [this]
    rw [e,List.length_erase_of_mem hi];have:=List.length_pos_of_mem hi;omega
  have hmem:∀{rem:List Nat} {i:Nat},i∈readyR l rem→i∈rem:=fun h=>(List.mem_filter.1 h).1
  intro ord
  induction ord with
  |done=>
    intro rem listed h hc;simp only [chkF] at hc
    cases hl:rem.length <;>(simp only [chk];rw [ready_eq h hB];exact hc)
  |p i r ih=>
    intro rem listed h hc;simp only [chkF,Bool.and_eq_true] at hc;obtain ⟨⟨c1,c2⟩,c3⟩:=hc;have hi:=memN_iff.1 c1;rw [hdrop h hi];simp only [chk,Bool.and_eq_true];refine ⟨⟨?_,free_of h hs hi c2⟩,ih _ _ (h.drop i) c3⟩;rw [ready_eq h hB,List.contains_iff_mem];exact List.mem_filter.2 ⟨hi,c2⟩
  |f i r ih=>
    intro rem listed h hc;simp only [chkF,Bool.and_eq_true] at hc;obtain ⟨⟨⟨c1,c2⟩,cw⟩,c3⟩:=hc;have hi:=memN_iff.1 c1;rw [hdrop h hi];simp only [chk,Bool.and_eq_true];refine ⟨⟨⟨?_,free_of h hs hi c2⟩,cw⟩,ih _ _ (h.drop i) c3⟩;rw [ready_eq h hB,List.contains_iff_mem];exact List.mem_filter.2 ⟨hi,c2⟩
  |m i r ih=>
    intro rem listed h hc;simp only [chkF,Bool.and_eq_true] at hc;obtain ⟨⟨c1,c2⟩,c3⟩:=hc;have e:=eqN_eq c1;have hi:i∈rem:=hmem (by rw [e];simp);rw [hdrop h hi];simp only [chk,Bool.and_eq_true];exact ⟨⟨by rw [ready_eq h hB,e];simp,c2⟩,ih _ _ (h.drop i) c3⟩
  |a i r ih=>
    intro rem listed h hc;simp only [chkF,Bool.and_eq_true] at hc;obtain ⟨⟨c1,c2⟩,c3⟩:=hc;have e:=eqN_eq c1;have hi:i∈rem:=hmem (by rw [e];simp);rw [hdrop h hi];simp only [chk,Bool.and_eq_true];exact ⟨⟨by rw [ready_eq h hB,e];simp,c2⟩,ih _ _ (h.drop i) c3⟩
  |fork i r j s ih1 ih2=>
    intro rem listed h hc;simp only [chkF,Bool.and_eq_true] at hc;obtain ⟨⟨⟨⟨c1,c2⟩,c3⟩,c4⟩,c5⟩:=hc;have e:=eqN_eq c1;have hi:i∈rem:=hmem (by rw [e];simp);have hj:j∈rem:=hmem (by rw [e];simp);have hd:=hdrop h hi;have hd2:=hdrop h hj;rw [hd];simp only [chk,Bool.and_eq_true];refine ⟨⟨⟨⟨by rw [ready_eq h hB,e];simp,c2⟩,c3⟩,ih1 _ _ (h.drop i) c4⟩,?_⟩;rw [show (dropN rem i).length=(dropN rem j).length by omega];exact ih2 _ _ (h.drop j) c5
theorem Rel.start(l:List Oper):Rel l (List.range l.length) (Array.replicate l.length false):=by
  refine ⟨by simp,?_⟩;rw [List.filter_eq_self.2];intro i hi;have hi:=List.mem_range.1 hi;simp [Array.getD,hi]
variable {X : Ctx} {L : AL} {B : BL}
theorem St.drawF{id:Nat}{l:List Oper}{Q:Exit→Act→World→Prop}(hm:X.P.follows .mixedOrders=true)(N:Nat)(ord:Od)
    (hc:(Region.noSelect l.toArray&&(statF l&&chkF l N ord (List.range l.length)))=true)
    (h:∀K,(∀L' B',Fin X L' B' (fun a w=>Q .normal a w)→Fin X L' B' K)→Ops X l.toArray (pick l ord) L B K):St X L B (.region id l.toArray true) Q:=by
  simp only [Bool.and_eq_true] at hc;obtain ⟨h1,h2,h3⟩:=hc;have h4:=chkF_ok h2 ord _ _ (Rel.start l) h3;rw [List.length_range] at h4;exact XX hm N ord (by rw [h1,h4];rfl) h
end Go.Own
namespace Go.Proofs.YtojkdfilabmafaaGreat
open Go.Own
attribute [local irreducible] St Ops Go.Own.Fin Ok OkB OkN OkT OkL OkF
def b01 (b : Bool) : Int := if b then 1 else 0
def rsO6 (x : Rs) : List Int := [x.tm, x.va, x.ru, x.nu, IntKind.i64.wrap (x.dst.val : Int), x.pr, x.fl, x.tt, b01 x.an, b01 x.db, x.bk, IntKind.i64.wrap (x.fr.val : Int), x.ki, x.co, x.le, x.id]
def rsO (x : Rs) : List Int := [x.tm, x.va, x.ru, x.nu, IntKind.i64.wrap (x.dst.val : Int), x.pr, x.fl, x.tt, b01 x.an, b01 x.db, x.bk, IntKind.i64.wrap (x.fr.val : Int), x.ki, x.co, x.le, x.id, x.qu]
def cmpR (x y : Rs) : Int := cmpL (rsO x) (rsO y)
theorem b01_inj{a b:Bool}(h:b01 a=b01 b):a=b:=by cases a <;>cases b <;>first|rfl|cases h
theorem rsO_inj{x y:Rs}(h:rsO x=rsO y):x=y:=by
  obtain ⟨a1,a2,a3,a4,a5,a6,a7,a8,a9,a10,a11,a12,a13,a14,a15,a16,a17⟩:=x;obtain ⟨c1,c2,c3,c4,c5,c6,c7,c8,c9,c10,c11,c12,c13,c14,c15,c16,c17⟩:=y;simp only [rsO,wrap_fin,List.cons.injEq,and_true,Int.ofNat_inj,Fin.val_inj] at h;obtain ⟨h1,h2,h3,h4,h5,h6,h7,h8,h9,h10,h11,h12,h13,h14,h15,h16,h17⟩:=h;subst h1 h2 h3 h4 h5 h6 h7 h8 h11 h12 h13 h14 h15 h16 h17;rw [b01_inj h9,b01_inj h10]
theorem aPairs17:ArrT Tryz.prog 240 239 17 2 (.agg #[.int .i64 0, .int .i64 0, .int .i64 0, .int .i64 0, .int .i64 0, .int .i64 0, .int .i64 0, .int .i64 0, .int .i64 0, .int .i64 0, .int .i64 0, .int .i64 0, .int .i64 0, .int .i64 0, .int .i64 0, .int .i64 0, .int .i64 0, .int .i64 0, .int .i64 0, .int .i64 0, .int .i64 0, .int .i64 0, .int .i64 0, .int .i64 0, .int .i64 0, .int .i64 0, .int .i64 0, .int .i64 0, .int .i64 0, .int .i64 0, .int .i64 0, .int .i64 0, .int .i64 0, .int .i64 0]):=⟨Tryz.underlying240,by kernel_rfl,by kernel_rfl⟩
theorem szPairs17:(Tryz.prog.info? 240).map (·.size)=some 34:=by kernel_rfl
theorem zvPairs17:(Tryz.prog.info? 240).map (·.zero)=some (some (.agg #[.int .i64 0, .int .i64 0, .int .i64 0, .int .i64 0, .int .i64 0, .int .i64 0, .int .i64 0, .int .i64 0, .int .i64 0, .int .i64 0, .int .i64 0, .int .i64 0, .int .i64 0, .int .i64 0, .int .i64 0, .int .i64 0, .int .i64 0, .int .i64 0, .int .i64 0, .int .i64 0, .int .i64 0, .int .i64 0, .int .i64 0, .int .i64 0, .int .i64 0, .int .i64 0, .int .i64 0, .int .i64 0, .int .i64 0, .int .i64 0, .int .i64 0, .int .i64 0, .int .i64 0, .int .i64 0])):=by kernel_rfl
theorem lPairs17:LdN Tryz.prog 240 34:=LdN.of _ Tryz.underlying240 rfl (by kernel_rfl)
theorem Z7:InGo Tryz.prog 166:=InGo.of Tryz.func166 rfl (by decide)
theorem ZZ(b:Bool):Ok Tryz.prog 166 [boolC b] (intC (b01 b)):=by
  refine Ok.enter Tryz.func166 J _ Tryz.ntmps166 J ?_
  intro S w
  cases b with
  |true=>
    refine Qy (Qx fun K hK=> ?_);refine Qv J J J (Qj (hK _ _ (Qz (Qy (Qy ?_)))));clear hK K;refine Qx (fun K hK=> ?_);refine Qq J J J (Qj (hK _ _ (Qz (XZ J (Qy ?_)))));clear hK K;refine Qx (fun K hK=> ?_);refine Qv J J J (Qj (hK _ _ (Qz (Q4 (QY ?_)))));clear hK K;refine Q1 [_] rfl (QX J QZ) J J
  |false=>
    refine Qy (Qx fun K hK=> ?_);refine Qv J J J (Qj (hK _ _ (Qz (Qy (Qy ?_)))));clear hK K;refine Qx (fun K hK=> ?_);refine Qq J J J (Qj (hK _ _ (Qz (Xy J (QW (Qz (Qy ?_)))))));clear hK K;refine Qx (fun K hK=> ?_);refine Qv J J J (Qj (hK _ _ (Qz (Q4 ?_))));clear hK K;refine Q1 [_] rfl (QX J QZ) J J
theorem goCmpR:InGo Tryz.prog 103:=InGo.of Tryz.func103 rfl (by decide)
set_option maxHeartbeats 8000000 in
theorem cmpR_ok(x y:Rs):Ok Tryz.prog 103 [rsC x,rsC y] (intC (cmpR x y)):=by
  refine Ok.enter Tryz.func103 J _ Tryz.ntmps103 J ?_
  intro S w;refine Qy (Qx fun K hK=> ?_);refine Xu 0 J J J J J J J (Xu 1 J J J J J J J (Qv J J J (Qj (hK _ _ (Qz (Qy ?_))))));clear hK K;refine St.drawF mixed 107 (.p 0 (.p 2 (.p 5 (.p 7 (.p 10 (.p 12 (.p 15 (.p 17 (.p 20 (.p 23 (.p 27 (.p 29 (.p 32 (.p 34 (.p 37 (.p 39 (.p 42 (.p 45 (.p 49 (.p 52 (.p 56 (.p 58 (.p 61 (.p 62 (.p 65 (.p 66 (.p 70 (.p 71 (.p 73 (.p 74 (.p 77 (.p 78 (.p 80 (.p 81 (.p 84 (.p 85 (.p 87 (.p 88 (.p 91 (.p 92 (.p 94 (.p 95 (.p 98 (.p 99 (.p 101 (.p 102 (.f 1 (.f 3 (.p 4 (.f 6 (.f 8 (.p 9 (.f 11 (.f 13 (.p 14 (.f 16 (.f 18 (.p 19 (.f 21 (.p 22 (.f 24 (.p 25 (.p 26 (.f 28 (.f 30 (.p 31 (.f 33 (.f 35 (.p 36 (.f 38 (.f 40 (.p 41 (.f 43 (.f 46 (.f 50 (.f 53 (.f 57 (.f 59 (.p 60 (.f 63 (.p 64 (.f 67 (.p 68 (.p 69 (.f 72 (.f 75 (.p 76 (.f 79 (.f 82 (.p 83 (.f 86 (.f 89 (.p 90 (.f 93 (.f 96 (.p 97 (.f 100 (.f 103 (.p 104 (.fork 44 (.fork 47 (.p 48 (.fork 51 (.fork 54 (.p 55 (.p 105 (.m 106 (.a 107 .done)))) 106 (.m 54 (.p 55 (.p 105 (.a 107 .done))))) 106 (.m 51 (.m 54 (.p 55 (.p 105 (.a 107 .done))))))) 106 (.m 47 (.p 48 (.m 51 (.m 54 (.p 55 (.p 105 (.a 107 .done)))))))) 106 (.m 44 (.m 47 (.p 48 (.m 51 (.m 54 (.p 55 (.p 105 (.a 107 .done)))))))))))))))))))))))))))))))))))))))))))))))))))))))))))))))))))))))))))))))))))))))))))))))))))))))))))) (by kernel_rfl) (fun K hK=> ?_)
  refine (fun (cont:Go.Own.Fin _ [(5, .own 2)] [(2, .box 240 (prs (rsO x) (rsO y)).flatten),(1, .box 47 (rsCs y)),(0, .box 47 (rsCs x))] K)=> ?_) (hK _ _ ?_)
  · clear hK
    refine Ops.batchP rsT_ok 99 (.fork 44 (.fork 47 (.p 48 (.fork 51 (.fork 54 (.p 55 (.p 105 (.m 106 (.a 107 .done)))) 106 (.m 54 (.p 55 (.p 105 (.a 107 .done))))) 106 (.m 51 (.m 54 (.p 55 (.p 105 (.a 107 .done))))))) 106 (.m 47 (.p 48 (.m 51 (.m 54 (.p 55 (.p 105 (.a 107 .done)))))))) 106 (.m 44 (.m 47 (.p 48 (.m 51 (.m 54 (.p 55 (.p 105 (.a 107 .done))))))))) ((113, .ct (.fr (aggT (pr (x.qu) (y.qu)))))::(112, .ct (intC y.qu))::(109, .ct (intC x.qu))::(106, .ct (.fr (aggT (pr (x.id) (y.id)))))::(105, .ct (intC y.id))::(102, .ct (intC x.id))::(99, .ct (.fr (aggT (pr (x.le) (y.le)))))::(98, .ct (intC y.le))::(95, .ct (intC x.le))::(92, .ct (.fr (aggT (pr (x.co) (y.co)))))::(91, .ct (intC y.co))::(88, .ct (intC x.co))::(85, .ct (.fr (aggT (pr (x.ki) (y.ki)))))::(84, .ct (intC y.ki))::(81, .ct (intC x.ki))::(78, .ct (.fr (aggT (pr (IntKind.i64.wrap (x.fr.val:Int)) (IntKind.i64.wrap (y.fr.val:Int))))))::(77, .ct (intC (IntKind.i64.wrap (y.fr.val:Int))))::(76, .ct (adrC y.fr.val))::(73, .ct (intC (IntKind.i64.wrap (x.fr.val:Int))))::(72, .ct (adrC x.fr.val))::(69, .ct (.fr (aggT (pr (x.bk) (y.bk)))))::(68, .ct (intC y.bk))::(66, .ct (intC x.bk))::(62, .ct (boolC y.db))::(59, .ct (boolC x.db))::(55, .ct (boolC y.an))::(52, .ct (boolC x.an))::(50, .ct (.fr (aggT (pr (x.tt) (y.tt)))))::(49, .ct (intC y.tt))::(47, .ct (intC x.tt))::(45, .ct (.fr (aggT (pr (x.fl) (y.fl)))))::(44, .ct (intC y.fl))::(42, .ct (intC x.fl))::(40, .ct (.fr (aggT (pr (x.pr) (y.pr)))))::(39, .ct (intC y.pr))::(37, .ct (intC x.pr))::(35, .ct (.fr (aggT (pr (IntKind.i64.wrap (x.dst.val:Int)) (IntKind.i64.wrap (y.dst.val:Int))))))::(34, .ct (intC (IntKind.i64.wrap (y.dst.val:Int))))::(33, .ct (adrC y.dst.val))::(31, .ct (intC (IntKind.i64.wrap (x.dst.val:Int))))::(30, .ct (adrC x.dst.val))::(28, .ct (.fr (aggT (pr (x.nu) (y.nu)))))::(27, .ct (intC y.nu))::(25, .ct (intC x.nu))::(23, .ct (.fr (aggT (pr (x.ru) (y.ru)))))::(22, .ct (intC y.ru))::(20, .ct (intC x.ru))::(18, .ct (.fr (aggT (pr (x.va) (y.va)))))::(17, .ct (intC y.va))::(15, .ct (intC x.va))::(13, .ct (.fr (aggT (pr (x.tm) (y.tm)))))::(12, .ct (intC y.tm))::(10, .ct (intC x.tm))::(111, .loc 1 16)::(110, .loc 1 11)::(108, .loc 0 16)::(107, .loc 0 11)::(104, .loc 1 15)::(103, .loc 1 11)::(101, .loc 0 15)::(100, .loc 0 11)::(97, .loc 1 14)::(96, .loc 1 11)::(94, .loc 0 14)::(93, .loc 0 11)::(90, .loc 1 13)::(89, .loc 1 11)::(87, .loc 0 13)::(86, .loc 0 11)::(83, .loc 1 12)::(82, .loc 1 11)::(80, .loc 0 12)::(79, .loc 0 11)::(75, .loc 1 11)::(74, .loc 1 11)::(71, .loc 0 11)::(70, .loc 0 11)::(67, .loc 1 10)::(65, .loc 0 10)::(61, .loc 1 9)::(58, .loc 0 9)::(54, .loc 1 8)::(51, .loc 0 8)::(48, .loc 1 7)::(46, .loc 0 7)::(43, .loc 1 6)::(41, .loc 0 6)::(38, .loc 1 5)::(36, .loc 0 5)::(32, .loc 1 4)::(29, .loc 0 4)::(26, .loc 1 2)::(24, .loc 0 2)::(21, .loc 1 1)::(19, .loc 0 1)::(16, .loc 1 0)::(14, .loc 0 0)::(11, .loc 1 3)::(9, .loc 0 3)::(4, .ct (intC 0))::(3, .own 1)::(2, .own 0)::argL 0 [rsC x,rsC y]) (by kernel_rfl) [(2, .own 0),(3, .own 1),(13, .ct (.fr (aggT (pr (x.tm) (y.tm))))),(18, .ct (.fr (aggT (pr (x.va) (y.va))))),(23, .ct (.fr (aggT (pr (x.ru) (y.ru))))),(28, .ct (.fr (aggT (pr (x.nu) (y.nu))))),(35, .ct (.fr (aggT (pr (IntKind.i64.wrap (x.dst.val:Int)) (IntKind.i64.wrap (y.dst.val:Int)))))),(40, .ct (.fr (aggT (pr (x.pr) (y.pr))))),(45, .ct (.fr (aggT (pr (x.fl) (y.fl))))),(50, .ct (.fr (aggT (pr (x.tt) (y.tt))))),(69, .ct (.fr (aggT (pr (x.bk) (y.bk))))),(78, .ct (.fr (aggT (pr (IntKind.i64.wrap (x.fr.val:Int)) (IntKind.i64.wrap (y.fr.val:Int)))))),(85, .ct (.fr (aggT (pr (x.ki) (y.ki))))),(92, .ct (.fr (aggT (pr (x.co) (y.co))))),(99, .ct (.fr (aggT (pr (x.le) (y.le))))),(106, .ct (.fr (aggT (pr (x.id) (y.id))))),(113, .ct (.fr (aggT (pr (x.qu) (y.qu))))),(52, .ct (boolC x.an)),(55, .ct (boolC y.an)),(59, .ct (boolC x.db)),(62, .ct (boolC y.db))] ⟨rfl,rfl,rfl,rfl,rfl,rfl,rfl,rfl,rfl,rfl,rfl,rfl,rfl,rfl,rfl,rfl,rfl,rfl,rfl,rfl,rfl,trivial⟩ ?_
    refine Ops.fork ?_ ?_
    · refine QV Z7 (ZZ x.an) J J J J (Ops.fork ?_ ?_)
      · refine QV Z7 (ZZ y.an) J J J J (Z9 (n:=1) (cs:=pr (b01 x.an) (b01 y.an)) J aPair (.one J J J J (.one J J J J .nil)) J (Ops.fork ?_ ?_))
        · refine QV Z7 (ZZ x.db) J J J J (Ops.fork ?_ ?_)
          · refine QV Z7 (ZZ y.db) J J J J (Z9 (n:=1) (cs:=pr (b01 x.db) (b01 y.db)) J aPair (.one J J J J (.one J J J J .nil)) J (Ops.buildAA (n:=2) (prs (rsO x) (rsO y)) J aPairs17 J ⟨rfl,rfl,rfl,rfl,rfl,rfl,rfl,rfl,rfl,rfl,rfl,rfl,rfl,rfl,rfl,rfl,rfl,rfl,rfl,rfl,rfl,rfl,rfl,rfl,rfl,rfl,rfl,rfl,rfl,rfl,rfl,rfl,rfl,rfl,rfl,rfl,rfl,rfl,rfl,rfl,rfl,rfl,rfl,rfl,rfl,rfl,rfl,rfl,rfl,rfl,rfl,trivial⟩ rfl (Qf 2 J J zvPairs17 J J J (Qa 34 J J J J J szPairs17 J J ?_))));exact Qj (Fin.keep [(5, .own 2)] ⟨rfl,trivial⟩ cont)
          · refine Qf 2 J J zvPairs17 J J J (QV Z7 (ZZ y.db) J J J J (Z9 (n:=1) (cs:=pr (b01 x.db) (b01 y.db)) J aPair (.one J J J J (.one J J J J .nil)) J (Ops.buildAA (n:=2) (prs (rsO x) (rsO y)) J aPairs17 J ⟨rfl,rfl,rfl,rfl,rfl,rfl,rfl,rfl,rfl,rfl,rfl,rfl,rfl,rfl,rfl,rfl,rfl,rfl,rfl,rfl,rfl,rfl,rfl,rfl,rfl,rfl,rfl,rfl,rfl,rfl,rfl,rfl,rfl,rfl,rfl,rfl,rfl,rfl,rfl,rfl,rfl,rfl,rfl,rfl,rfl,rfl,rfl,rfl,rfl,rfl,rfl,trivial⟩ rfl (Qa 34 J J J J J szPairs17 J J ?_))));exact Qj (Fin.keep [(5, .own 2)] ⟨rfl,trivial⟩ cont)
        · refine Qf 2 J J zvPairs17 J J J (QV Z7 (ZZ x.db) J J J J (QV Z7 (ZZ y.db) J J J J (Z9 (n:=1) (cs:=pr (b01 x.db) (b01 y.db)) J aPair (.one J J J J (.one J J J J .nil)) J (Ops.buildAA (n:=2) (prs (rsO x) (rsO y)) J aPairs17 J ⟨rfl,rfl,rfl,rfl,rfl,rfl,rfl,rfl,rfl,rfl,rfl,rfl,rfl,rfl,rfl,rfl,rfl,rfl,rfl,rfl,rfl,rfl,rfl,rfl,rfl,rfl,rfl,rfl,rfl,rfl,rfl,rfl,rfl,rfl,rfl,rfl,rfl,rfl,rfl,rfl,rfl,rfl,rfl,rfl,rfl,rfl,rfl,rfl,rfl,rfl,rfl,trivial⟩ rfl (Qa 34 J J J J J szPairs17 J J ?_)))));exact Qj (Fin.keep [(5, .own 2)] ⟨rfl,trivial⟩ cont)
      · refine Qf 2 J J zvPairs17 J J J (QV Z7 (ZZ y.an) J J J J (Z9 (n:=1) (cs:=pr (b01 x.an) (b01 y.an)) J aPair (.one J J J J (.one J J J J .nil)) J (QV Z7 (ZZ x.db) J J J J (QV Z7 (ZZ y.db) J J J J (Z9 (n:=1) (cs:=pr (b01 x.db) (b01 y.db)) J aPair (.one J J J J (.one J J J J .nil)) J (Ops.buildAA (n:=2) (prs (rsO x) (rsO y)) J aPairs17 J ⟨rfl,rfl,rfl,rfl,rfl,rfl,rfl,rfl,rfl,rfl,rfl,rfl,rfl,rfl,rfl,rfl,rfl,rfl,rfl,rfl,rfl,rfl,rfl,rfl,rfl,rfl,rfl,rfl,rfl,rfl,rfl,rfl,rfl,rfl,rfl,rfl,rfl,rfl,rfl,rfl,rfl,rfl,rfl,rfl,rfl,rfl,rfl,rfl,rfl,rfl,rfl,trivial⟩ rfl (Qa 34 J J J J J szPairs17 J J ?_)))))));exact Qj (Fin.keep [(5, .own 2)] ⟨rfl,trivial⟩ cont)
    · refine Qf 2 J J zvPairs17 J J J (QV Z7 (ZZ x.an) J J J J (QV Z7 (ZZ y.an) J J J J (Z9 (n:=1) (cs:=pr (b01 x.an) (b01 y.an)) J aPair (.one J J J J (.one J J J J .nil)) J (QV Z7 (ZZ x.db) J J J J (QV Z7 (ZZ y.db) J J J J (Z9 (n:=1) (cs:=pr (b01 x.db) (b01 y.db)) J aPair (.one J J J J (.one J J J J .nil)) J (Ops.buildAA (n:=2) (prs (rsO x) (rsO y)) J aPairs17 J ⟨rfl,rfl,rfl,rfl,rfl,rfl,rfl,rfl,rfl,rfl,rfl,rfl,rfl,rfl,rfl,rfl,rfl,rfl,rfl,rfl,rfl,rfl,rfl,rfl,rfl,rfl,rfl,rfl,rfl,rfl,rfl,rfl,rfl,rfl,rfl,rfl,rfl,rfl,rfl,rfl,rfl,rfl,rfl,rfl,rfl,rfl,rfl,rfl,rfl,rfl,rfl,trivial⟩ rfl (Qa 34 J J J J J szPairs17 J J ?_))))))));exact Qj (Fin.keep [(5, .own 2)] ⟨rfl,trivial⟩ cont)
  clear hK K;have hlx:(rsO x).length=17:=rfl;have hly:(rsO y).length=17:=rfl;have h0:cmpL ((rsO x).drop 0) ((rsO y).drop 0)=cmpR x y:=rfl;generalize rsO x=xs at hlx h0 ⊢;generalize rsO y=ys at hly h0 ⊢;generalize cmpR x y=R at h0 ⊢
  have hfl:((prs xs ys).flatten).length=34:=by rw [Xm (k:=2) (prs_len xs ys)];simp [prs,hlx,hly]
  refine Qz (Qy (Qy (Qx fun K hK=> ?_)));refine Qc (n:=34) J J J J hfl lPairs17 J (Qq J J J (Qj (hK _ _ (Qz (Q3 ?_)))));clear hK K
  refine Qs (α:=Nat) (fun j=>j≤17∧cmpL (xs.drop j) (ys.drop j)=R)
    (fun j=>[(115, .ct (.fr (aggT (prs xs ys).flatten))),(116, .ct (intC j))]) (fun _=>[(2, .box 240 (prs xs ys).flatten),(1, .box 47 (rsCs y)),(0, .box 47 (rsCs x))]) (fun j=>17 - j) 0 ⟨Nat.zero_le _,h0⟩ (by exact Qu J ⟨rfl,rfl,trivial⟩) ?_
  rintro j ⟨hj,hc⟩
  dsimp only at hj hc ⊢;refine Qy (Qx fun K hK=> ?_);refine Qk ilss J J J J (Qj (hK _ _ (Qz (Qy ?_))));clear hK K;refine Q2 J (fun h=> ?_) (fun h=> ?_)
  · have h1:j<xs.length:=by omega
    have h2:j<ys.length:=by omega
    have hdr:=cmpL_drop h1 h2;have hat:=prs_at h1 h2;generalize xs.getD j 0=p at hdr hat;generalize ys.getD j 0=q at hdr hat;refine QW (Qz (Qy (Q3 (Qy (Qx fun K hK=> ?_)))))
    refine Ops.idxV (n:=2) J J J aPairs17 uPair J (prs_len xs ys) (by omega) (by omega) (by rw [Int.toNat_natCast];exact hat) J ?_
    refine Qf 3 J J zvPair J J J (Qa 2 J J J J J szPair J J (Qj (hK _ _ (Qz (Qy ?_)))));clear hK K;refine Qx (fun K hK=> ?_)
    refine Ops.idxO (n:=1) J J J J aPair (by decide) (by decide) J ?_
    refine QQ J J J J J lInt J (Ops.idxO (n:=1) J J J J aPair (by decide) (by decide) J ?_);refine QQ J J J J J lInt J (QV gocm (cm_ok p q) J J J J (Qv J J J (Qj (hK _ _ (Qz (Qy ?_))))));clear hK K;refine Qx (fun K hK=> ?_);refine Qq J J J (Qk ineq J J J J (Qj (hK _ _ (Qz ?_))));clear hK K;refine Q2 J (fun h3=> ?_) (fun h3=> ?_)
    · refine Qy (Qx fun K hK=> ?_);refine Qq J J J (Qv J J J (Qj (hK _ _ (Qz (Q4 (Qb (QY (QY (Qb (QY ?_))))))))));clear hK K;refine Q1 [_] rfl (QX J QZ) (by rw [←hc,hdr,if_pos h3];rfl) J
    · refine QW (Qz (Qx fun K hK=> ?_))
      refine Qk (iadd (by omega) (by omega)) J J J J ?_
      refine Qq J J J (Qj (hK _ _ (Q6 ?_)));clear hK K;rw [if_neg h3] at hdr;refine Xq 3 (Q9 (j+1) (by omega) ⟨by omega,by rw [←hc,hdr]⟩ (by exact Qu J ⟨rfl,by simp only [Int.natCast_add];rfl,trivial⟩))
  · refine Qm (Qz (Qy (Qx fun K hK=> ?_)));refine Qv J J J (Qj (hK _ _ (Qz (Q4 ?_))));clear hK K
    have hj' :j=17:=by omega
    refine Q1 [_] rfl (QX J QZ) (by rw [←hc,hj',List.drop_of_length_le (by omega)];rfl) J
end Go.Proofs.YtojkdfilabmafaaGreat
namespace Go.Limbs
variable {α : Type} [DecidableEq α]
def ddF : α → List α → List α
  | _, [] => []
  | a, b :: l => if b = a then ddF a l else b :: ddF b l
def dd : List α → List α
  | [] => []
  | a :: l => a :: ddF a l
theorem ddF_len:∀(a:α) (l:List α),(ddF a l).length≤l.length
  |_,[]=>Nat.le_refl _
  |a,b::l=>by
    unfold ddF
    split
    · exact Nat.le_succ_of_le (ddF_len a l)
    · exact Nat.succ_le_succ (ddF_len b l)
theorem dd_len(l:List α):(dd l).length≤l.length:=by
  cases l with
  |nil=>exact Nat.le_refl _
  |cons a l=>exact Nat.succ_le_succ (ddF_len a l)
theorem ddF_snoc:∀(a:α) (l:List α) (b:α),ddF a (l++ [b])=if b=(l.getLast?.getD a) then ddF a l else ddF a l++ [b]
  |a,[],b=>by
    by_cases h:b=a <;>simp [ddF,h]
  |a,c::l,b=>by
    have h1:(c::l).getLast?.getD a=l.getLast?.getD c:=by
      cases l with
      |nil=>rfl
      |cons d l=>
        rw [List.getLast?_cons_cons,List.getLast?_cons];rfl
    rw [h1];simp only [List.cons_append,ddF];by_cases h:c=a
    · subst h;rw [if_pos J,if_pos J,ddF_snoc c l b]
    · rw [if_neg h,if_neg h,ddF_snoc c l b]
      split <;>rfl
theorem dd_snoc{l:List α}{a b:α}(h:l.getLast? =some a):dd (l++ [b])=if b=a then dd l else dd l++ [b]:=by
  cases l with
  |nil=>cases h
  |cons c l=>
    have h1:l.getLast?.getD c=a:=by
      cases l with
      |nil=>simpa using h
      |cons d l=>
        rw [List.getLast?_cons_cons] at h;rw [h];rfl
    show c::ddF c (l++ [b])=_;rw [ddF_snoc,h1]
    split <;>rfl
omit [DecidableEq α] in
theorem take_last{l:List α}{z:α}{p:Nat}(h0:0<p)(h:p≤l.length):(l.take p).getLast? =some (l.getD (p - 1) z):=by
  rw [List.getLast?_eq_getElem?,List.length_take,Nat.min_eq_left h,List.getElem?_take,if_pos (by omega),List.getElem?_eq_getElem (by omega),List.getD_eq_getElem?_getD,List.getElem?_eq_getElem (by omega)];rfl
theorem dd_step{l:List α}{z:α}{p:Nat}(h0:0<p)(h:p<l.length):dd (l.take (p+1))=if l.getD p z=l.getD (p - 1) z then dd (l.take p) else dd (l.take p)++ [l.getD p z]:=by
  have e:l.take (p+1)=l.take p++ [l.getD p z]:=by
    rw [List.take_add_one,List.getElem?_eq_getElem h,List.getD_eq_getElem?_getD,List.getElem?_eq_getElem h];rfl
  rw [e,dd_snoc (take_last (z:=z) h0 (Nat.le_of_lt h))]
theorem dd_small{l:List α}(h:l.length<2):dd l=l:=by
  match l,h with
  | [],_=>rfl
  | [a],_=>rfl
end Go.Limbs
namespace Go.Own
open Go.RowKit Go.Sort Go.Shelf Go.Lib Go.Proofs
theorem grown_of{w w' :World}(h:Below w.heap.size w w'):∃q os',w' =grow (w.drewN q) os' :=by
  refine ⟨w'.drawn - w.drawn,w'.heap.extract w.heap.size w'.heap.size,?_⟩;obtain ⟨h1,h2,h3,h4,h5,h6⟩:=h;obtain ⟨heap,tape,drawn,os,output⟩:=w;obtain ⟨heap',tape',drawn',os',output'⟩:=w';dsimp only at h1 h2 h3 h4 h5 h6;subst h1 h2 h3;unfold grow World.drewN;dsimp only
  congr 1
  · apply Array.ext_getElem?
    intro k;rcases Nat.lt_or_ge k heap.size with hk|hk
    · rw [h5 k hk,Array.getElem?_append_left hk]
    · rw [Array.getElem?_append_right hk,Array.getElem?_extract];split
      · congr 1;omega
      · rw [Array.getElem?_eq_none (by omega)]
  · omega
section
variable {α : Type} [Inhabited α] {P : Program} {enc : α → List Value} {k : Nat} {cf : α → α → Int} {g : Nat}
abbrev encC (enc : α → List Value) (x : α) : List CT := (enc x).map CT.ex
abbrev flatC (enc : α → List Value) (l : List α) : List CT := (l.map (encC enc)).flatten
theorem cells_ex'(S:BSet)(w:World):∀vs:List Value,cells S w (vs.map CT.ex) vs
  | []=>trivial
  |v::vs=>⟨rfl,cells_ex' S w vs⟩
theorem cmpLays_of(hc:∀x y,Ok P g [.fr (aggT (encC enc x)), .fr (aggT (encC enc y))] (.ex (.int .i64 (cf x y))))(blk off size:Nat)(w:World):CmpLays P g #[] enc k cf blk off size w:=fun m os dk _ x y=>by
  refine (hc x y (fun _=>True) _ [.agg (enc x).toArray, .agg (enc y).toArray] (fun _ _=>trivial) ⟨⟨_,rfl,cells_ex' _ _ _⟩,⟨_,rfl,cells_ex' _ _ _⟩,trivial⟩).mono ?_
  rintro e w' ⟨v,rfl,hv,hb⟩
  have hv:v= .int .i64 (cf x y):=hv
  subst hv
  exact ⟨rfl,grown_of hb⟩
theorem ex_cells{S:BSet}{w:World}:∀{vs us:List Value},cells S w (vs.map CT.ex) us→us=vs
  | [],[],_=>rfl
  | [],_::_,h=>h.elim
  |_::_,[],h=>h.elim
  |v::vs,u::us,h=>by
    have h1:u=v:=h.1
    rw [h1,ex_cells h.2]
omit [Inhabited α] in
theorem flatC_eq(enc:α→List Value)(l:List α):flatC enc l=((l.map enc).flatten).map CT.ex:=by
  unfold flatC;rw [List.map_flatten,List.map_map];rfl
omit [Inhabited α] in
theorem flat_len(hk:∀x,(enc x).length=k)(l:List α):(l.map enc).flatten.length=l.length*k:=by
  induction l with
  |nil=>simp
  |cons a l ih=>rw [List.map_cons,List.flatten_cons,List.length_append,hk,ih,List.length_cons,Nat.succ_mul,Nat.add_comm]
theorem flat_get(hk:∀x,(enc x).length=k):∀(l:List α) (i o:Nat),i<l.length→o<k→(l.map enc).flatten[i*k+o]? =(enc (l.getD i default))[o]?
  | [],i,o,h,_=>by simp at h
  |a::l,0,o,_,ho=>by
    rw [List.map_cons,List.flatten_cons,Nat.zero_mul,Nat.zero_add,List.getElem?_append_left (by rw [hk];exact ho)];rfl
  |a::l,i+1,o,h,ho=>by
    rw [List.map_cons,List.flatten_cons,List.getElem?_append_right (by rw [hk,Nat.succ_mul];omega),hk]
    rw [show (i+1)*k+o - k=i*k+o by rw [Nat.succ_mul];omega,flat_get hk l i o (by simpa using h) ho];rfl
theorem flatK_list(hk:∀x,(enc x).length=k)(k0:0<k)(l:List α):(flatK enc k l.toArray).toList=(l.map enc).flatten:=by
  apply List.ext_getElem?
  intro t;rcases Nat.lt_or_ge t (l.length*k) with h|h
  · have h1:t<(flatK enc k l.toArray).size:=by rw [size_flatK];simpa using h
    have h2:=get_flatK enc k l.toArray t (by simpa using h);have hd:t/k<l.length:=Nat.div_lt_of_lt_mul (by rw [Nat.mul_comm];exact h);have hm:t%k<k:=Nat.mod_lt _ k0
    have e:t=t/k*k+t%k:=by rw [Nat.mul_comm];exact (Nat.div_add_mod t k).symm
    rw [Array.getElem?_toList,Array.getElem?_eq_getElem h1];rw [getElem!_pos _ t h1] at h2;rw [h2]
    conv=>rhs;rw [e]
    rw [flat_get hk l _ _ hd hm]
    have e3:l.toArray[t/k]! =l.getD (t/k) default:=by
      rw [getElem!_pos _ _ (by simpa using hd),List.getElem_toArray,List.getD_eq_getElem?_getD,List.getElem?_eq_getElem hd];rfl
    rw [e3]
    have hl:t%k<(enc (l.getD (t/k) default)).length:=by rw [hk];exact hm
    rw [getElem!_pos (enc (l.getD (t/k) default)) (t%k) hl,List.getElem?_eq_getElem hl]
  · rw [List.getElem?_eq_none (show (flatK enc k l.toArray).toList.length≤t by rw [Array.length_toList,size_flatK];simpa using h),List.getElem?_eq_none (show (l.map enc).flatten.length≤t by rw [flat_len hk];exact h)]
end
section
variable {α : Type} [Inhabited α] {P : Program} {ρ : Ren} {enc : α → List Value} {k : Nat} {cf : α → α → Int} {g : Nat}
set_option maxHeartbeats 1000000 in
theorem sortFunc_L(L:SlLaysF0.n6 P ρ)(k0:0<k)(aE:∀w,(isAgg (ρ.t 24)).run P w= .ok true w)(zE:∀w,(Go.sizeOf (ρ.t 24)).run P w= .ok k w)(hk:∀x,(enc x).length=k)(h1:∀x,∀v∈enc x,v.oneCell' =true)
    (hO:SWO (ltOf cf)) (hT:∀x y,(ltOf cf) x y=false→(ltOf cf) y x=false→x=y) (eg:∀args w,(callFunc g args).run P w= .ok (.enter g args) w)
    (hc:∀x y,Ok P g [.fr (aggT (encC enc x)), .fr (aggT (encC enc y))] (.ex (.int .i64 (cf x y)))) (el:TypeId) (l:List α) (hl:l.length<4611686018427387904):
    OkL P (ρ.f 6) el k (flatC enc l) [.ex (.func (.func g) #[] #[])] (.fr (tupT [])) (flatC enc (l.mergeSort fun x y=> !(ltOf cf) y x)):=by
  intro S w h vs hS hgS hrow hA;obtain ⟨n,us,how,hcs⟩:=hrow;rw [flatC_eq] at hcs;obtain rfl:=ex_cells hcs
  obtain rfl:vs=[.func (.func g) #[] #[]]:=by
    cases vs with
    |nil=>exact hA.elim
    |cons v vs=>
      cases vs with
      |nil=>
        have:v= .func (.func g) #[] #[]:=hA.1;rw [this]
      |cons u us=>exact hA.2.elim
  have hlen:=how.1;rw [flat_len hk] at hlen;have hn:l.length=n:=Nat.eq_of_mul_eq_mul_right k0 hlen;rcases how.2 with ⟨rfl,h0⟩|⟨gb,cap,cur,rfl,_,hgb,hnc,hcm,hcz,htk⟩
  · have e:l=[]:=List.length_eq_zero_iff.1 (by omega);subst e
    refine (AnyF.slices_SortFunc_none L none 0 _ w).mono ?_
    rintro e w' ⟨rfl,rfl⟩
    exact ⟨_,rfl,⟨[],rfl,trivial⟩,⟨n,[],⟨by simpa using hlen, .inl ⟨rfl,h0⟩⟩,by rw [List.mergeSort_nil];trivial⟩,⟨rfl,rfl,rfl,Nat.le_refl _,fun _ _ _=>rfl,Nat.le_refl _⟩⟩
  · subst hn
    have hH:HoldsK enc k w gb 0 l.toArray:=by
      intro j hj
      have hj' :j<l.length*k:=by simpa using hj
      have hc2:cur[j]? =some (flatK enc k l.toArray)[j]! :=by
        have h3:(flatK enc k l.toArray).toList[j]? =some (flatK enc k l.toArray)[j]! :=by
          rw [Array.getElem?_toList,Array.getElem?_eq_getElem hj,getElem!_pos _ j hj]
        rw [flatK_list hk k0,←htk,List.getElem?_take,if_pos hj'] at h3;rw [←Array.getElem?_toList];exact h3
      constructor
      · show (match w.heap[gb]? with|some (.cells c _ _)=>if (none:Option _).isSome then none else c[0+j]? |_=>none)=_;rw [hgb,Nat.zero_add];exact hc2
      · show (match w.heap[gb]? with|some (.cells _ _ (lo,hi))=>decide (lo≤0+j)&&decide (0+j<hi)|_=>false)=_;rw [hgb];simp
    have hsz:gb<w.heap.size:=ZJ hgb;have hcon:=AnyQ.slices_SortFunc_total L k aE zE enc hk h1 cf hO g #[] gb 0 cap l.toArray w eg (cmpLays_of hc gb 0 _ w) hH hsz (by simpa using hl) hT
    refine hcon.mono ?_
    rintro e w' ⟨rfl,m,os,rfl⟩
    generalize hd:(l.toArray.toList.mergeSort fun x y=> !(ltOf cf) y x)=d
    have hd2:(l.mergeSort fun x y=> !(ltOf cf) y x)=d:=by rw [←hd]
    have hdl:d.length=l.length:=by rw [←hd2,List.length_mergeSort]
    have hFs:(flatK enc k d.toArray).size=l.length*k:=by rw [size_flatK];simp [hdl]
    have hheap:(sortWorldK enc k w gb 0 m d.toArray os).heap=(w.heap.modify gb (onCells (putCells id 0 (flatK enc k d.toArray))))++os:=rfl;have hms:(w.heap.modify gb (onCells (putCells id 0 (flatK enc k d.toArray)))).size=w.heap.size:=Array.size_modify ..;refine ⟨_,rfl,⟨[],rfl,trivial⟩,⟨l.length,(d.map enc).flatten,⟨by rw [flat_len hk,hdl], .inr ⟨gb,cap,putCells id 0 (flatK enc k d.toArray) cur,rfl,Nat.zero_le _,?_,hnc,hcm,?_,?_⟩⟩,?_⟩,⟨rfl,rfl,rfl,?_,fun q hq hne=> ?_,?_⟩⟩
    · rw [hheap,Array.getElem?_append_left (by rw [hms];exact hsz),Array.getElem?_modify,if_pos J,hgb];rfl
    · unfold putCells;rw [Array.size_mapIdx];exact hcz
    · have hle:l.length*k≤cur.size:=by rw [hcz];exact Nat.mul_le_mul_right _ hnc
      apply List.ext_getElem?
      intro t;rw [List.getElem?_take];rcases Nat.lt_or_ge t (l.length*k) with ht|ht
      · rw [if_pos ht,Array.getElem?_toList,←flatK_list hk k0,Array.getElem?_toList];unfold putCells;rw [Array.getElem?_mapIdx,Array.getElem?_eq_getElem (show t<cur.size by omega),Array.getElem?_eq_getElem (show t<(flatK enc k d.toArray).size by omega)];simp only [Option.map_some,id];rw [if_pos ⟨Nat.zero_le _,by omega⟩,Nat.sub_zero,getElem!_pos _ t (by omega)]
      · rw [if_neg (by omega),List.getElem?_eq_none (by rw [flat_len hk,hdl];exact ht)]
    · rw [flatC_eq];exact cells_ex' _ _ _
    · show w.heap.size≤(sortWorldK enc k w gb 0 m d.toArray os).heap.size;rw [hheap,Array.size_append,hms];omega
    · have hq:q<w.heap.size:=hq
      have hne:gb≠q:=fun e=>hne (by rw [←e];rfl)
      rw [hheap,Array.getElem?_append_left (by rw [hms];exact hq),Array.getElem?_modify,if_neg hne]
    · show w.drawn≤w.drawn+m;omega
end
end Go.Own
namespace Go.Limbs
open Go.Sort Go.Shelf Go.Proofs
variable {α : Type} {cf : α → α → Int}
structure Ord (cf : α → α → Int) : Prop where
  anti : ∀ a b, cf b a = - cf a b
  eq0 : ∀ a b, cf a b = 0 → a = b
  trans : ∀ a b c, cf a b < 0 → cf b c < 0 → cf a c < 0
theorem Ord.self(O:Ord cf)(a:α):cf a a=0:=by have:=O.anti a a;omega
theorem Ord.swo(O:Ord cf):SWO (ltOf cf):=by
  have nt:∀x y z,cf x z<0→cf x y<0∨cf y z<0:=fun x y z h=>by
    rcases Int.lt_trichotomy (cf x y) 0 with h1|h1|h1
    · exact .inl h1
    · rw [O.eq0 x y h1] at h;exact .inr h
    · exact .inr (O.trans y x z (by rw [O.anti x y];omega) h)
  refine ⟨fun x=> ?_,fun x y z h1 h2=> ?_,fun x y z h1 h2=> ?_⟩
  · simp only [ltOf,O.self];decide
  · simp only [ltOf,decide_eq_true_eq] at*;exact O.trans x y z h1 h2
  · simp only [ltOf,decide_eq_false_iff_not] at*;intro h;rcases nt x y z h with h|h
    · exact h1 h
    · exact h2 h
theorem Ord.tot(O:Ord cf):∀x y,(ltOf cf) x y=false→(ltOf cf) y x=false→x=y:=fun x y h1 h2=>by
  simp only [ltOf,decide_eq_false_iff_not] at*
  rw [O.anti x y] at h2
  exact O.eq0 x y (by omega)
def Up (cf : α → α → Int) (l : List α) : Prop := l.Pairwise (fun a b => cf a b < 0)
theorem Up.ext(O:Ord cf):∀{l m:List α},Up cf l→Up cf m→(∀x,x∈l↔x∈m)→l=m
  | [],[],_,_,_=>rfl
  | [],y::m,_,_,h=>by have:=(h y).2 (List.mem_cons_self ..);cases this
  |x::l,[],_,_,h=>by have:=(h x).1 (List.mem_cons_self ..);cases this
  |x::l,y::m,hl,hm,h=>by
    have hl' :=List.pairwise_cons.1 hl
    have hm' :=List.pairwise_cons.1 hm
    have e:x=y:=by
      rcases List.mem_cons.1 ((h x).1 (List.mem_cons_self ..)) with e|e
      · exact e
      · rcases List.mem_cons.1 ((h y).2 (List.mem_cons_self ..)) with e' |e'
        · exact e'.symm
        · have h1:=hm'.1 x e;have h2:=hl'.1 y e';rw [O.anti y x] at h2;omega
    subst e
    have nl:x ∉ l:=fun hx=>by have:=hl'.1 x hx;rw [O.self] at this;omega
    have nm:x ∉ m:=fun hx=>by have:=hm'.1 x hx;rw [O.self] at this;omega
    rw [Up.ext O hl'.2 hm'.2 (fun z=>⟨fun hz=>by
      rcases List.mem_cons.1 ((h z).1 (List.mem_cons_of_mem _ hz)) with rfl|h1
      · exact absurd hz nl
      · exact h1,fun hz=>by
      rcases List.mem_cons.1 ((h z).2 (List.mem_cons_of_mem _ hz)) with rfl|h1
      · exact absurd hz nm
      · exact h1⟩)]
section
variable [DecidableEq α]
theorem ddF_up(O:Ord cf):∀(l:List α) (a:α),(a::l).Pairwise (fun a b=>cf a b≤0)→Up cf (a::ddF a l)∧∀x,x∈a::ddF a l↔x∈a::l
  | [],a,_=>⟨List.pairwise_singleton _ _,fun x=>Iff.rfl⟩
  |b::l,a,h=>by
    have h' :=List.pairwise_cons.1 h
    unfold ddF
    by_cases e:b=a
    · subst e
      rw [if_pos rfl]
      obtain ⟨h1,h2⟩:=ddF_up O l b h'.2
      exact ⟨h1,fun x=>by rw [h2 x];simp⟩
    · rw [if_neg e]
      obtain ⟨h1,h2⟩:=ddF_up O l b h'.2
      refine ⟨List.pairwise_cons.2 ⟨fun x hx=> ?_,h1⟩,fun x=>by rw [List.mem_cons,h2 x,List.mem_cons (a:=x) (b:=a)]⟩
      have hb:=h'.1 b (List.mem_cons_self ..)
      have hb2:cf a b<0:=by
        rcases Int.lt_or_eq_of_le hb with h3|h3
        · exact h3
        · exact absurd (O.eq0 a b h3).symm e
      rcases List.mem_cons.1 hx with rfl|hx
      · exact hb2
      · exact O.trans a b x hb2 ((List.pairwise_cons.1 h1).1 x hx)
def sd (cf : α → α → Int) (l : List α) : List α := dd (l.mergeSort fun x y => !(ltOf cf) y x)
theorem sd_spec(O:Ord cf)(l:List α):Up cf (sd cf l)∧∀x,x∈sd cf l↔x∈l:=by
  have hp:(l.mergeSort fun x y=> !(ltOf cf) y x).Pairwise (fun a b=>cf a b≤0):=by
    have h:=List.pairwise_mergeSort (le:=fun x y=> !(ltOf cf) y x) (fun a b c h1 h2=>by
      simp only [ltOf,Bool.not_eq_true',decide_eq_false_iff_not] at*;intro h;rcases Int.lt_trichotomy (cf c b) 0 with h3|h3|h3
      · exact h2 h3
      · rw [O.eq0 c b h3] at h;exact h1 h
      · exact h1 (O.trans b c a (by rw [O.anti c b];omega) h)) (fun a b=>by
      simp only [ltOf,Bool.or_eq_true,Bool.not_eq_true',decide_eq_false_iff_not]
      rw [O.anti a b];omega) l
    refine h.imp (fun {a b} hab=> ?_);simp only [ltOf,Bool.not_eq_true',decide_eq_false_iff_not] at hab;rw [O.anti a b] at hab;omega
  have hm:∀x,x∈(l.mergeSort fun x y=> !(ltOf cf) y x)↔x∈l:=fun x=>List.mem_mergeSort
  unfold sd;generalize (l.mergeSort fun x y=> !(ltOf cf) y x)=m at*
  cases m with
  |nil=>exact ⟨List.Pairwise.nil,hm⟩
  |cons a m=>
    obtain ⟨h1,h2⟩:=ddF_up O m a hp;exact ⟨h1,fun x=>(h2 x).trans (hm x)⟩
theorem sd_len(cf:α→α→Int)(l:List α):(sd cf l).length≤l.length:=Nat.le_trans (dd_len _) (Nat.le_of_eq (List.length_mergeSort _))
theorem sd_eq(O:Ord cf){l:List α}(h:Up cf l):sd cf l=l:=Up.ext O (sd_spec O l).1 h (sd_spec O l).2
end
def posF (cf : α → α → Int) (z : α) (l : List α) (c : α) : Nat → Nat
  | 0 => 0
  | k + 1 => if 0 < cf (l.getD k z) c then posF cf z l c k else k + 1
def putF (cf : α → α → Int) (z : α) (l : List α) (c : α) : List α :=
  if posF cf z l c l.length ≠ 0 ∧ cf (l.getD (posF cf z l c l.length - 1) z) c = 0 then l else l.take (posF cf z l c l.length) ++ c :: l.drop (posF cf z l c l.length)
def ordF (cf : α → α → Int) (z : α) (ok : α → Bool) : List α → List α → List α
  | [], out => out
  | c :: l, out => ordF cf z ok l (if ok c then putF cf z out c else out)
end Go.Limbs
namespace Go.Proofs.YtojkdfilabmafaaGreat
open Go.Own
attribute [local irreducible] St Ops Go.Own.Fin Ok OkB OkN OkT OkL OkF
theorem cmp3_anti(a b:Int):cmp3 b a= - cmp3 a b:=by unfold cmp3;split <;>split <;>(try split) <;>omega
theorem cmp3_zero{a b:Int}:cmp3 a b=0↔a=b:=by unfold cmp3;split <;>(try split) <;>constructor <;>intro h <;>omega
theorem cmp3_lt{a b:Int}:cmp3 a b<0↔a<b:=by unfold cmp3;split <;>(try split) <;>constructor <;>intro h <;>omega
theorem cmpL_anti:∀xs ys:List Int,cmpL ys xs= - cmpL xs ys
  | [],[]=>rfl
  | [],_::_=>rfl
  |_::_,[]=>rfl
  |x::xs,y::ys=>by
    simp only [cmpL]
    rw [cmp3_anti x y,cmpL_anti xs ys]
    by_cases h:cmp3 x y=0
    · simp [h]
    · rw [if_pos h,if_pos (by omega)]
theorem cmpL_eq:∀{xs ys:List Int},xs.length=ys.length→cmpL xs ys=0→xs=ys
  | [],[],_,_=>rfl
  |x::xs,y::ys,hl,h=>by
    simp only [cmpL] at h
    by_cases h0:cmp3 x y=0
    · rw [if_neg (by omega)] at h
      rw [cmp3_zero.1 h0,cmpL_eq (by simpa using hl) h]
    · rw [if_pos h0] at h;exact absurd h h0
  | [],_::_,hl,_=>by simp at hl
  |_::_,[],hl,_=>by simp at hl
theorem cmpL_trans:∀{xs ys zs:List Int},xs.length=ys.length→ys.length=zs.length→cmpL xs ys<0→cmpL ys zs<0→cmpL xs zs<0
  |x::xs,y::ys,z::zs,h1,h2,ha,hb=>by
    simp only [cmpL] at ha hb ⊢
    by_cases h3:cmp3 x y=0
    · have e:=cmp3_zero.1 h3
      subst e
      rw [if_neg (by omega)] at ha
      by_cases h4:cmp3 x z=0
      · rw [if_neg (by omega)] at hb ⊢
        exact cmpL_trans (by simpa using h1) (by simpa using h2) ha hb
      · rw [if_pos h4] at hb ⊢;exact hb
    · rw [if_pos h3] at ha
      have l1:=cmp3_lt.1 ha
      by_cases h4:cmp3 y z=0
      · have e:=cmp3_zero.1 h4
        subst e
        rw [if_pos h3];exact ha
      · rw [if_pos h4] at hb
        have l2:=cmp3_lt.1 hb
        have l3:cmp3 x z<0:=cmp3_lt.2 (by omega)
        rw [if_pos (by omega)];exact l3
  | [],[],_,_,_,ha,_=>by simp [cmpL] at ha
  | [],_::_,_,h1,_,_,_=>by simp at h1
  |_::_,[],_,h1,_,_,_=>by simp at h1
  |_::_,_::_,[],_,h2,_,_=>by simp at h2
end Go.Proofs.YtojkdfilabmafaaGreat
namespace Go.Own
open Go.RowKit
variable {X : Ctx} {L : AL} {B : BL} {ops : Array Oper} {K : Act → World → Prop} {r : Pl} {k : Kd}
  {x y z : Operand} {d : Nat} {t t2 t' : TypeId} {pos : String} {af : Array Edge} {g : Option (Nat × Bool)}
theorem Z3{el n bytes gb m c q cq:Nat}{zv:Value}{kk:IntKind}{j:Int}{cs:List CT}(e p:Nat)(hg:gd ops L g=some true)(hx:ev L x=some (.ct (.ex (kh gb (p*n) q cq))))(hi:bget B e=some (.rowx (kh gb 0 m c) el n cs))(hy:ev L y=some (.ct (.ex (.int kk j))))(hT:SlcT X.P t el n bytes zv)(h0:0≤j)(hj:j<q)
    (hn:Nat.blt d X.n=true) (h:Ops X ops r ((d, .loc e ((p+j.toNat)*n))::L) B K):Ops X ops (.cons ⟨some d, .indexAddr t x y,t',pos,af,g⟩ k r) L B K:=
  XU (s:= .loc e ((p+j.toNat)*n)) hg rfl hn (fun a ρ w hI=>by
    have h1:a.eval x=kh gb (p*n) q cq:=hI.evx hx
    have h2:ρ e=kh gb 0 m c:=(hI.ent e _ hi).1.1
    obtain ⟨nf,hi2,hs,_⟩:=hT.inf
    refine ⟨.pointer (some ⟨gb,(p+j.toNat)*n,none⟩),fun w' _=> ?_,gb,by rw [h2];rfl,rfl⟩
    show (do pure (Next.value (←Instr.indexAt t (a.eval x) (a.eval y))):Sem Next).run X.P w' =_
    rw [h1,hI.evx hy]
    refine Xb ?_
    rw [run_index hT.und hi2 h0 (by omega),hs,←Nat.add_mul]) h
theorem St.nameS{c' :Code}{Q:Exit→Act→World→Prop}(dd i m:Nat){el n:Nat}{cs:List CT}(hd:look L dd=some (.own i))(hi:bget B i=some (.row el n cs))(hl:cs.length=m*n)(hm:0<m)(hp:0<n)
    (h:∀gb c,m≤c→c≤maxLen→St X ((dd, .ct (.ex (kh gb 0 m c)))::L) (bset B i (.rowx (kh gb 0 m c) el n cs)) c' Q):St X L B c' Q:=Fin.nameS dd i m hd hi hl hm hp h
theorem Is.cutOff{a:Act}{ρ:Nat→Value}{w:World}(hI:Is X L B a ρ w){i gb m c el n:Nat}{cs:List CT}(q:Nat)(hi:bget B i=some (.rowx (kh gb 0 m c) el n cs))(hl:cs.length=m*n)(hp:0<n)(hq:q≤m):
    Is X (Own.killL i L) (bset B i (.rowx (kh gb 0 q c) el n (cs.take (q*n)))) a (upd ρ i (kh gb 0 q c)) w:=by
  obtain ⟨hρ,vs,cur,hc,hlv,hgb,hmc,hcm,hcz,htk⟩:=hI.rowK hi hl hp;have hjn:q*n≤m*n:=Nat.mul_le_mul_right _ hq
  have hW:=Is.write (i:=i) (v:=kh gb 0 q c) (e' := .rowx (kh gb 0 q c) el n (cs.take (q*n))) (w' :=w) (hI.killL i) hi J J J (Nat.le_refl _) (fun _ _ _=>rfl) (.inl (by rw [hρ];rfl))
    (fun S' hk=>⟨rfl,q,vs.take (q*n),⟨by rw [List.length_take,hlv];omega, .inr ⟨gb,c,cur,rfl,Nat.zero_le _,hgb,by omega,hcm,hcz,by rw [←htk,List.take_take];congr 1;omega⟩⟩,(hc.take _).mono hk⟩) (.inr (noN_killL i L)) (.inr J)
  exact hW.bext (Xf hi)
theorem Ops.cutOff{l:Pl}{gb m c el n:Nat}{cs cs' :List CT}(i q:Nat)(hi:bget B i=some (.rowx (kh gb 0 m c) el n cs))(hl:cs.length=m*n)(hp:0<n)(hq:q≤m)(hcs:cs.take (q*n)=cs')
    (h:Ops X ops l (killL i L) (bset B i (.rowx (kh gb 0 q c) el n cs')) K):Ops X ops l L B K:=fun a ρ w hI=>by
  subst hcs
  exact h a (upd ρ i (kh gb 0 q c)) w (hI.cutOff q hi hl hp hq)
theorem stEX{α:Type}{n i j el:Nat}{v0:Value}{l:List α}(f:α→List CT)(c:α)(hf:∀a,(f a).length=n)(hg:gd ops L g=some true)(hx:ev L x=some (.loc i (j*n)))(hi:bget B i=some (.rowx v0 el n ((l.map f).flatten)))(hy:ev L y=some (.ct (.fr (aggT (f c)))))(ho:ones (f c)=true)(hj:j<l.length)(hsz:(X.P.info? t).map (·.size)=some n)
    (h:Ops X ops r L (bset B i (.rowx v0 el n (((l.set j c).map f).flatten))) K):Ops X ops (.cons ⟨none, .store t x y,t',pos,af,g⟩ .any r) L B K:=
  Ops.stNA hg hx hi hy ho (by rw [hsz,hf]) (by show j*n+(f c).length≤_;rw [hf];show _≤(l.map f).flatten.length;rw [el_len hf,←Nat.succ_mul];exact Nat.mul_le_mul_right _ hj) (by
    have:(Ent.rowx v0 el n ((l.map f).flatten)).putc (j*n) (f c)= .rowx v0 el n (((l.set j c).map f).flatten):=by rw [←el_put hf c hj];rfl
    rw [this];exact h)
end Go.Own
namespace Go.Own
open Go.RowKit
theorem run_getMap{P:Program}{w:World}{r:Nat}{es:Array MapEntry}{clock:Nat}(h:w.heap[r]? =some (.map es clock)):(getObj r).run P w= .ok (.map es clock) w:=by simp [getObj,Sem.run,h]
theorem run_setMap{P:Program}{w:World}{r:Nat}{es:Array MapEntry}{clock:Nat}(o:Obj)(h:w.heap[r]? =some (.map es clock)):(setObj r o).run P w= .ok () {w with heap:=w.heap.setIfInBounds r o}:=by simp [setObj,Sem.run,h]
structure KeyT (P : Program) (t : TypeId) {κ : Type} [DecidableEq κ] (enc : κ → Value) : Prop where
  now : ∀ (l : List MapEntry) (i : Nat) (a : κ) (D : TypeDesc), P.underlying t = some D → l ≠ [] → (∀ e ∈ l, ∃ b, e.key = enc b) → Instr.findNow D (enc a) l i = none
  und : ∃ D, P.underlying t = some D
  eq : ∀ (a b : κ) (w : World), (Op.equal t (enc a) (enc b)).run P w = .ok (decide (a = b)) w
  ck : ∀ (e : Bool) (a : κ) (w : World), (Instr.checkKey e 10000 t (enc a)).run P w = .ok () w
  sb : ∀ a : κ, Instr.sameBits 10000 (enc a) (enc a) = true
section
variable {κ β : Type} [DecidableEq κ]
def ins : List (κ × β) → κ → β → List (κ × β)
  | [], a, b => [(a, b)]
  | (k, v) :: l, a, b => if a = k then (a, b) :: l else (k, v) :: ins l a b
def look1 : List (κ × β) → κ → Option β
  | [], _ => none
  | (k, v) :: l, a => if a = k then some v else look1 l a
theorem look1_ins(l:List (κ × β))(a:κ)(b:β)(c:κ):look1 (ins l a b) c=if c=a then some b else look1 l c:=by
  induction l with
  |nil=>simp [ins,look1]
  |cons p l ih=>
    obtain ⟨k,v⟩:=p;simp only [ins];by_cases h:a=k
    · subst h;simp only [if_true,look1];by_cases h2:c=a
      · simp [h2]
      · simp [h2]
    · rw [if_neg h];simp only [look1,ih];by_cases h2:c=k
      · subst h2;simp [Ne.symm h]
      · simp [h2]
def idx1 : List (κ × β) → κ → Option Nat
  | [], _ => none
  | (k, _) :: l, a => if a = k then some 0 else (idx1 l a).map (· + 1)
theorem look1_idx(a:κ):∀al:List (κ × β),look1 al a=(idx1 al a).bind fun j=>(al[j]?).map (·.2)
  | []=>rfl
  |(k,v)::l=>by
    simp only [look1,idx1]
    by_cases h:a=k
    · simp [h]
    · rw [if_neg h,if_neg h,look1_idx a l]
      cases idx1 l a <;>simp
theorem ins_idx(a:κ)(b:β):∀al:List (κ × β),ins al a b=match idx1 al a with|none=>al++ [(a,b)]|some j=>al.set j (a,b)
  | []=>rfl
  |(k,v)::l=>by
    simp only [ins,idx1]
    by_cases h:a=k
    · simp [h]
    · rw [if_neg h,if_neg h,ins_idx a b l]
      cases idx1 l a <;>simp
theorem idx1_key(a:κ):∀(al:List (κ × β)) (j:Nat),idx1 al a=some j→∃b,al[j]? =some (a,b)
  | [],_,h=>by cases h
  |(k,v)::l,j,h=>by
    simp only [idx1] at h
    by_cases h1:a=k
    · rw [if_pos h1] at h;injection h with h;subst h;exact ⟨v,by simp [h1]⟩
    · rw [if_neg h1] at h
      obtain ⟨q,hq,rfl⟩:=Option.map_eq_some_iff.1 h
      obtain ⟨b,hb⟩:=idx1_key a l q hq
      exact ⟨b,by simpa using hb⟩
def kvs (enc : κ → Value) (cv : β → CT) (al : List (κ × β)) : List (Value × CT) := al.map fun p => (enc p.1, cv p.2)
variable {P : Program} {kt : TypeId} {enc : κ → Value} {cv : β → CT}
theorem run_ask(h:KeyT P kt enc)(a:κ)(w:World):∀(al:List (κ × β)) (es:List MapEntry) (i:Nat),es.map (·.key)=al.map (fun p=>enc p.1)→
    (Instr.findAsking kt (enc a) es i).run P w= .ok ((idx1 al a).bind fun j=>(es[j]?).map fun e=>(i+j,e.val)) w
  | [],[],i,_=>rfl
  | [],_::_,_,h0=>by simp at h0
  |_::_,[],_,h0=>by simp at h0
  |(k,v)::al,e::es,i,h0=>by
    simp only [List.map_cons,List.cons.injEq] at h0
    obtain ⟨h1,h2⟩:=h0
    have he:=h.eq a k w
    rw [←h1] at he
    have ih:=run_ask h a w al es (i+1) h2
    simp only [Instr.findAsking,Sem.run_bind,he,Result.andThen_ok,idx1]
    by_cases hak:a=k
    · simp [hak]
    · rw [if_neg hak]
      simp only [hak,decide_false,Bool.false_eq_true,if_false,ih]
      cases idx1 al a with
      |none=>rfl
      |some j=>
        simp only [Option.map_some,Option.bind_some,List.getElem?_cons_succ]
        congr 2
        funext e
        congr 1
        omega
theorem run_find(h:KeyT P kt enc)(a:κ)(w:World)(al:List (κ × β))(es:List MapEntry)(h0:es.map (·.key)=al.map (fun p=>enc p.1)):
    (Instr.findKey kt (enc a) es).run P w= .ok ((idx1 al a).bind fun j=>(es[j]?).map fun e=>(j,e.val)) w:=by
  obtain ⟨D,hD⟩:=h.und;have g1:=run_ask h a w al es 0 h0;simp only [Nat.zero_add] at g1
  cases es with
  |nil=>
    have:al=[]:=by cases al with
      |nil=>rfl
      |cons p l=>simp at h0
    subst this;simp [Instr.findKey,run_underlying hD,Instr.findNow,idx1]
  |cons e es=>
    have:=h.now (e::es) 0 a D hD (by simp) (fun e' he=>by
      have hm:e'.key∈(e::es).map (·.key):=List.mem_map_of_mem he;rw [h0] at hm;obtain ⟨p,_,hp⟩:=List.mem_map.1 hm
      exact ⟨p.1,hp.symm⟩)
    simp only [Instr.findKey,Sem.run_bind,run_underlying hD,Result.andThen_ok,this];exact g1
end
section
variable {X : Ctx} {L : AL} {B : BL} {ops : Array Oper} {K : Act → World → Prop} {r : Pl} {k : Kd}
  {x y z : Operand} {d : Nat} {t t2 t' : TypeId} {pos : String} {af : Array Edge} {g : Option (Nat × Bool)}
def KeyIs (X : Ctx) (L : AL) (B : BL) (y : Operand) (v : Value) : Prop := ∀ a ρ w, Is X L B a ρ w → a.eval y = v
theorem cells_exact{S:BSet}{w:World}:∀{us vs:List Value},cells S w (us.map CT.ex) vs→vs=us
  | [],[],_=>rfl
  |u::us,v::vs,⟨h1,h2⟩=>by
    have:v=u:=h1
    rw [this,cells_exact h2]
  | [],_::_,h=>h.elim
  |_::_,[],h=>h.elim
theorem KeyIs.agg{us:List Value}(h:ev L y=some (.ct (.fr (aggT (us.map CT.ex))))):KeyIs X L B y (.agg us.toArray):=fun a ρ w hI=>by
  obtain ⟨vs,h1,h2⟩:=hI.ev h
  rw [h1,cells_exact h2]
theorem Fin.nameM(dd i:Nat){kv:List (Value × CT)}(hd:look L dd=some (.own i))(hi:bget B i=some (.mp kv))(h:∀v:Value,v.oneCell' =true→Fin X ((dd, .ct (.ex v))::L) (bset B i (.mpx v kv)) K):Fin X L B K:=fun a ρ w hI=>by
  have h1:a.tmps.getD dd undef=ρ i:=hI.slot dd _ hd
  have h2:=(hI.ent i _ hi).1
  exact h (ρ i) (by obtain ⟨q,hq,_⟩:=h2;rw [hq];rfl) a ρ w ((hI.retype (e' := .mpx (ρ i) kv) hi ⟨rfl,h2⟩ rfl).slotx (s:= .ct (.ex (ρ i))) h1)
theorem Ops.mkMap(i:Nat)(hk:k.mk=true)(hg:gd ops L g=some true)(hN:noN i L=true)(hB:bget B i=none)(hn:Nat.blt d X.n=true)
    (h:∀v:Value,v.oneCell' =true→Ops X ops r ((d, .ct (.ex v))::(d, .own i)::L) ((i, .mpx v [])::B) K):Ops X ops (.cons ⟨some d, .makeMap t none,t',pos,af,g⟩ k r) L B K:=
  Ops.mkE (e:= .mp []) hk hg rfl hn hN hB (fun a ρ w hI=>by
    refine ⟨.map (some w.heap.size),w.alloc (.map #[] 0),?_,Yb _ _,fun q hq=> ?_,fun S' hk=>⟨w.heap.size,rfl, #[],0,heap_alloc_new w _,rfl,trivial,⟨fun _ h=>(nomatch h),List.Pairwise.nil⟩⟩⟩
    · show (do pure (Next.value (←Instr.makeMap t none)):Sem Next).run X.P w=_
      refine Xb ?_
      simp [Instr.makeMap]
    · injection hq with hq;subst hq;exact Nat.le_refl _)
    (Fin.nameM d i (Zq ..) (Qd ..) fun v hv=>by
      have hbs:bset ((i,Ent.mp [])::B) i (.mpx v [])=(i, .mpx v [])::B:=by simp only [bset,Nat.beq_refl]
      rw [hbs];exact h v hv)
variable {κ β : Type} [DecidableEq κ] {kt et mt : TypeId} {enc : κ → Value} {cv : β → CT}
omit [DecidableEq κ] in
theorem kvs_keys{al:List (κ × β)}{es:Array MapEntry}(h:es.toList.map (·.key)=(kvs enc cv al).map (·.1)):es.toList.map (·.key)=al.map (fun p=>enc p.1):=by rw [h];simp [kvs]
theorem run_lookup{P:Program}{S:BSet}{w:World}{gb:Nat}{al:List (κ × β)}{zv:Value}(z0:β)(ok:Bool)(a:κ)(hm:P.underlying mt=some (.map kt et))(hz:∀w,(zeroValue et).run P w= .ok zv w)(hz0:(cv z0).p S w zv)(hK:KeyT P kt enc)
    (hM:mapAt S w gb (kvs enc cv al)):∃v,(cv ((look1 al a).getD z0)).p S w v∧∀w' :World,w'.heap[gb]? =w.heap[gb]? →(Instr.lookup mt (.map (some gb)) (enc a) ok).run P w' = .ok (if ok then .tuple #[v, .bool (look1 al a).isSome] else v) w' :=by
  obtain ⟨es,clock,h1,h2,h3,_⟩:=hM
  have hf:=fun w=>run_find hK a w al es.toList (kvs_keys h2)
  rw [look1_idx]
  cases e:idx1 al a with
  |none=>
    refine ⟨zv,hz0,fun w' hw=> ?_⟩;have hget:(getObj gb).run P w' = .ok (.map es clock) w' :=run_getMap (hw.trans h1);rw [e] at hf;simp only [Option.bind_none] at hf;simp only [Instr.lookup,Sem.run_bind,run_underlying hm,Result.andThen_ok,hget,Sem.run_pure,hK.ck,hf]
    cases ok <;>simp [hz]
  |some j=>
    obtain ⟨b,hb⟩:=idx1_key a al j e
    have hc:((kvs enc cv al).map (·.2))[j]? =some (cv b):=by
      rw [kvs,List.map_map,List.getElem?_map,hb];rfl
    obtain ⟨v,d1,d2⟩:=h3.get hc;rw [List.getElem?_map] at d1;obtain ⟨en,he,rfl⟩:=Option.map_eq_some_iff.1 d1;refine ⟨en.val,by simpa [hb] using d2,fun w' hw=> ?_⟩;have hget:(getObj gb).run P w' = .ok (.map es clock) w' :=run_getMap (hw.trans h1);rw [e] at hf;simp only [Option.bind_some,he,Option.map_some] at hf;simp only [Instr.lookup,Sem.run_bind,run_underlying hm,Result.andThen_ok,hget,Sem.run_pure,hK.ck,hf]
    cases ok <;>simp [hb]
theorem Ops.lookM{i:Nat}{hv zv:Value}{al:List (κ × β)}(z0:β)(ka:κ)(hk:k.rd=true)(hg:gd ops L g=some true)(hx:ev L x=some (.ct (.ex hv)))(hi:bget B i=some (.mpx hv (kvs enc cv al)))(hy:KeyIs X L B y (enc ka))(hm:X.P.underlying mt=some (.map kt et))(hz:∀w,(zeroValue et).run X.P w= .ok zv w)(hz0:∀S w,(cv z0).p S w zv)(hK:KeyT X.P kt enc)(hn:Nat.blt d X.n=true)
    (h:Ops X ops r ((d, .ct (cv ((look1 al ka).getD z0)))::L) B K):Ops X ops (.cons ⟨some d, .lookup mt x y false,t',pos,af,g⟩ k r) L B K:=
  Ops.rd (s:= .ct (cv ((look1 al ka).getD z0))) hk hg rfl hn (fun a ρ w hI=>by
    obtain ⟨h1,gb,h2,h3⟩:=(hI.ent i _ hi).1
    obtain ⟨v,c1,c2⟩:=run_lookup z0 false ka hm hz (hz0 (Sof X B ρ) w) hK h3
    refine ⟨v,fun w' hb=> ?_,c1⟩
    show (do pure (Next.value (←Instr.lookup mt (a.eval x) (a.eval y) false)):Sem Next).run X.P w' =_
    rw [hI.evx hx,←h1,h2,hy a ρ w hI]
    obtain ⟨es,clock,h4,_⟩:=h3
    exact Xb (c2 w' (hb.block gb (ZJ h4)))) h
theorem Ops.lookM2{i:Nat}{hv zv:Value}{al:List (κ × β)}(z0:β)(ka:κ)(hk:k.rd=true)(hg:gd ops L g=some true)(hx:ev L x=some (.ct (.ex hv)))(hi:bget B i=some (.mpx hv (kvs enc cv al)))(hy:KeyIs X L B y (enc ka))(hm:X.P.underlying mt=some (.map kt et))(hz:∀w,(zeroValue et).run X.P w= .ok zv w)(hz0:∀S w,(cv z0).p S w zv)(hK:KeyT X.P kt enc)(hn:Nat.blt d X.n=true)
    (h:Ops X ops r ((d, .ct (.fr (tupT [cv ((look1 al ka).getD z0), .ex (.bool (look1 al ka).isSome)])))::L) B K):Ops X ops (.cons ⟨some d, .lookup mt x y true,t',pos,af,g⟩ k r) L B K:=
  Ops.rd (s:= .ct (.fr (tupT [cv ((look1 al ka).getD z0), .ex (.bool (look1 al ka).isSome)]))) hk hg rfl hn (fun a ρ w hI=>by
    obtain ⟨h1,gb,h2,h3⟩:=(hI.ent i _ hi).1
    obtain ⟨v,c1,c2⟩:=run_lookup z0 true ka hm hz (hz0 (Sof X B ρ) w) hK h3
    refine ⟨.tuple #[v, .bool (look1 al ka).isSome],fun w' hb=> ?_,[v, .bool (look1 al ka).isSome],rfl,c1,rfl,trivial⟩
    show (do pure (Next.value (←Instr.lookup mt (a.eval x) (a.eval y) true)):Sem Next).run X.P w' =_
    rw [hI.evx hx,←h1,h2,hy a ρ w hI]
    obtain ⟨es,clock,h4,_⟩:=h3
    exact Xb (c2 w' (hb.block gb (ZJ h4)))) h
theorem Ops.lookF{zv:Value}{al:List (κ × β)}(z0:β)(ka:κ)(hk:k.rd=true)(hg:gd ops L g=some true)(hx:ev L x=some (.ct (.fr (mapT (kvs enc cv al)))))(hy:KeyIs X L B y (enc ka))(hm:X.P.underlying mt=some (.map kt et))(hz:∀w,(zeroValue et).run X.P w= .ok zv w)(hz0:∀S w,(cv z0).p S w zv)(hK:KeyT X.P kt enc)(hn:Nat.blt d X.n=true)
    (h:Ops X ops r ((d, .ct (cv ((look1 al ka).getD z0)))::L) B K):Ops X ops (.cons ⟨some d, .lookup mt x y false,t',pos,af,g⟩ k r) L B K:=
  Ops.rd (s:= .ct (cv ((look1 al ka).getD z0))) hk hg rfl hn (fun a ρ w hI=>by
    obtain ⟨gb,h1,_,h2,h3⟩:=hI.ev hx
    obtain ⟨v,c1,c2⟩:=run_lookup z0 false ka hm hz (hz0 (Sof X B ρ) w) hK h3
    refine ⟨v,fun w' hb=> ?_,c1⟩
    show (do pure (Next.value (←Instr.lookup mt (a.eval x) (a.eval y) false)):Sem Next).run X.P w' =_
    rw [h1,hy a ρ w hI]
    exact Xb (c2 w' (hb.block gb h2))) h
theorem run_set{P:Program}{S:BSet}{w:World}{gb:Nat}{al:List (κ × β)}{v:Value}(a:κ)(b:β)(hm:P.underlying mt=some (.map kt et))(hK:KeyT P kt enc)(hM:mapAt S w gb (kvs enc cv al))(hv:(cv b).p S w v):
    ∃(es:Array MapEntry) (clock:Nat),(Instr.mapUpdate mt (.map (some gb)) (enc a) v).run P w= .ok () {w with heap:=w.heap.setIfInBounds gb (.map es clock)}∧es.toList.map (·.key)=(kvs enc cv (ins al a b)).map (·.1)∧cells S w ((kvs enc cv (ins al a b)).map (·.2)) (es.toList.map (·.val))∧Stamps es clock:=by
  obtain ⟨es,clock,h1,h2,h3,hS1,hS2⟩:=hM;have hf:=run_find hK a w al es.toList (kvs_keys h2);have hget:(getObj gb).run P w= .ok (.map es clock) w:=run_getMap h1
  have hset:∀o,(setObj gb o).run P w= .ok () {w with heap:=w.heap.setIfInBounds gb o}:=fun o=>run_setMap o h1
  rw [ins_idx]
  cases e:idx1 al a with
  |none=>
    rw [e] at hf;simp only [Option.bind_none] at hf;refine ⟨es.push {key:=enc a,val:=v,born:=clock},clock+1,?_,?_,?_,?_⟩
    · simp only [Instr.mapUpdate,Sem.run_bind,run_underlying hm,Result.andThen_ok,hget,hK.ck,hf];exact hset _
    · simp [kvs,kvs_keys h2]
    · simp only [kvs,List.map_append,List.map_cons,List.map_nil,Array.toList_push];refine cells.append (by simpa [kvs] using h3) ⟨hv,trivial⟩
    · constructor
      · intro x hx;rw [Array.toList_push,List.mem_append,List.mem_singleton] at hx;rcases hx with hx|rfl
        · exact Nat.lt_succ_of_lt (hS1 x hx)
        · exact Nat.lt_succ_self _
      · rw [Array.toList_push,List.map_append,List.nodup_append];refine ⟨hS2,by simp,fun x hx y hy hxy=> ?_⟩;rw [List.map_singleton,List.mem_singleton] at hy;obtain ⟨z,hz,rfl⟩:=List.mem_map.1 hx;have:=hS1 z hz;rw [hxy,hy] at this;exact Nat.lt_irrefl _ this
  |some j=>
    obtain ⟨b0,hb⟩:=idx1_key a al j e;have hj:j<al.length:=(List.getElem?_eq_some_iff.1 hb).1;have hk0:=congrArg (fun l=>l[j]?) (kvs_keys h2);simp only [List.getElem?_map,hb,Option.map_some] at hk0;obtain ⟨en,he,hke⟩:=Option.map_eq_some_iff.1 hk0;rw [e] at hf;simp only [Option.bind_some,he,Option.map_some] at hf
    have hes:es[j]? =some en:=by rw [←Array.getElem?_toList];exact he
    have hje:j<es.size:=(Array.getElem?_eq_some_iff.1 hes).1
    have hb0:(es.toList.modify j fun e=>{e with key:=enc a,val:=v}).map (·.born)=es.toList.map (·.born):=by
      apply List.ext_getElem?
      intro q;simp only [List.getElem?_map,List.getElem?_modify];by_cases hqj:j=q
      · subst hqj;simp [he]
      · simp [hqj]
    refine ⟨es.modify j fun e=>{e with key:=enc a,val:=v},clock,?_,?_,?_,?_⟩
    · simp only [Instr.mapUpdate,Sem.run_bind,run_underlying hm,Result.andThen_ok,hget,hK.ck,hf,hes,Option.map_some,Option.getD_some,hke,Instr.keyThatStays,hK.sb,if_true,Sem.run_pure];exact hset _
    · have hT:=kvs_keys h2;rw [Array.toList_modify]
      apply List.ext_getElem?
      intro q;have hq:=congrArg (fun l=>l[q]?) hT;simp only [List.getElem?_map] at hq;simp only [kvs,List.map_set,List.map_map,List.getElem?_map,List.getElem?_set,List.getElem?_modify];by_cases hqj:j=q
      · subst hqj;simp [he,hj]
      · simp only [hqj,if_false,List.getElem?_map]
        simpa [Function.comp_def] using hq
    · have h4:=h3.set (i:=j) hv;rw [Array.toList_modify]
      have e1:(kvs enc cv (al.set j (a,b))).map (·.2)=((kvs enc cv al).map (·.2)).set j (cv b):=by simp [kvs,List.map_set]
      have e2:(es.toList.modify j fun e=>{e with key:=enc a,val:=v}).map (·.val)=(es.toList.map (·.val)).set j v:=by
        apply List.ext_getElem?
        intro q;simp only [List.getElem?_map,List.getElem?_modify,List.getElem?_set,List.length_map,Array.length_toList];by_cases hqj:j=q
        · subst hqj;simp [he,hje]
        · simp [hqj]
      show cells S w ((kvs enc cv (al.set j (a,b))).map (·.2)) _;rw [e1,e2];exact h4
    · rw [←Array.toList_modify] at hb0;refine ⟨fun x hx=> ?_,by rw [hb0];exact hS2⟩
      have:x.born∈es.toList.map (·.born):=by rw [←hb0];exact List.mem_map_of_mem hx
      obtain ⟨y,hy,e⟩:=List.mem_map.1 this;rw [←e];exact hS1 y hy
theorem XQ{i:Nat}{hv:Value}{al:List (κ × β)}(ka:κ)(b:β)(hg:gd ops L g=some true)(hx:ev L x=some (.ct (.ex hv)))(hi:bget B i=some (.mpx hv (kvs enc cv al)))(hy:KeyIs X L B y (enc ka))(hz:ev L z=some (.ct (cv b)))(hm:X.P.underlying mt=some (.map kt et))(hK:KeyT X.P kt enc)
    (h:Ops X ops r L (bset B i (.mpx hv (kvs enc cv (ins al ka b)))) K):Ops X ops (.cons ⟨none, .mapUpdate mt x y z,t',pos,af,g⟩ .any r) L B K:=fun a ρ w hI=>by
  show wpO _ _ _ _ _ _
  unfold wpO
  rw [if_pos (Zw (o:=⟨none,_,t',pos,af,g⟩) hI hg)]
  obtain ⟨h1,gb,h2,h3⟩:=(hI.ent i _ hi).1
  obtain ⟨es,clock,hrun,hk',hc',hS'⟩:=run_set ka b hm hK h3 (hI.ev hz)
  have hlt:gb<w.heap.size:=by obtain ⟨_,_,h4,_⟩:=h3;exact ZJ h4
  have hrun2:(execOp a.eval ⟨none, .mapUpdate mt x y z,t',pos,af,g⟩).run X.P w= .ok .skip {w with heap:=w.heap.setIfInBounds gb (.map es clock)}:=by
    show (do Instr.mapUpdate mt (a.eval x) (a.eval y) (a.eval z);pure Next.skip:Sem Next).run X.P w=_;rw [hI.evx hx,←h1,h2,hy a ρ w hI];simp [hrun]
  unfold Oper.wp;rw [hrun2];show wpX _ _ _ _ (a.put none undef) _;rw [put_none]
  have hW:=Is.write (v:=ρ i) (e' := .mpx hv (kvs enc cv (ins al ka b))) (w' :={w with heap:=w.heap.setIfInBounds gb (.map es clock)}) hI hi J J J (by simp)
    (fun q hq hne=>by
      have:gb≠q:=fun e=>hne (by rw [h2,←e];rfl)
      simp [Array.getElem?_setIfInBounds,this]) (.inl J)
    (fun S' hk=>⟨h1,gb,h2,es,clock,by simp [Array.getElem?_setIfInBounds,hlt],hk',hc'.mono hk,hS'⟩) (.inl J) (.inl ⟨rfl,rfl⟩)
  exact h a _ _ (hW.bext (Xf hi))
theorem Fin.frzM(i j o:Nat){v:Value}{tt:Nat}{kv:List (Value × CT)}{ds:List CT}(hi:bget B i=some (.mpx v kv))(hj:bget (bdel B i) j=some (.box tt ds))(ho:ds[o]? =some (.ex v))(hS:okFix X i)
    (h:Fin X L (bset (bdel B i) j (.box tt (ds.set o (.fr (mapT kv))))) K) (hf:noFix X i=true:=by rfl):Fin X L B K:=fun a ρ w hI=>by
  obtain ⟨h2,h3⟩:=(hI.ent i _ hi).1
  have hv:(mapT kv).p (Sof X (bdel B i) ρ) w (ρ i):=hI.frozen_val (e2:= .mp kv) hi rfl h3 (hI.okFix hi hS)
  rw [h2] at hv
  have hD:=hI.dropB i hf
  obtain ⟨gb,us,h4,h5,h6⟩:=(hD.ent j _ hj).1
  have hu:us[o]? =some v:=by
    obtain ⟨u,hu1,hu2⟩:=h6.get ho;have:u=v:=hu2;rw [←this];exact hu1
  have hset:us.set o v=us:=by
    apply List.ext_getElem?
    intro q;rw [List.getElem?_set];split
    · rename_i hq;subst hq
      rw [hu];split
      · rfl
      · rename_i hlt;exact absurd (List.getElem?_eq_some_iff.1 hu).1 hlt
    · rfl
  refine h a ρ w (hD.retype hj ⟨gb,us,h4,h5,?_⟩ rfl);rw [←hset];exact h6.set hv
theorem St.frzM{c:Code}{Q:Exit→Act→World→Prop}(i j o:Nat){v:Value}{tt:Nat}{kv:List (Value × CT)}{ds:List CT}(hi:bget B i=some (.mpx v kv))(hj:bget (bdel B i) j=some (.box tt ds))(ho:ds[o]? =some (.ex v))(hS:okFix X i)
    (h:St X L (bset (bdel B i) j (.box tt (ds.set o (.fr (mapT kv))))) c Q) (hf:noFix X i=true:=by rfl):St X L B c Q:=Fin.frzM i j o hi hj ho hS h hf
end
end Go.Own
namespace Go.Proofs.YtojkdfilabmafaaGreat
open Go.Own Go.Limbs
structure Tk where
  va : Int
  ds : Fin 4294967296
  pr : Int
deriving DecidableEq
def trOf (r : Rs) : Tk := ⟨r.va, r.dst, r.pr⟩
def tkI (t : Tk) : List Int := [t.va, (t.ds.val : Int), t.pr]
def cmpT (a b : Tk) : Int := cmpL (tkI a) (tkI b)
theorem ordT:Ord cmpT where
  anti a b:=cmpL_anti _ _
  eq0 a b h:=by
    have:=cmpL_eq (xs:=tkI a) (ys:=tkI b) J h;obtain ⟨a1,a2,a3⟩:=a;obtain ⟨b1,b2,b3⟩:=b;simp only [tkI,List.cons.injEq,and_true,Int.ofNat_inj,Fin.val_inj] at this;obtain ⟨h1,h2,h3⟩:=this;rw [h1,h2,h3]
  trans a b c:=cmpL_trans (xs:=tkI a) (ys:=tkI b) (zs:=tkI c) J J
def usR (r : Rs) : Bool := !r.db && okR r
def fiR (r : Rs) : Bool := r.an && (decide (r.ki ≠ 1) && usR r)
def endS (e : Int) (r : Rs) : Int := if (e = 0 ∨ r.tt < e) ∧ fiR r = true then r.tt else e
def endF (l : List Rs) : Int := l.foldl endS 0
abbrev Sp := Int × Int
abbrev AdM := List (Sp × Fin 4294967296)
abbrev StM := List (Sp × Int)
def lookS (e : Int) (m : AdM × StM) (r : Rs) : AdM × StM :=
  if usR r = false ∨ (0 < e ∧ e < r.tt) then m
  else if r.an = false then (m.1, ins m.2 (r.fl, r.tt) (max ((look1 m.2 (r.fl, r.tt)).getD 0) 1))
  else if (look1 m.2 (r.fl, r.tt)).getD 0 ≤ 1 then (ins m.1 (r.fl, r.tt) r.fr, ins m.2 (r.fl, r.tt) 2)
  else if (look1 m.2 (r.fl, r.tt)).getD 0 = 2 ∧ (look1 m.1 (r.fl, r.tt)).getD 0 ≠ r.fr then (ins m.1 (r.fl, r.tt) 0, ins m.2 (r.fl, r.tt) 3)
  else m
def lookG (l : List Rs) : AdM × StM := l.foldl (lookS (endF l)) ([], [])
def hasS (m : StM) (fl tt : Int) : Bool := decide ((look1 m (fl, tt)).getD 0 = 2) || decide ((look1 m (fl, tt)).getD 0 = 1)
def pathG (m : AdM × StM) (fl : Int) : Nat → Int → List (Fin 4294967296)
  | 0, _ => []
  | k + 1, tt => if hasS m.2 fl tt then (look1 m.1 (fl, tt)).getD 0 :: pathG m fl k (tt + 1) else []
def pathF (l : List Rs) (fl : Int) : List (Fin 4294967296) := pathG (lookG l) fl 256 1
theorem lookG_keys(l:List Rs):∀s v,look1 (lookG l).2 s=some v→1≤v∧∃r∈l,usR r=true∧s=(r.fl,r.tt):=by
  have key:∀(q:List Rs) (m:AdM × StM),(∀r∈q,r∈l)→(∀s v,look1 m.2 s=some v→1≤v∧∃r∈l,usR r=true∧s=(r.fl,r.tt))→∀s v,look1 (q.foldl (lookS (endF l)) m).2 s=some v→1≤v∧∃r∈l,usR r=true∧s=(r.fl,r.tt):=by
    intro q
    induction q with
    |nil=>intro m _ h;exact h
    |cons r q ih=>
      intro m hq hm
      refine ih (lookS (endF l) m r) (fun x hx=>hq x (List.mem_cons_of_mem _ hx)) ?_
      have hr:=hq r (List.mem_cons_self ..);intro s v hs;unfold lookS at hs;split at hs
      · exact hm s v hs
      · rename_i hu
        have hus:usR r=true:=by
          cases h:usR r with
          |true=>rfl
          |false=>exact absurd (.inl h) hu
        have fin:∀w:Int,1≤w→look1 (ins m.2 (r.fl,r.tt) w) s=some v→1≤v∧∃r∈l,usR r=true∧s=(r.fl,r.tt):=fun w hw h=>by
          rw [look1_ins] at h;split at h
          · rename_i e;injection h with h;exact ⟨by omega,r,hr,hus,e⟩
          · exact hm s v h
        split at hs
        · exact fin _ (by omega) hs
        · split at hs
          · exact fin 2 (by decide) hs
          · split at hs
            · exact fin 3 (by decide) hs
            · exact hm s v hs
  exact key l ([],[]) (fun _ h=>h) (fun s v h=>by cases h)
abbrev Wr := Fin 4294967296 × Fin 4294967296
def wiresG : Fin 4294967296 → List (Fin 4294967296) → Bool → List Wr
  | _, [], _ => []
  | p, a :: l, first => (if a ≠ 0 ∧ (first = true ∨ p ≠ 0) then [(p, a)] else []) ++ wiresG a l false
def wayF (l : List Rs) (r : Rs) : List Wr :=
  if usR r = false then []
  else
    let p := pathF (((sd cmpR (l.filter okR)).filter fun x => decide (trOf x = trOf r))) r.fl
    if r.tt ≤ p.length then wiresG 0 (p.take r.tt.toNat) true
    else if (p.length : Int) < r.tt - 1 ∨ r.an = true then []
    else wiresG 0 p true
end Go.Proofs.YtojkdfilabmafaaGreat
namespace Go.Proofs.YtojkdfilabmafaaGreat
open Go.Own
attribute [local irreducible] St Ops Go.Own.Fin Ok OkB OkN
theorem sBytes:SlcT Tryz.prog 22 5 1 1 (.int .u8 0):=SlcT.of Tryz.underlying22 (by kernel_rfl) rfl (by decide)
theorem lBytes:Ld1 Tryz.prog 22:=Ld1.of _ Tryz.underlying22 rfl
theorem lU8:Ld1 Tryz.prog 5:=Ld1.of _ Tryz.underlying5 rfl
theorem uU8:Tryz.prog.underlying 5=some (.int .u8):=Tryz.underlying5
theorem uInt:Tryz.prog.underlying 3=some (.int .i64):=Tryz.underlying3
theorem fC0:fldInfo Tryz.prog 98 0=some (0,some 1):=by kernel_rfl
theorem fC1:fldInfo Tryz.prog 98 1=some (1,some 1):=by kernel_rfl
theorem bCodes:bInfo Tryz.prog 98=some (.agg #[.slice none 0 0, .int .i64 0],[(0,some 1),(1,some 1)]):=by kernel_rfl
abbrev bytesC (bs : List Int) : CT := .fr (sliceT 1 (bs.map fun b => [CT.ex (.int .u8 b)]))
abbrev codes (bs : List Int) (p : Nat) : List CT := [bytesC bs, intC p]
structure Bytes (bs : List Int) : Prop where
  lo : ∀ b ∈ bs, 0 ≤ b
  hi : ∀ b ∈ bs, b < 256
  len : bs.length ≤ 400
theorem bytes_at{bs:List Int}{j:Int}(h0:0≤j)(h:j<(bs.length:Int)):(bs.map fun b=>[CT.ex (.int .u8 b)])[j.toNat]? =some [CT.ex (.int .u8 (bs.getD j.toNat 0))]:=by
  have hl:j.toNat<bs.length:=by omega
  rw [List.getElem?_map,List.getElem?_eq_getElem hl,List.getD_eq_getElem?_getD,List.getElem?_eq_getElem hl];rfl
theorem Bytes.at{bs:List Int}(h:Bytes bs)(j:Nat):0≤bs.getD j 0∧bs.getD j 0<256:=by
  rw [List.getD_eq_getElem?_getD]
  cases e:bs[j]? with
  |none=>simp
  |some b=>
    have:=List.mem_of_getElem? e;exact ⟨h.lo b this,h.hi b this⟩
theorem goNext:InGo Tryz.prog 12:=InGo.of Tryz.func12 rfl (by decide)
def nxt (bs : List Int) (p : Nat) (n : Int) : Int × Nat := if p < bs.length then (bs.getD p 0 % n, p + 1) else (0, p)
set_option maxHeartbeats 2000000 in
theorem NextD_ok(bs:List Int)(p:Nat)(n:Int)(h1:1≤n)(h2:n≤256)(hb:Bytes bs):
    OkB Tryz.prog 12 98 (codes bs p) [intC n] (fun q:Int × Nat=>(0≤q.1∧q.1<n)∧q=nxt bs p n) (fun q=>intC q.1) (fun q=>codes bs q.2):=by
  have hlen:=hb.len
  refine OkB.enter Tryz.func12 J _ Tryz.ntmps12 J ?_
  intro S w g;refine Qy (Qx fun K hK=> ?_);refine Qv J J J (Qj (hK _ _ (Qz (Qy (Qy ?_)))));clear hK K;refine XX mixed 14 (.p 0 (.p 1 (.p 2 (.p 4 (.p 5 (.p 6 (.f 3 (.f 7 (.p 8 (.p 9 (.p 10 (.p 11 (.p 12 (.p 13 .done)))))))))))))) (by kernel_rfl) (fun K hK=> ?_);refine Qq J J J (Q0 J J J J (QJ J J J fC1 J (Qq J J J (Q0 J J J J (QJ J J J fC0 J (QQ J J J J J lInt J (QQ J J J J J lBytes J (Qh J J sBytes.und (List.length_map ..) J (Qk igeq J J J J (Qq J J J (Qi 16 J (fun h=> ?_) (fun h=> ?_))))))))))))
  · refine Qw J J J (Qw J J J (Q5 J J J J (Qj (hK _ _ (Qz (XZ J (Qy ?_)))))));clear hK K;refine Qx (fun K hK=> ?_);refine Qv J J J (Qj (hK _ _ (Qz (Q4 (QY ?_)))));clear hK K;refine Fin.retB (0,p) [_] rfl (QX J QZ) J J ⟨⟨by show (0:Int)≤0;omega,by show (0:Int)<n;omega⟩,by unfold nxt;rw [if_neg (by omega)]⟩
  · refine Qq J J J (Qk ilss J J J J (Q7 J J J J (Qj (hK _ _ (Qz ?_)))));clear hK K;refine Q2 J (fun h' => ?_) (fun h' => ?_)
    · exact absurd h' (by omega)
    · refine QW (Qz (Qy ?_));refine XX mixed 12 (.p 0 (.p 1 (.p 2 (.p 4 (.p 5 (.p 6 (.f 3 (.f 7 (.p 8 (.f 9 (.p 10 (.p 11 .done)))))))))))) (by kernel_rfl) (fun K hK=> ?_);refine Qq J J J (Q0 J J J J (QJ J J J fC0 J (Qq J J J (Q0 J J J J (QJ J J J fC1 J (QQ J J J J J lBytes J (QQ J J J J J lInt J (Xx J J J sBytes (by omega) (bytes_at (by omega) (by omega)) J ?_))))))))
      refine X1 J J J lU8 J ?_
      have hx:=hb.at p;generalize he:bs.getD p 0=x at hx
      refine Z5 (q:=x) J J uU8 uInt (by rw [Int.toNat_natCast,he];exact Z2 (by omega) (by omega)) J ?_
      refine Qv J J J (Qj (hK _ _ (Qz (Qy ?_))));clear hK K;refine Qx (fun K hK=> ?_);refine Qq J J J (Q0 J J J J (QJ J J J fC1 J (QQ J J J J J lInt J (Qk (iadd (by omega) (by omega)) J J J J ?_))));refine Q0 J J J J (QJ J J J fC1 J (Xj J J J J J zInt (by simp [Ent.cs]) ?_));refine Qj (hK _ _ (Qz (Qy (Qy ?_))));clear hK K;refine Qx (fun K hK=> ?_);refine Qq J J J (Qk igtr J J J J (Qj (hK _ _ (Qz ?_))));clear hK K;refine Q2 J (fun h' => ?_) (fun h' => ?_)
      · exact absurd h' (by omega)
      · refine QW (Qz (Qy (Qx fun K hK=> ?_)));refine Qq J J J (Qq J J J (Qk (irem (by omega) (by omega)) J J J J ?_));refine Qv J J J (Qj (hK _ _ (Qz (Q4 ?_))));clear hK K;refine Fin.retB (x%n,p+1) [_] rfl (QX J QZ) J J ⟨⟨Int.emod_nonneg _ (by omega),Int.emod_lt_of_pos _ (by omega)⟩,by unfold nxt;rw [if_pos (by omega),he]⟩
theorem Next_ok(bs:List Int)(p:Nat)(n:Int)(h1:1≤n)(h2:n≤256)(hb:Bytes bs):
    OkB Tryz.prog 12 98 (codes bs p) [intC n] (fun q:Int × Nat=>0≤q.1∧q.1<n) (fun q=>intC q.1) (fun q=>codes bs q.2):=
  (NextD_ok bs p n h1 h2 hb).weak fun q hq=>⟨q,hq.1,rfl,rfl⟩
theorem goNew:InGo Tryz.prog 42:=InGo.of Tryz.func42 rfl (by decide)
theorem New_ok(bs:List Int):OkN Tryz.prog 42 [bytesC bs,intC 400] 98 (codes (bs.take 400) 0):=by
  refine OkN.enter Tryz.func42 J _ Tryz.ntmps42 J ?_
  intro S w;refine Qy (Qx fun K hK=> ?_);refine Qv J J J (Qj (hK _ _ (Qz (Qy (Qy ?_)))));clear hK K;refine Qx (fun K hK=> ?_);refine Qq J J J (Qh J J sBytes.und (List.length_map ..) J (Qq J J J (Qk igtr J J J J (Qj (hK _ _ (Qz ?_))))));clear hK K;refine Q2 J (fun h' => ?_) (fun h' => ?_)
  · refine Qx (fun K hK=> ?_);refine Qq J J J (Qq J J J (Ops.cutHi J J J sBytes (by omega) (by rw [List.length_map];omega) J ?_));rw [←List.map_take];refine Qv J J J (Qj (hK _ _ (Qz (Qy ?_))));clear hK K;refine Qx (fun K hK=> ?_);refine Qq J J J (Qo J bCodes J (.one J J J J .nil) J (Xu 0 J J J J J J J (Qv J J J (Qj (hK _ _ (Qz (Q4 ?_)))))));clear hK K;refine Fin.retN J J J J
  · refine QW (Qz (Qy (Qx fun K hK=> ?_)));refine Qq J J J (Qo J bCodes J (.one J J J J .nil) J (Xu 0 J J J J J J J (Qv J J J (Qj (hK _ _ (Qz (Q4 ?_)))))));clear hK K;refine Fin.retN J J (by rw [List.take_of_length_le (by omega)];rfl) J
theorem goRoll:InGo Tryz.prog 11:=InGo.of Tryz.func11 rfl (by decide)
theorem Roll_ok(bs:List Int):OkN Tryz.prog 11 [bytesC bs] 98 (codes (bs.take 400) 0):=by
  refine OkN.enter Tryz.func11 J _ Tryz.ntmps11 J ?_
  intro S w;refine Qy (Qx fun K hK=> ?_);refine Qv J J J (Qj (hK _ _ (Qz (Qy ?_))));clear hK K;refine Qx (fun K hK=> ?_);refine Qq J J J (Ops.callN 0 goNew (New_ok bs) J J J J J J (Qv J J J (Qj (hK _ _ (Qz (Q4 ?_))))));clear hK K;refine Fin.retN J J J J
attribute [local irreducible] OkF OkL OkT
attribute [local irreducible] wpR
section
variable {X : Ctx} {L : AL} {B : BL} {ops : Array Oper} {K : Act → World → Prop} {r : Pl} {k : Kd}
  {x y z : Operand} {d : Nat} {t t2 t' : TypeId} {pos : String} {af : Array Edge} {g : Option (Nat × Bool)}
def evAllI (L : AL) : Nat → List (Nat × Operand) → List Int → Prop
  | _, [], [] => True
  | s, (i, x) :: q, y :: ys => i = s ∧ ev L x = some (.ct (intC y)) ∧ evAllI L (s + 1) q ys
  | _, _, _ => False
theorem parts_ints:∀(ps:List (Nat × Operand)) (ys:List Int) (s:Nat) (pre zs:List CT),pre.length=s→zs.length=ys.length→evAllI L s ps ys→BParts L (fun i=>some (i*1,1)) ps (pre++zs) (pre++ints ys)
  | [],[],_,pre,zs,_,h2,_=>by
    have:zs=[]:=List.eq_nil_of_length_eq_zero h2
    subst this
    exact .nil
  | [],_::_,_,_,_,_,_,h=>h.elim
  |_::_,[],_,_,_,_,_,h=>h.elim
  |(i,x)::q,y::ys,s,pre,z::zs,h1,h2,h=>by
    obtain ⟨rfl,h3,h4⟩:=h
    refine .one (off:=i*1) (c:=intC y) rfl h3 rfl (by rw [Nat.blt_eq,List.length_append,List.length_cons];omega) ?_
    have e:(pre++z::zs).set (i*1) (intC y)=(pre++ [intC y])++zs:=by
      rw [Nat.mul_one,List.set_append_right _ _ (by omega),h1,Nat.sub_self,List.set_cons_zero,List.append_assoc];rfl
    have e2:pre++ints (y::ys)=(pre++ [intC y])++ints ys:=by simp [ints]
    rw [e,e2];exact parts_ints q ys (i+1) (pre++ [intC y]) zs (by rw [List.length_append,h1];rfl) (by simpa using h2) h4
  |_::_,_::_,_,_,[],_,h2,_=>by simp at h2
theorem chunk_ints:∀xs:List Int,chunk 1 xs.length (ints xs)=xs.map fun x=>[intC x]
  | []=>rfl
  |x::xs=>by
    show ((ints (x::xs)).take 1)::chunk 1 xs.length ((ints (x::xs)).drop 1)=_
    rw [show (ints (x::xs)).drop 1=ints xs by simp [ints],chunk_ints xs]
    rfl
theorem Ops.litI{ps:List (Nat × Operand)}{m:Nat}(xs:List Int)(hk:k.mk=true)(hg:gd ops L g=some true)(hT:SlcT X.P t 3 1 8 (.int .i64 0))(hm:xs.length=m)(hp:evAllI L 0 ps xs)(hml:m≤16777216)(hn:Nat.blt d X.n=true)
    (h:Ops X ops r ((d, .ct (intsC xs))::L) B K):Ops X ops (.cons ⟨some d, .buildSlice t m ps.toArray,t',pos,af,g⟩ k r) L B K:=by
  subst hm
  refine Ops.lit (cs:=ints xs) hk hg hT ?_ (by omega) hn ?_
  · exact parts_ints ps xs 0 [] _ J ((zinit_len hT xs.length).trans (Nat.mul_one _)) hp
  · rw [chunk_ints];exact h
end
abbrev adrF (x : Fin 4294967296) : CT := adrC (x.val : Int)
theorem lTrace:LdN Tryz.prog 123 3:=LdN.of _ Tryz.underlying123 rfl (by kernel_rfl)
theorem szTrace:(Tryz.prog.info? 123).map (·.size)=some 3:=by kernel_rfl
theorem zvTrace:(Tryz.prog.info? 123).map (·.zero)=some (some (.agg #[.int .i64 0, .int .u32 0, .int .i64 0])):=by kernel_rfl
theorem bTrace:bInfo Tryz.prog 123=some (.agg #[.int .i64 0, .int .u32 0, .int .i64 0],[(0,some 1),(1,some 1),(2,some 1)]):=by kernel_rfl
structure Tr where
  va : Int
  ds : Fin 4294967296
  pr : Int
  p : Nat
abbrev trCs (e : Tr) : List CT := [intC e.va, adrF e.ds, intC e.pr]
end Go.Proofs.YtojkdfilabmafaaGreat
namespace Go.Limbs
theorem row_at{α:Type}(D l:List α)(q:Nat)(z:α)(h:D.length≤q):(D++l.drop D.length).getD q z=l.getD q z:=by
  rw [List.getD_eq_getElem?_getD,List.getElem?_append_right h,List.getElem?_drop,List.getD_eq_getElem?_getD,show D.length+(q - D.length)=q by omega]
theorem row_set{α:Type}(D l:List α)(x:α)(h:D.length<l.length):(D++l.drop D.length).set D.length x=(D++ [x])++l.drop (D++ [x]).length:=by
  rw [List.set_append_right _ _ (Nat.le_refl _),Nat.sub_self,List.length_append,List.length_singleton,List.drop_eq_getElem_cons h,List.set_cons_zero,List.append_assoc];rfl
end Go.Limbs
namespace Go.Proofs.YtojkdfilabmafaaGreat
open Go.Own Go.Limbs
attribute [local irreducible] St Ops Go.Own.Fin Ok OkB OkN OkT OkL OkF
theorem rss_take(l:List Rs)(i:Nat):(rss l).take (i*17)=rss (l.take i):=el_take rs_len l i
section
variable {X : Ctx} {L : AL} {B : BL} {ops : Array Oper} {K : Act → World → Prop} {r : Pl} {k : Kd}
  {x y z : Operand} {d : Nat} {t t2 t' : TypeId} {pos : String} {af : Array Edge} {g : Option (Nat × Bool)}
theorem neRs'(p q:Rs)(hg:gd ops L g=some true)(hx:ev L x=some (.ct (rsC p)))(hy:ev L y=some (.ct (rsC q)))(hP:X.P=Tryz.prog)(hn:Nat.blt d X.n=true)
    (h:Ops X ops r ((d, .ct (boolC (decide (¬p=q))))::L) B K):Ops X ops (.cons ⟨some d, .binOp .neq 47 x y t2,t',pos,af,g⟩ k r) L B K:=
  neRs p q hg hx hy hP hn (by rw [←decide_not];exact h)
end
theorem goCompact_Rs:InGo Tryz.prog 104:=InGo.of Tryz.func104 (by kernel_rfl) (by kernel_rfl)
set_option maxHeartbeats 4000000 in
theorem Compact_Rs_ok (l : List Rs) (hl : l.length ≤ 100000) : OkT Tryz.prog 104 47 17 (rss l) [] (rss (dd l)) := by
  refine OkT.enter Tryz.func104 J _ Tryz.ntmps104 J ?_
  intro S w h0; refine Qy (Qx fun K hK => ?_); refine Qv J J J (Qj (hK _ _ (Qz (Qy (Qy ?_))))); clear hK K; refine Qx (fun K hK => ?_); refine Qq J J J (YW l.length J J J (by decide) (rss_len l) sRes.und J ?_); refine Qk ilss J J J J (Qj (hK _ _ (Qz ?_))); clear hK K; refine Q2 J (fun h => ?_) (fun h => ?_)
  · rw [dd_small (l := l) (by omega)]; refine Qy (Qx fun K hK => ?_); refine Qq J J J (Qv J J J (Qj (hK _ _ (Qz (Q4 (QY ?_)))))); clear hK K; refine Yc J J J
  refine QW (Qz (Qy (Qy (Qx fun K hK => ?_)))); refine Qv J J J (Qj (hK _ _ (Qz (Q3 ?_)))); clear hK K
  refine Qs (α := Nat) (fun i => i + 1 ≤ l.length ∧ dd (l.take (i + 1)) = l.take (i + 1))
    (fun i => [(0, .own 0), (3, .ct (intC (i + 1)))]) (fun _ => [(0, .row 47 17 (rss l))]) (fun i => l.length - i) 0 ⟨by omega, dd_small (by rw [List.length_take]; omega)⟩ (by exact Qu J ⟨rfl, rfl, trivial⟩) ?_
  rintro i ⟨hi, hd⟩
  try dsimp only at hi hd
  try dsimp only
  refine Qy (Qy (Qx fun K hK => ?_)); refine Qq J J J (Qq J J J (YW l.length J J J (by decide) (rss_len l) sRes.und J ?_)); refine Qk ilss J J J J (Qj (hK _ _ (Qz ?_))); clear hK K; refine Q2 J (fun h => ?_) (fun h => ?_); rotate_left
  · have e : dd l = l := by
      have := hd; rw [List.take_of_length_le (by omega)] at this; exact this
    rw [e]; refine Qm (Qz (Qy (Qx fun K hK => ?_))); refine Qq J J J (Qv J J J (Qj (hK _ _ (Qz (Q4 ?_))))); clear hK K; refine Yc J J J
  refine QW (Qz (Qy (Q3 (Qy ?_)))); refine XX mixed 10 (.p 0 (.p 1 (.p 2 (.p 4 (.p 5 (.p 6 (.p 7 (.f 3 (.f 8 (.p 9 .done)))))))))) (by kernel_rfl) (fun K hK => ?_); refine Qq J J J (Qq J J J (XJ l.length J J J (rss_len l) J sRes (by omega) (by omega) J ?_)); refine Qq J J J (Qq J J J (Qk (isub (by omega) (by omega)) J J J J ?_))
  refine XJ l.length J J J (rss_len l) J sRes (by omega) (by omega) J ?_
  skip
  refine ldE rsCs rs0 rs_len J J J J J (by omega) lRes J ?_
  refine ldE rsCs rs0 rs_len J J J J J (by omega) lRes J ?_
  rw [show ((i : Int) + 1).toNat = i + 1 by omega, show ((i : Int) + 1 - 1).toNat = i by omega]; generalize hx : l.getD i rs0 = x; generalize hy : l.getD (i + 1) rs0 = y; refine eqRs y x J J J J J (Qj (hK _ _ (Qz ?_))); clear hK K; have hs := dd_step (l := l) (z := rs0) (p := i + 1) (by omega) (by omega); rw [show i + 1 - 1 = i by omega, hx, hy] at hs; refine Q2 J (fun he => ?_) (fun he => ?_); rotate_left
  · refine QW (Qz (Qx fun K hK => ?_)); refine Qq J J J (Qk (iadd (by omega) (by omega)) J J J J ?_); refine Qv J J J (Qj (hK _ _ (Q6 ?_))); clear hK K; refine Q9 (i + 1) (by omega) ⟨by omega, ?_⟩ (by exact Qu J ⟨rfl, by simp only [Int.natCast_add]; rfl, trivial⟩); rw [hs, if_neg he, hd, List.take_add_one (i := i + 1), List.getElem?_eq_getElem (by omega), ← hy, List.getD_eq_getElem?_getD, List.getElem?_eq_getElem (by omega)]; rfl
  rw [if_pos he, hd] at hs; refine St.nameS 0 0 l.length J J (rss_len l) (by omega) (by decide) (fun gb c hc1 hc2 => ?_); refine Qy (Qx fun K hK => ?_); refine Qq J J J (Qq J J J (Z4 (i + 1) J J J (by omega) sRes (by omega) J ?_)); rw [if_neg (show ¬ c = i + 1 by omega), Nat.zero_add]; refine Qv J J J (Qj (hK _ _ (Qz (Qy (Qy ?_))))); clear hK K; refine Qx (fun K hK => ?_); refine Qv J J J (Qj (hK _ _ (Qz (Q3 ?_)))); clear hK K
  refine Qs (α := Nat) (fun j => i + 2 + j ≤ l.length ∧ (dd (l.take (i + 2 + j))).length < i + 2 + j)
    (fun j => [(0, .ct (.ex (kh gb 0 l.length c))), (3, .ct (intC (dd (l.take (i + 2 + j))).length)), (4, .ct (.ex (kh gb ((i + 1) * 17) (l.length - (i + 1)) (c - (i + 1))))), (5, .ct (intC (j + 1)))])
    (fun j => [(0, .rowx (kh gb 0 l.length c) 47 17 (rss (dd (l.take (i + 2 + j)) ++ l.drop (dd (l.take (i + 2 + j))).length)))]) (fun j => l.length - j) 0
    ⟨by omega, by rw [Nat.add_zero, hs, List.length_take]; omega⟩ (by
      rw [Nat.add_zero, hs, List.length_take, Nat.min_eq_left hi, List.take_append_drop]
      exact Qu J ⟨rfl, rfl, rfl, rfl, trivial⟩) ?_
  clear hs
  rintro j ⟨hj, hD⟩
  try dsimp only at hj hD
  try dsimp only
  have hs := dd_step (l := l) (z := rs0) (p := i + 2 + j) (by omega); generalize hDD : dd (l.take (i + 2 + j)) = D at hs hD ⊢
  have hrl : (D ++ l.drop D.length).length = l.length := by rw [List.length_append, List.length_drop]; omega
  have hat : ∀ q, D.length ≤ q → (D ++ l.drop D.length).getD q rs0 = l.getD q rs0 := fun q hq => row_at D l q rs0 hq
  refine Qy (Qy (Qx fun K hK => ?_)); refine Qq J J J (Qq J J J (Yq J J sRes.und J (Qk ilss J J J J (Qj (hK _ _ (Qz ?_)))))); clear hK K; refine Q2 J (fun h2 => ?_) (fun h2 => ?_)
  · refine QW (Qz (Qy (Q3 (Qy ?_)))); refine XX mixed 10 (.p 0 (.p 1 (.p 2 (.p 4 (.p 5 (.p 6 (.p 7 (.f 3 (.f 8 (.p 9 .done)))))))))) (by kernel_rfl) (fun K hK => ?_); refine Qq J J J (Qq J J J (Z3 0 (i + 1) J J J J sRes (by omega) (by omega) J ?_)); refine Qq J J J (Qq J J J (Qk (isub (by omega) (by omega)) J J J J ?_))
    refine Z3 0 (i + 1) J J J J sRes (by omega) (by omega) J ?_
    skip
    refine ldE rsCs rs0 rs_len J J J J J (by omega) lRes J ?_
    refine ldE rsCs rs0 rs_len J J J J J (by omega) lRes J ?_
    rw [show i + 1 + ((j : Int) + 1).toNat = i + 2 + j by omega, show i + 1 + ((j : Int) + 1 - 1).toNat = i + 2 + j - 1 by omega, hat _ (by omega), hat _ (by omega)]; have hs := hs (by omega); generalize hx2 : l.getD (i + 2 + j - 1) rs0 = x2 at hs ⊢; generalize hy2 : l.getD (i + 2 + j) rs0 = y2 at hs ⊢; refine neRs' y2 x2 J J J J J (Qj (hK _ _ (Qz ?_))); clear hK K; refine Q2 J (fun he2 => ?_) (fun he2 => ?_)
    · rw [if_neg he2] at hs; refine Qy (Qx fun K hK => ?_); refine Qq J J J (Qq J J J (Qq J J J (Qq J J J (Z3 0 (i + 1) J J J J sRes (by omega) (by omega) J ?_))))
      refine ldE rsCs rs0 rs_len J J J J J (by omega) lRes J ?_
      rw [show i + 1 + ((j : Int) + 1).toNat = i + 2 + j by omega, hat _ (by omega), hy2]
      refine Z3 0 0 J J J J sRes (by omega) (by omega) J ?_
      rw [Nat.zero_add, show ((D.length : Int)).toNat = D.length by omega]
      refine stEX rsCs y2 rs_len J J J J J (by omega) szRes ?_
      rw [row_set D l y2 (by omega)]; refine Qj (hK _ _ (Qz ?_)); clear hK K; refine Qx (fun K hK => ?_); refine Qq J J J (Qk (iadd (by omega) (by omega)) J J J J ?_); refine Qv J J J (Qj (hK _ _ (Qz ?_))); clear hK K; refine Qx (fun K hK => ?_); refine Qq J J J (Qk (iadd (by omega) (by omega)) J J J J ?_); refine Qv J J J (Qj (hK _ _ (Q6 ?_))); clear hK K
      refine Q9 (j + 1) (by omega) ⟨by omega, by show (dd (l.take (i + 2 + j + 1))).length < _; rw [hs, List.length_append]; show D.length + 1 < _; omega⟩ ?_
      rw [show i + 2 + (j + 1) = i + 2 + j + 1 by omega, hs, List.length_append]; exact Qu J ⟨rfl, by simp only [Int.natCast_add]; rfl, rfl, by simp only [Int.natCast_add]; rfl, trivial⟩
    · rw [if_pos (Decidable.not_not.1 he2)] at hs; refine QW (Qz (Qx fun K hK => ?_)); refine Qq J J J (Qk (iadd (by omega) (by omega)) J J J J ?_); refine Qv J J J (Qj (hK _ _ (Q6 ?_))); clear hK K
      refine Q9 (j + 1) (by omega) ⟨by omega, by show (dd (l.take (i + 2 + j + 1))).length < _; rw [hs]; omega⟩ ?_
      rw [show i + 2 + (j + 1) = i + 2 + j + 1 by omega, hs]; exact Qu J ⟨rfl, rfl, rfl, by simp only [Int.natCast_add]; rfl, trivial⟩
  · have e : dd l = D := by rw [← hDD, List.take_of_length_le (by omega)]
    rw [e]; refine Qm (Qz (Qy (Qx fun K hK => ?_))); refine Qq J J J (Qq J J J (Z4 D.length J J J J sRes (by omega) J ?_)); skip
    refine Ops.cutOff 0 D.length J (by show (rss _).length = _; rw [rss_len, hrl]) (by decide) (by omega) (by show (rss _).take _ = rss D; rw [rss_take, List.take_left]) ?_
    refine Ops.clearK 0 J J (by split <;> omega) J (rss_len D) (by omega) sRes (by decide) ?_
    refine Qj (hK _ _ (Qz (Qy ?_))); clear hK K; refine Qx (fun K hK => ?_); refine Qq J J J (Qq J J J (Ya D.length J J J J sRes (by omega) J ?_)); refine Qv J J J (Qj (hK _ _ (Qz (Q4 (Qb (QY (QY (Qb (QY ?_))))))))); clear hK K; refine Fin.link 2 0 J J (Yc J J J)
end Go.Proofs.YtojkdfilabmafaaGreat
namespace Go.Proofs.YtojkdfilabmafaaGreat
open Go.Shelf
def laySortR_ren : Go.Shelf.Ren := ⟨fun | 6 => 102 | 15 => 107 | 14 => 165 | 28 => 177 | 29 => 178 | 20 => 225 | 21 => 226 | 22 => 227 | 23 => 228 | 24 => 229 | 25 => 230 | 26 => 231 | 27 => 232 | 46 => 270 | 47 => 235 | 48 => 236 | 49 => 271 | 50 => 272 | 57 => 288 | n => n, fun | 22 => 24 | 24 => 47 | 25 => 175 | 3 => 3 | 39 => 165 | 0 => 0 | 53 => 34 | 55 => 230 | 4 => 4 | 46 => 244 | 45 => 243 | 50 => 115 | 5 => 5 | 9 => 9 | 66 => 286 | 70 => 290 | 76 => 310 | 77 => 311 | n => n, fun | n => n⟩
theorem laySortR:Go.Proofs.SlLaysF0.n6 Tryz.prog laySortR_ren:={
  mixed:=by kernel_rfl
  f6:=⟨Tryz.f102.name,by decide,Tryz.func102.trans (congrArg some (by kernel_rfl))⟩
  f14:=⟨Tryz.f165.name,by decide,Tryz.func165.trans (congrArg some (by kernel_rfl))⟩
  f15:=Tryz.func107.trans (congrArg some (by kernel_rfl))
  f20:=⟨Tryz.f225.name,by decide,Tryz.func225.trans (congrArg some (by kernel_rfl))⟩
  f21:=⟨Tryz.f226.name,by decide,Tryz.func226.trans (congrArg some (by kernel_rfl))⟩
  f22:=⟨Tryz.f227.name,by decide,Tryz.func227.trans (congrArg some (by kernel_rfl))⟩
  f23:=⟨Tryz.f228.name,by decide,Tryz.func228.trans (congrArg some (by kernel_rfl))⟩
  f24:=⟨Tryz.f229.name,by decide,Tryz.func229.trans (congrArg some (by kernel_rfl))⟩
  f25:=⟨Tryz.f230.name,by decide,Tryz.func230.trans (congrArg some (by kernel_rfl))⟩
  f26:=⟨Tryz.f231.name,by decide,Tryz.func231.trans (congrArg some (by kernel_rfl))⟩
  f27:=⟨Tryz.f232.name,by decide,Tryz.func232.trans (congrArg some (by kernel_rfl))⟩
  f28:=Tryz.func177.trans (congrArg some (by kernel_rfl))
  f29:=Tryz.func178.trans (congrArg some (by kernel_rfl))
  f46:=⟨Tryz.f270.name,by decide,Tryz.func270.trans (congrArg some (by kernel_rfl))⟩
  f47:=Tryz.func235.trans (congrArg some (by kernel_rfl))
  f48:=Tryz.func236.trans (congrArg some (by kernel_rfl))
  f49:=⟨Tryz.f271.name,by decide,Tryz.func271.trans (congrArg some (by kernel_rfl))⟩
  f50:=⟨Tryz.f272.name,by decide,Tryz.func272.trans (congrArg some (by kernel_rfl))⟩
  f57:=⟨Tryz.f288.name,by decide,Tryz.func288.trans (congrArg some (by kernel_rfl))⟩
  t0:=Tryz.underlying0
  a0:=Tryz.isAgg0
  z0:=Tryz.sizeOf0
  v0:=Tryz.zeroValue0
  t3:=Tryz.underlying3
  a3:=Tryz.isAgg3
  z3:=Tryz.sizeOf3
  v3:=Tryz.zeroValue3
  t4:=Tryz.underlying4
  a4:=Tryz.isAgg4
  z4:=Tryz.sizeOf4
  v4:=Tryz.zeroValue4
  t5:=Tryz.underlying5
  a5:=Tryz.isAgg5
  z5:=Tryz.sizeOf5
  v5:=Tryz.zeroValue5
  t9:=Tryz.underlying9
  a9:=Tryz.isAgg9
  z9:=Tryz.sizeOf9
  v9:=Tryz.zeroValue9
  t22:=Tryz.underlying24
  a22:=Tryz.isAgg24
  z22:=Tryz.sizeOf24
  v22:=Tryz.zeroValue24
  t25:=Tryz.underlying175
  a25:=Tryz.isAgg175
  z25:=Tryz.sizeOf175
  v25:=Tryz.zeroValue175
  t39:=Tryz.underlying165
  a39:=Tryz.isAgg165
  z39:=Tryz.sizeOf165
  v39:=Tryz.zeroValue165
  t45:=Tryz.underlying243
  a45:=Tryz.isAgg243
  z45:=Tryz.sizeOf243
  v45:=Tryz.zeroValue243
  t46:=Tryz.underlying244
  a46:=Tryz.isAgg244
  z46:=Tryz.sizeOf244
  v46:=Tryz.zeroValue244
  t50:=Tryz.underlying115
  a50:=Tryz.isAgg115
  z50:=Tryz.sizeOf115
  v50:=Tryz.zeroValue115
  t53:=Tryz.underlying34
  a53:=Tryz.isAgg34
  z53:=Tryz.sizeOf34
  v53:=Tryz.zeroValue34
  t55:=Tryz.underlying230
  a55:=Tryz.isAgg230
  z55:=Tryz.sizeOf230
  v55:=Tryz.zeroValue230
  t66:=Tryz.underlying286
  a66:=Tryz.isAgg286
  z66:=Tryz.sizeOf286
  v66:=Tryz.zeroValue286
  t70:=Tryz.underlying290
  a70:=Tryz.isAgg290
  z70:=Tryz.sizeOf290
  v70:=Tryz.zeroValue290
  t76:=Tryz.underlying310
  a76:=Tryz.isAgg310
  z76:=Tryz.sizeOf310
  v76:=Tryz.zeroValue310
  t77:=Tryz.underlying311
  a77:=Tryz.isAgg311
  z77:=Tryz.sizeOf311
  v77:=Tryz.zeroValue311}
end Go.Proofs.YtojkdfilabmafaaGreat
namespace Go.Proofs.YtojkdfilabmafaaGreat
open Go.Own Go.Limbs Go.Shelf
open Go.Sort hiding Ok
attribute [local irreducible] St Ops Go.Own.Fin Ok OkB OkN OkT OkL OkF
theorem ordR:Ord cmpR:=⟨fun _ _=>cmpL_anti _ _,fun _ _ h=>rsO_inj (cmpL_eq rfl h),fun x y z h1 h2=>cmpL_trans (xs:=rsO x) (ys:=rsO y) (zs:=rsO z) rfl rfl h1 h2⟩
abbrev cmpRV : CT := .ex (.func (.func 103) #[] #[])
theorem goSortR:InGo Tryz.prog 102:=InGo.of Tryz.func102 rfl (by decide)
theorem SortR_ok(l:List Rs)(hl:l.length<4611686018427387904):OkL Tryz.prog 102 47 17 (rss l) [cmpRV] unitC (rss (l.mergeSort fun x y=> !(ltOf cmpR) y x)):=
  sortFunc_L laySortR (enc:=rsV) (k:=17) (cf:=cmpR) (g:=103) (by decide) Tryz.isAgg47 Tryz.sizeOf47 (fun _=>rfl) (fun x v hv=>by
    simp only [rsV,List.mem_cons,List.not_mem_nil,or_false] at hv
    rcases hv with rfl|rfl|rfl|rfl|rfl|rfl|rfl|rfl|rfl|rfl|rfl|rfl|rfl|rfl|rfl|rfl|rfl <;>rfl)
    ordR.swo ordR.tot goCmpR cmpR_ok 47 l hl
theorem rss_snoc(l:List Rs)(r:Rs):rss (l++ [r])=rss l++rsCs r:=by simp [rss]
theorem filter_take{α:Type}(p:α→Bool){l:List α}{z:α}{i:Nat}(h:i<l.length):(l.take (i+1)).filter p=if p (l.getD i z)=true then (l.take i).filter p++ [l.getD i z] else (l.take i).filter p:=by
  have e:l.take (i+1)=l.take i++ [l.getD i z]:=by
    rw [List.take_add_one,List.getElem?_eq_getElem h,List.getD_eq_getElem?_getD,List.getElem?_eq_getElem h];rfl
  rw [e,List.filter_append];by_cases hp:p (l.getD i z)=true
  · rw [if_pos hp,List.filter_cons_of_pos hp];rfl
  · rw [if_neg hp,List.filter_cons_of_neg hp];simp
theorem filter_len{α:Type}(p:α→Bool)(l:List α)(i:Nat):((l.take i).filter p).length≤i:=Nat.le_trans (List.length_filter_le _ _) (by rw [List.length_take];omega)
theorem goOrder:InGo Tryz.prog 59:=InGo.of Tryz.func59 rfl (by decide)
set_option maxHeartbeats 4000000 in
theorem Order_ok(l:List Rs)(hl:l.length≤10000):OkF Tryz.prog 59 [rssC l] 47 17 (rss (sd cmpR (l.filter okR))):=by
  refine OkF.enter Tryz.func59 J _ Tryz.ntmps59 J ?_
  intro S w;refine Qy (Qx fun K hK=> ?_);refine Qv J J J (Qj (hK _ _ (Qz (Qy ?_))));clear hK K;refine Qx (fun K hK=> ?_);refine Qv J J J (Qj (hK _ _ (Qz (Qy (Qy ?_)))));clear hK K;refine Qx (fun K hK=> ?_);refine Qq J J J (Qh J J sRes.und (List.length_map ..) J (Qq J J J (Qj (hK _ _ (Qz (Q3 ?_))))));clear hK K
  refine YV 3 0 47 17 J J J ?_
  refine Qs (α:=Nat) (fun i=>i≤l.length)
    (fun i=>[(3, .own 0),(6, .ct (rssC l)),(7, .ct (intC l.length)),(8, .ct (intC i))]) (fun i=>[(0, .row 47 17 (rss ((l.take i).filter okR)))]) (fun i=>l.length - i) 0 (Nat.zero_le _) (by exact Qu J ⟨rfl,rfl,rfl,rfl,trivial⟩) ?_
  intro i hi
  try dsimp only at hi
  try dsimp only
  refine Qy (Qx fun K hK=> ?_);refine Qk ilss J J J J (Qj (hK _ _ (Qz (Qy ?_))));clear hK K;refine Q2 J (fun h=> ?_) (fun h=> ?_)
  · have e2:(i:Int).toNat=i:=Int.toNat_natCast i;have hs:=filter_take okR (z:=rs0) (i:=i) (l:=l) (by omega);have hfl:=filter_len okR l i;refine QW (Qz (Qy (Q3 (Qy (Qx fun K hK=> ?_)))))
    refine Xx J J J sRes (by omega) (rss_at (by omega) (by omega)) J ?_
    refine Xc (n:=17) J J J lRes J J (Qf 1 J J zvRes J J J (Qa 17 J J J J J szRes J J (Qj (hK _ _ (Qz (Qy ?_))))));clear hK K;refine Qx (fun K hK=> ?_)
    refine Qc (n:=17) J J J J J lRes J ?_
    rw [e2];generalize l.getD i rs0=c at hs;skip;refine Ops.callF goValidR J (ValidR_ok c) J J J J (Qj (hK _ _ (Qz ?_)));clear hK K;refine X6 J (fun h2=> ?_) (fun h2=> ?_)
    · rw [if_pos h2] at hs;refine Qx (fun K hK=> ?_);refine Qq J J J (Qc (n:=17) J J J J J lRes J ?_);generalize (l.take i).filter okR=out at hs hfl ⊢
      refine Zo (n:=17) J J sRes J J (by decide) J ?_
      refine Qt out.length (rss (out++ [c])) J J J J sRes (rss_len out) J (by omega) (by omega) (rss_snoc out c) J ?_
      refine Qv J J J (Qj (hK _ _ (Qz ?_)));clear hK K;refine Qx (fun K hK=> ?_)
      refine Qk (iadd (by omega) (by omega)) J J J J ?_
      refine Qq J J J (Qj (hK _ _ (Q6 ?_)));clear hK K;refine Xq 1 (Q9 (i+1) (by omega) (by omega) (by rw [hs];exact Qu J ⟨rfl,rfl,rfl,by simp only [Int.natCast_add];rfl,trivial⟩))
    · rw [if_neg (by rw [h2];decide)] at hs;refine QW (Qz (Qx fun K hK=> ?_))
      refine Qk (iadd (by omega) (by omega)) J J J J ?_
      refine Qq J J J (Qj (hK _ _ (Q6 ?_)));clear hK K;refine Xq 1 (Q9 (i+1) (by omega) (by omega) (by rw [hs];exact Qu J ⟨rfl,rfl,rfl,by simp only [Int.natCast_add];rfl,trivial⟩))
  · have hi' :i=l.length:=by omega
    rw [hi',List.take_length];have hfl:(l.filter okR).length≤l.length:=List.length_filter_le _ _;generalize l.filter okR=m at hfl ⊢;refine Qm (Qz (Qy (Qx fun K hK=> ?_)));refine Qq J J J (Ops.callL goSortR (SortR_ok m (by omega)) J J J J J ?_);refine Qj (hK _ _ (Qz (Qy ?_)));clear hK K;refine Qx (fun K hK=> ?_);refine Qq J J J (Ops.callT goCompact_Rs (Compact_Rs_ok _ (by rw [List.length_mergeSort];omega)) J J J J J ?_);refine Qv J J J (Qj (hK _ _ (Qz (Q4 ?_))));clear hK K;refine Fin.retF J J J J
end Go.Proofs.YtojkdfilabmafaaGreat
namespace Go.Proofs.YtojkdfilabmafaaGreat
open Go.Own Go.Limbs
attribute [local irreducible] St Ops Go.Own.Fin Ok OkB OkN OkT OkL OkF
theorem goUsable:InGo Tryz.prog 85:=InGo.of Tryz.func85 rfl (by decide)
theorem Usable_ok(r:Rs):Ok Tryz.prog 85 [rsC r] (boolC (usR r)):=by
  have hV:=ValidR_ok r;have e0:usR r=(!r.db&&okR r):=rfl;generalize okR r=b at hV e0
  refine Ok.enter Tryz.func85 J _ Tryz.ntmps85 J ?_
  intro S w;refine Qy (Qx fun K hK=> ?_);refine Xu 0 J J J J J J J (Qv J J J (Qj (hK _ _ (Qz (Qy ?_)))));clear hK K;refine Qx (fun K hK=> ?_);refine QJ J J J fS9 J (QQ J J J J J lBool1 J (Xz J J J (Qq J J J (Xd 6 (b:= !r.db) J (fun h=> ?_) (fun h=> ?_)))))
  · refine Qc (n:=17) J J J J J lRes J (QV goValidR hV J J J J (Q5 J J J J (Qv J J J (Qj (hK _ _ (Qz (Q4 ?_)))))));clear hK K;refine Q1 [_] rfl (QX J QZ) (by rw [e0,h,Bool.true_and];rfl) J
  · refine Qw J J J (Qw J J J (Q7 J J J J (Qv J J J (Qj (hK _ _ (Qz (Q4 ?_)))))));clear hK K;refine Q1 [_] rfl (QX J QZ) (by rw [e0,h,Bool.false_and];rfl) J
theorem goFinal:InGo Tryz.prog 263:=InGo.of Tryz.func263 rfl (by decide)
theorem Final_ok(r:Rs):Ok Tryz.prog 263 [rsC r] (boolC (fiR r)):=by
  have hU:=Usable_ok r;have e0:fiR r=(r.an&&(decide (r.ki≠1)&&usR r)):=rfl;generalize usR r=b at hU e0
  refine Ok.enter Tryz.func263 J _ Tryz.ntmps263 J ?_
  intro S w;refine Qy (Qx fun K hK=> ?_);refine Xu 0 J J J J J J J (Qv J J J (Qj (hK _ _ (Qz (Qy ?_)))));clear hK K;refine Qx (fun K hK=> ?_);refine QJ J J J fS8 J (QQ J J J J J lBool1 J (Qq J J J (Xd 5 (b:=r.an) J (fun h=> ?_) (fun h=> ?_))))
  · refine QJ J J J fS11 J (Z6 J J fN1 J (QQ J J J J J lInt J (Qk ineq J J J J (Q5 J J J J (Qq J J J (Qi 11 (p:=r.ki≠1) J (fun h2=> ?_) (fun h2=> ?_)))))))
    · refine Qc (n:=17) J J J J J lRes J (QV goUsable hU J J J J (Q5 J J J J (Qv J J J (Qj (hK _ _ (Qz (Q4 ?_)))))));clear hK K;refine Q1 [_] rfl (QX J QZ) (by rw [e0,h,decide_eq_true h2,Bool.true_and,Bool.true_and];rfl) J
    · refine Qw J J J (Qw J J J (Q7 J J J J (Qv J J J (Qj (hK _ _ (Qz (Q4 ?_)))))));clear hK K;refine Q1 [_] rfl (QX J QZ) (by rw [e0,h,decide_eq_false h2,Bool.true_and,Bool.false_and];rfl) J
  · refine Qw J J J (Qw J J J (Qw J J J (Qw J J J (Q7 J J J J (Qq J J J (Qw J J J (Qw J J J (Q7 J J J J (Qv J J J (Qj (hK _ _ (Qz (Q4 ?_)))))))))))));clear hK K;refine Q1 [_] rfl (QX J QZ) (by rw [e0,h,Bool.false_and];rfl) J
abbrev tkCs (t : Tk) : List CT := [intC t.va, adrF t.ds, intC t.pr]
abbrev tkC (t : Tk) : CT := .fr (aggT (tkCs t))
theorem goTraceOf:InGo Tryz.prog 86:=InGo.of Tryz.func86 rfl (by decide)
theorem TraceOf_ok(r:Rs):Ok Tryz.prog 86 [rsC r] (tkC (trOf r)):=by
  refine Ok.enter Tryz.func86 J _ Tryz.ntmps86 J ?_
  intro S w;refine Qy (Qx fun K hK=> ?_);refine Xu 0 J J J J J J J (Qf 1 J J zvTrace J J J (Qj (hK _ _ (Qz (Qy ?_)))));clear hK K;refine Qx (fun K hK=> ?_);refine QJ J J J fS0 J (QQ J J J J J lInt J (QJ J J J fS4 J (QQ J J J J J lAddr J (QJ J J J fS5 J (QQ J J J J J lInt J (Qo J bTrace J (.one J J J J (.one J J J J (.one J J J J .nil))) J (Qa 3 J J J J J szTrace J J (Qj (hK _ _ (Qz (Q4 ?_)))))))))));clear hK K;refine Fin.end [_] rfl (Qg (n:=3) J J lTrace J QZ) J J
structure Ik where
  va : Int
  ru : Int
  nu : Int
deriving DecidableEq
def idOf (r : Rs) : Ik := ⟨r.va, r.ru, r.nu⟩
abbrev ikCs (i : Ik) : List CT := [intC i.va, intC i.ru, intC i.nu]
abbrev ikC (i : Ik) : CT := .fr (aggT (ikCs i))
theorem lID:LdN Tryz.prog 82 3:=LdN.of _ Tryz.underlying82 rfl (by kernel_rfl)
theorem szID:(Tryz.prog.info? 82).map (·.size)=some 3:=by kernel_rfl
theorem zvID:(Tryz.prog.info? 82).map (·.zero)=some (some (.agg #[.int .i64 0, .int .i64 0, .int .i64 0])):=by kernel_rfl
theorem bID' :bInfo Tryz.prog 82=some (.agg #[.int .i64 0, .int .i64 0, .int .i64 0],[(0,some 1),(1,some 1),(2,some 1)]):=by kernel_rfl
theorem goIdentity:InGo Tryz.prog 47:=InGo.of Tryz.func47 rfl (by decide)
theorem Identity_ok(r:Rs):Ok Tryz.prog 47 [rsC r] (ikC (idOf r)):=by
  refine Ok.enter Tryz.func47 J _ Tryz.ntmps47 J ?_
  intro S w;refine Qy (Qx fun K hK=> ?_);refine Xu 0 J J J J J J J (Qf 1 J J zvID J J J (Qj (hK _ _ (Qz (Qy ?_)))));clear hK K;refine Qx (fun K hK=> ?_);refine QJ J J J fS0 J (QQ J J J J J lInt J (QJ J J J fS1 J (QQ J J J J J lInt J (QJ J J J fS2 J (QQ J J J J J lInt J (Qo J bID' J (.one J J J J (.one J J J J (.one J J J J .nil))) J (Qa 3 J J J J J szID J J (Qj (hK _ _ (Qz (Q4 ?_)))))))))));clear hK K;refine Fin.end [_] rfl (Qg (n:=3) J J lID J QZ) J J
theorem foldl_take{α β:Type}(f:β→α→β)(b:β){l:List α}{z:α}{i:Nat}(h:i<l.length):(l.take (i+1)).foldl f b=f ((l.take i).foldl f b) (l.getD i z):=by
  have e:l.take (i+1)=l.take i++ [l.getD i z]:=by
    rw [List.take_add_one,List.getElem?_eq_getElem h,List.getD_eq_getElem?_getD,List.getElem?_eq_getElem h];rfl
  rw [e,List.foldl_append];rfl
theorem goEnd:InGo Tryz.prog 216:=InGo.of Tryz.func216 rfl (by decide)
set_option maxHeartbeats 4000000 in
theorem End_ok(l:List Rs)(hl:l.length≤100000):Ok Tryz.prog 216 [rssC l] (intC (endF l)):=by
  refine Ok.enter Tryz.func216 J _ Tryz.ntmps216 J ?_
  intro S w;refine Qy (Qx fun K hK=> ?_);refine Qv J J J (Qj (hK _ _ (Qz (Qy ?_))));clear hK K;refine Qx (fun K hK=> ?_);refine Qv J J J (Qj (hK _ _ (Qz (Qy (Qy ?_)))));clear hK K;refine Qx (fun K hK=> ?_);refine Qq J J J (Qh J J sRes.und (List.length_map ..) J (Qq J J J (Qj (hK _ _ (Qz (Q3 ?_))))));clear hK K
  refine Qs (α:=Nat) (fun i=>i≤l.length)
    (fun i=>[(3, .ct (intC ((l.take i).foldl endS 0))),(6, .ct (rssC l)),(7, .ct (intC l.length)),(8, .ct (intC i))]) (fun _=>[]) (fun i=>l.length - i) 0 (Nat.zero_le _) (by exact Qu J ⟨rfl,rfl,rfl,rfl,trivial⟩) ?_
  intro i hi
  try dsimp only at hi ⊢
  refine Qy (Qx fun K hK=> ?_);refine Qk ilss J J J J (Qj (hK _ _ (Qz (Qy ?_))));clear hK K;refine Q2 J (fun h=> ?_) (fun h=> ?_)
  · have e2:(i:Int).toNat=i:=Int.toNat_natCast i;have hs:=foldl_take endS 0 (z:=rs0) (l:=l) (i:=i) (by omega);generalize (l.take i).foldl endS 0=e at hs
    have next:∀e' :Int,endS e (l.getD i rs0)=e'→(l.take (i+1)).foldl endS 0=e' :=fun e' h=>by rw [hs,h]
    clear hs;refine QW (Qz (Qy (Q3 (Qy (Qx fun K hK=> ?_)))))
    refine Xx J J J sRes (by omega) (rss_at (by omega) (by omega)) J ?_
    refine Xc (n:=17) J J J lRes J J (Qf 0 J J zvRes J J J (Qa 17 J J J J J szRes J J (Qj (hK _ _ (Qz (Qy ?_))))));clear hK K;refine Qx (fun K hK=> ?_);refine Qq J J J (Qk ieql J J J J (Qq J J J ?_));rw [e2];generalize l.getD i rs0=c at next;have hF:=Final_ok c
    have es:endS e c=if (e=0∨c.tt<e)∧fiR c=true then c.tt else e:=rfl
    generalize fiR c=fb at hF es;skip;refine Qi 14 (p:=e=0) J (fun h1=> ?_) (fun h1=> ?_)
    · refine Qw J J J (Qw J J J (Qw J J J (Qw J J J (Q5 J J J J (Qq J J J (Qc (n:=17) J J J J J lRes J (QV goFinal hF J J J J (Q5 J J J J (Qj (hK _ _ (Qz ?_)))))))))));clear hK K;refine X6 J (fun h2=> ?_) (fun h2=> ?_)
      · have en:=next c.tt (by rw [es,if_pos ⟨.inl h1,h2⟩]);refine Qx (fun K hK=> ?_);refine QJ J J J fS7 J (QQ J J J J J lInt J (Qv J J J (Qj (hK _ _ (Qz ?_)))));clear hK K;refine Qx (fun K hK=> ?_)
        refine Qk (iadd (by omega) (by omega)) J J J J ?_
        refine Qq J J J (Qj (hK _ _ (Q6 ?_)));clear hK K;refine Xq 0 (Q9 (i+1) (by omega) (by omega) (by rw [en];exact Qu J ⟨rfl,rfl,rfl,by simp only [Int.natCast_add];rfl,trivial⟩))
      · have en:=next e (by rw [es,if_neg (fun h3=>by rw [h2] at h3;exact absurd h3.2 (by decide))]);refine QW (Qz (Qx fun K hK=> ?_))
        refine Qk (iadd (by omega) (by omega)) J J J J ?_
        refine Qq J J J (Qj (hK _ _ (Q6 ?_)));clear hK K;refine Xq 0 (Q9 (i+1) (by omega) (by omega) (by rw [en];exact Qu J ⟨rfl,rfl,rfl,by simp only [Int.natCast_add];rfl,trivial⟩))
    · refine QJ J J J fS7 J (QQ J J J J J lInt J (Qq J J J (Qk ilss J J J J (Q7 J J J J (Qq J J J (Qi 20 (p:=c.tt<e) J (fun h3=> ?_) (fun h3=> ?_)))))))
      · refine Qc (n:=17) J J J J J lRes J (QV goFinal hF J J J J (Q5 J J J J (Qj (hK _ _ (Qz ?_)))));clear hK K;refine X6 J (fun h2=> ?_) (fun h2=> ?_)
        · have en:=next c.tt (by rw [es,if_pos ⟨.inr h3,h2⟩]);refine Qx (fun K hK=> ?_);refine QJ J J J fS7 J (QQ J J J J J lInt J (Qv J J J (Qj (hK _ _ (Qz ?_)))));clear hK K;refine Qx (fun K hK=> ?_)
          refine Qk (iadd (by omega) (by omega)) J J J J ?_
          refine Qq J J J (Qj (hK _ _ (Q6 ?_)));clear hK K;refine Xq 0 (Q9 (i+1) (by omega) (by omega) (by rw [en];exact Qu J ⟨rfl,rfl,rfl,by simp only [Int.natCast_add];rfl,trivial⟩))
        · have en:=next e (by rw [es,if_neg (fun h3=>by rw [h2] at h3;exact absurd h3.2 (by decide))]);refine QW (Qz (Qx fun K hK=> ?_))
          refine Qk (iadd (by omega) (by omega)) J J J J ?_
          refine Qq J J J (Qj (hK _ _ (Q6 ?_)));clear hK K;refine Xq 0 (Q9 (i+1) (by omega) (by omega) (by rw [en];exact Qu J ⟨rfl,rfl,rfl,by simp only [Int.natCast_add];rfl,trivial⟩))
      · have en:=next e (by rw [es,if_neg (fun h4=>h4.1.elim h1 h3)]);refine Qw J J J (Qw J J J (Q7 J J J J (Qj (hK _ _ (Qz (Xy J (QW (Qz ?_))))))));clear hK K;refine Qx (fun K hK=> ?_)
        refine Qk (iadd (by omega) (by omega)) J J J J ?_
        refine Qq J J J (Qj (hK _ _ (Q6 ?_)));clear hK K;refine Xq 0 (Q9 (i+1) (by omega) (by omega) (by rw [en];exact Qu J ⟨rfl,rfl,rfl,by simp only [Int.natCast_add];rfl,trivial⟩))
  · have hi' :i=l.length:=by omega
    have el:(l.take i).foldl endS 0=endF l:=by rw [hi',List.take_length];rfl
    rw [el];refine Qm (Qz (Qy (Qx fun K hK=> ?_)));refine Qq J J J (Qv J J J (Qj (hK _ _ (Qz (Q4 ?_)))));clear hK K;refine Q1 [_] rfl (QX J QZ) J J
end Go.Proofs.YtojkdfilabmafaaGreat
namespace Go.Own
open Go.RowKit
def encI (ks : List IntKind) (ps : List Int) : Value := .agg ((ks.zip ps).map (fun p => Value.int p.1 p.2)).toArray
structure FlatK (P : Program) (t : TypeId) (ks : List IntKind) : Prop where
  und : ∃ fs, P.underlying t = some (.struct fs)
  eq : ∀ (ps qs : List Int) (w : World), ps.length = ks.length → qs.length = ks.length → (Op.equalIn 10000 t (encI ks ps) (encI ks qs)).run P w = .ok (decide (ps = qs)) w
  ck : ∀ (e : Bool) (ps : List Int) (w : World), ps.length = ks.length → (Instr.checkKey e 10000 t (encI ks ps)).run P w = .ok () w
theorem run_ckStruct{P:Program}{t:TypeId}{fs:Array Field}(hu:P.underlying t=some (.struct fs))(e:Bool)(n:Nat)(xs:Array Value)(w:World)
    (h:∀f∈fs.toList,f.name≠ "_" ∧∃a,(part f.type xs f.offset).run P w= .ok a w∧(Instr.checkKey e n f.type a).run P w= .ok () w):(Instr.checkKey e (n+1) t (.agg xs)).run P w= .ok () w:=by
  rw [Instr.checkKey];simp only [Sem.run_bind,run_underlying hu,Result.andThen_ok];rw [←Array.forIn_toList];generalize fs.toList=L at h
  induction L with
  |nil=>simp
  |cons f L ih=>
    obtain ⟨hn,a,p1,p2⟩:=h f (by simp);simp only [List.forIn_cons,Sem.run_bind,hn,ne_eq,not_false_eq_true,if_true,Result.andThen_ok,p1,p2,Sem.run_pure];exact ih (fun y hy=>h y (by simp [hy]))
theorem run_ckInt{P:Program}{t:TypeId}{k:IntKind}(hu:P.underlying t=some (.int k))(e:Bool)(n:Nat)(v:Int)(w:World):(Instr.checkKey e (n+1) t (.int k v)).run P w= .ok () w:=by
  simp [Instr.checkKey,run_underlying hu]
theorem ck_ints{P:Program}(e:Bool)(n:Nat)(xs:Array Value)(w:World):∀(fs:List Field) (ks:List IntKind) (ps:List Int) (s:Nat),ps.length=ks.length→
    fs.map (fun f=>(f.name== "_",f.offset,P.underlying f.type))=(ks.zipIdx s).map (fun p=>(false,p.2,some (TypeDesc.int p.1)))→
    (∀j kk p,ks[j]? =some kk→ps[j]? =some p→xs[s+j]? =some (.int kk p))→∀f∈fs,f.name≠ "_" ∧∃a,(part f.type xs f.offset).run P w= .ok a w∧(Instr.checkKey e (n+1) f.type a).run P w= .ok () w
  | [],_,_,_,_,_,_,_,hf=>by cases hf
  |g::fs,[],_,_,_,h,_,_,_=>by simp at h
  |g::fs,k::ks,[],_,h0,_,_,_,_=>by simp at h0
  |g::fs,k::ks,p::ps,s,h0,h,hx,f,hf=>by
    simp only [List.map_cons,List.zipIdx_cons] at h
    injection h with h1 h2
    injection h1 with hn ho
    injection ho with ho hu
    rcases List.mem_cons.1 hf with rfl|hf
    · have hx0:=hx 0 k p rfl rfl
      rw [Nat.add_zero] at hx0
      exact ⟨by simpa using hn,_,run_part_int hu (by rw [ho];exact hx0) w,run_ckInt hu e n p w⟩
    · exact ck_ints e n xs w fs ks ps (s+1) (by simpa using h0) h2 (fun j kk p' a b=>by rw [show s+1+j=s+(j+1) by omega];exact hx (j+1) kk p' a b) f hf
theorem EqS.flat{P:Program}{t:TypeId}{ks:List IntKind}(h:EqS P t ks):FlatK P t ks where
  und:=⟨_,h.und⟩
  eq ps qs w h1 h2:=h.run ps qs h1 h2 w
  ck e ps w h1:=run_ckStruct h.und e 9999 _ w (ck_ints e 9998 _ w _ ks ps 0 h1 h.fields (fun j kk p a b=>by rw [Nat.zero_add,List.getElem?_toArray];exact zip_get a b))
structure EqF (P : Program) (t ta : TypeId) (k1 k2 : List IntKind) : Prop where
  und : P.underlying t = some (.struct (P.fieldsOf t))
  held : P.stoodInHeld t = false
  fields : ((P.fieldsOf t).toList.drop 1).map (fun f => (f.name == "_", f.offset, P.underlying f.type)) = (k2.zipIdx k1.length).map (fun p => (false, p.2, some (TypeDesc.int p.1)))
  first : ((P.fieldsOf t).toList.head?).map (fun f => (f.name == "_", f.offset, f.type)) = some (false, 0, ta)
  unda : P.underlying ta = some (.struct (P.fieldsOf ta))
  helda : P.stoodInHeld ta = false
  size : (P.info? ta).map (·.size) = some k1.length
  fieldsa : (P.fieldsOf ta).toList.map (fun f => (f.name == "_", f.offset, P.underlying f.type)) = k1.zipIdx.map (fun p => (false, p.2, some (TypeDesc.int p.1)))
theorem EqF.flat{P:Program}{t ta:TypeId}{k1 k2:List IntKind}(h:EqF P t ta k1 k2):FlatK P t (k1++k2):=by
  obtain ⟨fa,fs,hfs⟩:∃fa fs,(P.fieldsOf t).toList=fa::fs:=by
    cases e:(P.fieldsOf t).toList with
    |nil=>have:=h.first;rw [e] at this;cases this
    |cons fa fs=>exact ⟨fa,fs,rfl⟩
  have hF:=h.fields;rw [hfs] at hF;simp only [List.drop_succ_cons,List.drop_zero] at hF
  have h1:=h.first
  rw [hfs] at h1;simp only [List.head?_cons,Option.map_some,Option.some.injEq,Prod.mk.injEq] at h1;obtain ⟨hn,ho,ht⟩:=h1
  have hne:fa.name≠ "_" :=by simpa using hn
  have hpart:∀(ps:List Int) (w:World),ps.length=(k1++k2).length→(part fa.type (((k1++k2).zip ps).map (fun p=>Value.int p.1 p.2)).toArray fa.offset).run P w= .ok (encI k1 (ps.take k1.length)) w:=fun ps w hl=>by
    have hs:(sizeOf fa.type).run P w= .ok k1.length w:=by
      rw [ht];obtain ⟨i,hi,hs⟩:=Option.map_eq_some_iff.1 h.size;simp [sizeOf,typeInfo,hi,hs]
    have ha:(isAgg fa.type).run P w= .ok true w:=by simp [isAgg,run_underlying (ht▸h.unda)]
    simp only [part,Sem.run_bind,ha,Result.andThen_ok,if_true,hs,Sem.run_pure];unfold encI
    congr 2
    rw [ho]
    apply Array.ext'
    simp only [Array.toList_extract,List.extract_eq_take_drop,List.drop_zero,Nat.zero_add,Nat.sub_zero];rw [←List.map_take,List.zip_eq_zipWith,List.take_zipWith,List.take_left,←List.zip_eq_zipWith]
  have hget:∀(ps:List Int),ps.length=(k1++k2).length→∀(j:Nat) (kk:IntKind) (p:Int),k2[j]? =some kk→(ps.drop k1.length)[j]? =some p→(((k1++k2).zip ps).map (fun p=>Value.int p.1 p.2)).toArray[k1.length+j]? =some (.int kk p):=fun ps hl j kk p a b=>by
    rw [List.getElem?_toArray]
    refine zip_get ?_ ?_
    · rw [List.getElem?_append_right (by omega),Nat.add_sub_cancel_left];exact a
    · rw [List.getElem?_drop] at b;exact b
  have hgeta:∀(ps:List Int) (j:Nat) (kk:IntKind) (p:Int),k1[j]? =some kk→ps[j]? =some p→((k1.zip ps).map (fun p=>Value.int p.1 p.2)).toArray[0+j]? =some (.int kk p):=fun ps j kk p a b=>by
    rw [Nat.zero_add,List.getElem?_toArray];exact zip_get a b
  refine ⟨⟨_,h.und⟩,fun ps qs w hp hq=> ?_,fun e ps w hp=> ?_⟩
  · unfold encI;rw [run_equalIn_struct w 9999 t _ _ h.und h.held,hfs];simp only [Op.eqFields,if_pos hne,Sem.run_bind];rw [hpart ps w hp];simp only [Result.andThen_ok];rw [hpart qs w hq];simp only [Result.andThen_ok];rw [ht];unfold encI
    have lp:(ps.take k1.length).length=k1.length:=by rw [List.length_take];simp at hp;omega
    have lq:(qs.take k1.length).length=k1.length:=by rw [List.length_take];simp at hq;omega
    rw [run_equalIn_struct w 9998 ta _ _ h.unda h.helda,run_eqFields 9997 _ _ w _ k1 _ _ 0 lp lq h.fieldsa (hgeta _) (hgeta _)];simp only [Result.andThen_ok];by_cases h2:ps.take k1.length=qs.take k1.length
    · simp only [h2,decide_true,Bool.not_true,Bool.false_eq_true,if_false];rw [run_eqFields 9998 _ _ w fs k2 (ps.drop k1.length) (qs.drop k1.length) k1.length (by simp at hp ⊢;omega) (by simp at hq ⊢;omega) hF (hget ps hp) (hget qs hq)]
      congr 1
      refine decide_eq_decide.2 ⟨fun h3=> ?_,fun h3=>by rw [h3]⟩;rw [←List.take_append_drop k1.length ps,←List.take_append_drop k1.length qs,h2,h3]
    · have h4:ps≠qs:=fun h5=>h2 (by rw [h5])
      simp [h2,h4]
  · refine run_ckStruct h.und e 9999 _ w ?_
    rw [hfs];intro f hf;rcases List.mem_cons.1 hf with rfl|hf
    · refine ⟨hne,_,hpart ps w hp,?_⟩;rw [ht];refine run_ckStruct h.unda e 9998 _ w (ck_ints e 9997 _ w _ k1 (ps.take k1.length) 0 (by rw [List.length_take];simp at hp;omega) h.fieldsa (hgeta _))
    · exact ck_ints e 9998 _ w fs k2 (ps.drop k1.length) k1.length (by simp at hp ⊢;omega) hF (hget ps hp) f hf
theorem sameBits_ints(n:Nat)(l:List (IntKind × Int)):Instr.sameBits (n+1) (.agg (l.map (fun p=>Value.int p.1 p.2)).toArray) (.agg (l.map (fun p=>Value.int p.1 p.2)).toArray)=true:=by
  simp only [Instr.sameBits,beq_self_eq_true,Bool.true_and];rw [List.all_eq_true]
  rintro ⟨x,y⟩ hxy
  have:x=y:=by
    simp only [List.zip_eq_zipWith] at hxy;obtain ⟨i,hi⟩:=List.getElem?_of_mem hxy;rw [List.getElem?_zipWith] at hi;split at hi
    · rename_i u v hu hv;rw [hu] at hv;injection hv with hv;injection hi with hi;injection hi with h1 h2;rw [←h1,←h2,hv]
    · cases hi
  subst this;have hm:=(List.of_mem_zip hxy).1;simp only [List.mem_map] at hm;obtain ⟨p,_,rfl⟩:=hm;simp [Instr.sameBits]
theorem FlatK.key{P:Program}{t:TypeId}{ks:List IntKind}(h:FlatK P t ks){κ:Type} [DecidableEq κ](f:κ→List Int)(hl:∀a,(f a).length=ks.length)(hi:∀a b,f a=f b→a=b):KeyT P t (fun a=>encI ks (f a)) where
  now l i a D hD hne hl:=by
    obtain ⟨fs,hu⟩:=h.und
    rw [hu] at hD;injection hD with hD;subst hD
    cases l with
    |nil=>exact absurd J hne
    |cons e l=>simp [Instr.findNow,encI,Instr.sameNow]
  und:=by obtain ⟨fs,hu⟩:=h.und;exact ⟨_,hu⟩
  eq a b w:=by
    have:=h.eq (f a) (f b) w (hl a) (hl b);show (Op.equalIn 10000 t _ _).run P w=_;rw [this]
    congr 1
    exact decide_eq_decide.2 ⟨hi a b,fun h=>by rw [h]⟩
  ck e a w:=h.ck e (f a) w (hl a)
  sb a:=sameBits_ints 9999 _
section
variable {X : Ctx} {L : AL} {B : BL} {ops : Array Oper} {K : Act → World → Prop} {r : Pl} {k : Kd}
  {x y z : Operand} {d : Nat} {t t2 t' : TypeId} {pos : String} {af : Array Edge} {g : Option (Nat × Bool)}
theorem Ops.eqK{ks:List IntKind}(ps qs:List Int)(hg:gd ops L g=some true)(hx:ev L x=some (.ct (.fr (aggT (kc ks ps)))))(hy:ev L y=some (.ct (.fr (aggT (kc ks qs)))))(h1:ps.length=ks.length)(h2:qs.length=ks.length)(hE:FlatK X.P t ks)(hG:X.P.eqGuardType X.P.depth t=false)(hn:Nat.blt d X.n=true)
    (h:Ops X ops r ((d, .ct (.ex (.bool (decide (ps=qs)))))::L) B K):Ops X ops (.cons ⟨some d, .binOp .eql t x y t2,t',pos,af,g⟩ k r) L B K:=
  XU (s:= .ct (.ex (.bool (decide (ps=qs))))) hg rfl hn (fun a ρ w hI=>⟨_,fun w' _=>by
    obtain ⟨us,e1,c1⟩:=hI.ev hx
    obtain ⟨vs,e2,c2⟩:=hI.ev hy
    have d1:=kc_cells h1 c1
    have d2:=kc_cells h2 c2
    subst d1;subst d2
    show (do pure (Next.value (←(do eqGuard .eql t x y (a.eval x) (a.eval y);binOp .eql t (a.eval x) (a.eval y):Sem Value))):Sem Next).run X.P w' =_
    rw [e1,e2]
    refine Xb ?_
    simp only [Sem.run_bind,run_eqGuard_agg w' _ t x y _ _ hG,Result.andThen_ok]
    have:=hE.eq ps qs w' h1 h2
    unfold Go.Own.encI at this
    rw [run_eql_struct,this];rfl,rfl⟩) h
end
end Go.Own
namespace Go.Proofs.YtojkdfilabmafaaGreat
open Go.Own Go.Limbs
attribute [local irreducible] St Ops Go.Own.Fin Ok OkB OkN OkT OkL OkF
def tk0 : Tk := ⟨0, 0, 0⟩
instance : Inhabited Tk := ⟨tk0⟩
def ik0 : Ik := ⟨0, 0, 0⟩
abbrev wr0 : Wr := (0, 0)
abbrev wrCs (x : Wr) : List CT := [adrF x.1, adrF x.2]
abbrev wrC (x : Wr) : CT := .fr (aggT (wrCs x))
def ikI (x : Ik) : List Int := [x.va, x.ru, x.nu]
def wrI (x : Wr) : List Int := [(x.1.val : Int), (x.2.val : Int)]
theorem Zs:LdN Tryz.prog 37 2:=LdN.of _ Tryz.underlying37 rfl (by kernel_rfl)
theorem szWire:(Tryz.prog.info? 37).map (·.size)=some 2:=by kernel_rfl
theorem zvWire:(Tryz.prog.info? 37).map (·.zero)=some (some (.agg #[.int .u32 0, .int .u32 0])):=by kernel_rfl
theorem bWire:bInfo Tryz.prog 37=some (.agg #[.int .u32 0, .int .u32 0],[(0,some 1),(1,some 1)]):=by kernel_rfl
theorem tkI_inj(x y:Tk)(h:tkI x=tkI y):x=y:=by
  obtain ⟨a1,a2,a3⟩:=x;obtain ⟨b1,b2,b3⟩:=y;simp only [tkI,List.cons.injEq,and_true,Int.ofNat_inj,Fin.val_inj] at h;obtain ⟨h1,h2,h3⟩:=h;rw [h1,h2,h3]
theorem wrI_inj(x y:Wr)(h:wrI x=wrI y):x=y:=by
  obtain ⟨a1,a2⟩:=x;obtain ⟨b1,b2⟩:=y;simp only [wrI,List.cons.injEq,and_true,Int.ofNat_inj,Fin.val_inj] at h;obtain ⟨h1,h2⟩:=h;rw [h1,h2]
theorem tk_len(x:Tk):(tkCs x).length=3:=rfl
abbrev tksC (l : List Tk) : CT := .fr (sliceT 3 (l.map tkCs))
def tks (l : List Tk) : List CT := (l.map tkCs).flatten
theorem tks_frozen(e:Nat)(l:List Tk):(Ent.row e 3 (tks l)).frozen (sliceT 3 (l.map tkCs)):=
  ⟨_,rfl,fun e he=>by obtain ⟨m,_,rfl⟩:=List.mem_map.mp he;rfl,by decide,rfl⟩
theorem tks_at{l:List Tk}{j:Int}(h0:0≤j)(h:j<(l.length:Int)):(l.map tkCs)[j.toNat]? =some (tkCs (l.getD j.toNat tk0)):=by
  have:j.toNat<l.length:=by omega
  simp [List.getElem?_map,List.getElem?_eq_getElem this,List.getD_eq_getElem?_getD]
theorem tks_len(l:List Tk):(tks l).length=l.length*3:=el_len tk_len l
theorem tks_snoc(l:List Tk)(r:Tk):tks (l++ [r])=tks l++tkCs r:=by simp [tks]
theorem tks_take(l:List Tk)(i:Nat):(tks l).take (i*3)=tks (l.take i):=el_take tk_len l i
theorem sTks:SlcT Tryz.prog 153 123 3 24 (.agg #[.int .i64 0, .int .u32 0, .int .i64 0]):=SlcT.of Tryz.underlying153 (by kernel_rfl) rfl (by decide)
theorem eTk:EqS Tryz.prog 123 [.i64, .u32, .i64]:=⟨by kernel_rfl,by kernel_rfl,by kernel_rfl,by kernel_rfl⟩
theorem tk_inj{x y:Tk}:(tkI x=tkI y)↔x=y:=⟨tkI_inj _ _,fun h=>by rw [h]⟩
theorem keyTk:KeyT Tryz.prog 123 (fun x:Tk=>Go.Own.encI [.i64, .u32, .i64] (tkI x)):=eTk.flat.key tkI (fun _=>rfl) (fun _ _=>tk_inj.1)
section
variable {X : Ctx} {L : AL} {B : BL} {ops : Array Oper} {K : Act → World → Prop} {r : Pl} {k : Kd}
  {x y z : Operand} {d : Nat} {t t2 t' : TypeId} {pos : String} {af : Array Edge} {g : Option (Nat × Bool)}
theorem eqTk(p q:Tk)(hg:gd ops L g=some true)(hx:ev L x=some (.ct (.fr (aggT (tkCs p)))))(hy:ev L y=some (.ct (.fr (aggT (tkCs q)))))(hP:X.P=Tryz.prog)(hn:Nat.blt d X.n=true)
    (h:Ops X ops r ((d, .ct (boolC (decide (p=q))))::L) B K):Ops X ops (.cons ⟨some d, .binOp .eql 123 x y t2,t',pos,af,g⟩ k r) L B K:=
  Ops.eqS (ks:=[.i64, .u32, .i64]) (tkI p) (tkI q) hg hx hy rfl rfl (hP▸eTk) hn (by rw [decide_eq_decide.2 tk_inj];exact h)
theorem neTk(p q:Tk)(hg:gd ops L g=some true)(hx:ev L x=some (.ct (.fr (aggT (tkCs p)))))(hy:ev L y=some (.ct (.fr (aggT (tkCs q)))))(hP:X.P=Tryz.prog)(hn:Nat.blt d X.n=true)
    (h:Ops X ops r ((d, .ct (boolC (decide (¬p=q))))::L) B K):Ops X ops (.cons ⟨some d, .binOp .neq 123 x y t2,t',pos,af,g⟩ k r) L B K:=
  Ops.neS (ks:=[.i64, .u32, .i64]) (tkI p) (tkI q) hg hx hy rfl rfl (hP▸eTk) hn (by rw [decide_eq_decide.2 tk_inj,←decide_not];exact h)
end
theorem ik_len(x:Ik):(ikCs x).length=3:=rfl
abbrev iksC (l : List Ik) : CT := .fr (sliceT 3 (l.map ikCs))
def iks (l : List Ik) : List CT := (l.map ikCs).flatten
theorem iks_frozen(e:Nat)(l:List Ik):(Ent.row e 3 (iks l)).frozen (sliceT 3 (l.map ikCs)):=
  ⟨_,rfl,fun e he=>by obtain ⟨m,_,rfl⟩:=List.mem_map.mp he;rfl,by decide,rfl⟩
theorem iks_len(l:List Ik):(iks l).length=l.length*3:=el_len ik_len l
theorem iks_snoc(l:List Ik)(r:Ik):iks (l++ [r])=iks l++ikCs r:=by simp [iks]
theorem sIks:SlcT Tryz.prog 57 82 3 24 (.agg #[.int .i64 0, .int .i64 0, .int .i64 0]):=SlcT.of Tryz.underlying57 (by kernel_rfl) rfl (by decide)
section
variable {X : Ctx} {L : AL} {B : BL} {ops : Array Oper} {K : Act → World → Prop} {r : Pl} {k : Kd}
  {x y z : Operand} {d : Nat} {t t2 t' : TypeId} {pos : String} {af : Array Edge} {g : Option (Nat × Bool)}
end
theorem wr_len(x:Wr):(wrCs x).length=2:=rfl
abbrev wrsC (l : List Wr) : CT := .fr (sliceT 2 (l.map wrCs))
def wrs (l : List Wr) : List CT := (l.map wrCs).flatten
theorem wrs_frozen(e:Nat)(l:List Wr):(Ent.row e 2 (wrs l)).frozen (sliceT 2 (l.map wrCs)):=
  ⟨_,rfl,fun e he=>by obtain ⟨m,_,rfl⟩:=List.mem_map.mp he;rfl,by decide,rfl⟩
theorem wrs_at{l:List Wr}{j:Int}(h0:0≤j)(h:j<(l.length:Int)):(l.map wrCs)[j.toNat]? =some (wrCs (l.getD j.toNat wr0)):=by
  have:j.toNat<l.length:=by omega
  simp [List.getElem?_map,List.getElem?_eq_getElem this,List.getD_eq_getElem?_getD]
theorem wrs_len(l:List Wr):(wrs l).length=l.length*2:=el_len wr_len l
theorem wrs_app(l m:List Wr):wrs (l++m)=wrs l++wrs m:=by simp [wrs]
theorem wrs_snoc(l:List Wr)(r:Wr):wrs (l++ [r])=wrs l++wrCs r:=by simp [wrs]
theorem wrs_take(l:List Wr)(i:Nat):(wrs l).take (i*2)=wrs (l.take i):=el_take wr_len l i
theorem sWrs:SlcT Tryz.prog 25 37 2 8 (.agg #[.int .u32 0, .int .u32 0]):=SlcT.of Tryz.underlying25 (by kernel_rfl) rfl (by decide)
theorem eWr:EqS Tryz.prog 37 [.u32, .u32]:=⟨by kernel_rfl,by kernel_rfl,by kernel_rfl,by kernel_rfl⟩
theorem wr_inj{x y:Wr}:(wrI x=wrI y)↔x=y:=⟨wrI_inj _ _,fun h=>by rw [h]⟩
section
variable {X : Ctx} {L : AL} {B : BL} {ops : Array Oper} {K : Act → World → Prop} {r : Pl} {k : Kd}
  {x y z : Operand} {d : Nat} {t t2 t' : TypeId} {pos : String} {af : Array Edge} {g : Option (Nat × Bool)}
theorem eqWr(p q:Wr)(hg:gd ops L g=some true)(hx:ev L x=some (.ct (.fr (aggT (wrCs p)))))(hy:ev L y=some (.ct (.fr (aggT (wrCs q)))))(hP:X.P=Tryz.prog)(hn:Nat.blt d X.n=true)
    (h:Ops X ops r ((d, .ct (boolC (decide (p=q))))::L) B K):Ops X ops (.cons ⟨some d, .binOp .eql 37 x y t2,t',pos,af,g⟩ k r) L B K:=
  Ops.eqS (ks:=[.u32, .u32]) (wrI p) (wrI q) hg hx hy rfl rfl (hP▸eWr) hn (by rw [decide_eq_decide.2 wr_inj];exact h)
theorem neWr(p q:Wr)(hg:gd ops L g=some true)(hx:ev L x=some (.ct (.fr (aggT (wrCs p)))))(hy:ev L y=some (.ct (.fr (aggT (wrCs q)))))(hP:X.P=Tryz.prog)(hn:Nat.blt d X.n=true)
    (h:Ops X ops r ((d, .ct (boolC (decide (¬p=q))))::L) B K):Ops X ops (.cons ⟨some d, .binOp .neq 37 x y t2,t',pos,af,g⟩ k r) L B K:=
  Ops.neS (ks:=[.u32, .u32]) (wrI p) (wrI q) hg hx hy rfl rfl (hP▸eWr) hn (by rw [decide_eq_decide.2 wr_inj,←decide_not];exact h)
end
theorem goCompact_Tk:InGo Tryz.prog 149:=InGo.of Tryz.func149 (by kernel_rfl) (by kernel_rfl)
set_option maxHeartbeats 4000000 in
theorem Compact_Tk_ok (l : List Tk) (hl : l.length ≤ 100000) : OkT Tryz.prog 149 123 3 (tks l) [] (tks (dd l)) := by
  refine OkT.enter Tryz.func149 J _ Tryz.ntmps149 J ?_
  intro S w h0; refine Qy (Qx fun K hK => ?_); refine Qv J J J (Qj (hK _ _ (Qz (Qy (Qy ?_))))); clear hK K; refine Qx (fun K hK => ?_); refine Qq J J J (YW l.length J J J (by decide) (tks_len l) sTks.und J ?_); refine Qk ilss J J J J (Qj (hK _ _ (Qz ?_))); clear hK K; refine Q2 J (fun h => ?_) (fun h => ?_)
  · rw [dd_small (l := l) (by omega)]; refine Qy (Qx fun K hK => ?_); refine Qq J J J (Qv J J J (Qj (hK _ _ (Qz (Q4 (QY ?_)))))); clear hK K; refine Yc J J J
  refine QW (Qz (Qy (Qy (Qx fun K hK => ?_)))); refine Qv J J J (Qj (hK _ _ (Qz (Q3 ?_)))); clear hK K
  refine Qs (α := Nat) (fun i => i + 1 ≤ l.length ∧ dd (l.take (i + 1)) = l.take (i + 1))
    (fun i => [(0, .own 0), (3, .ct (intC (i + 1)))]) (fun _ => [(0, .row 123 3 (tks l))]) (fun i => l.length - i) 0 ⟨by omega, dd_small (by rw [List.length_take]; omega)⟩ (by exact Qu J ⟨rfl, rfl, trivial⟩) ?_
  rintro i ⟨hi, hd⟩
  try dsimp only at hi hd
  try dsimp only
  refine Qy (Qy (Qx fun K hK => ?_)); refine Qq J J J (Qq J J J (YW l.length J J J (by decide) (tks_len l) sTks.und J ?_)); refine Qk ilss J J J J (Qj (hK _ _ (Qz ?_))); clear hK K; refine Q2 J (fun h => ?_) (fun h => ?_); rotate_left
  · have e : dd l = l := by
      have := hd; rw [List.take_of_length_le (by omega)] at this; exact this
    rw [e]; refine Qm (Qz (Qy (Qx fun K hK => ?_))); refine Qq J J J (Qv J J J (Qj (hK _ _ (Qz (Q4 ?_))))); clear hK K; refine Yc J J J
  refine QW (Qz (Qy (Q3 (Qy ?_)))); refine XX mixed 10 (.p 0 (.p 1 (.p 2 (.p 4 (.p 5 (.p 6 (.p 7 (.f 3 (.f 8 (.p 9 .done)))))))))) (by kernel_rfl) (fun K hK => ?_); refine Qq J J J (Qq J J J (XJ l.length J J J (tks_len l) J sTks (by omega) (by omega) J ?_)); refine Qq J J J (Qq J J J (Qk (isub (by omega) (by omega)) J J J J ?_))
  refine XJ l.length J J J (tks_len l) J sTks (by omega) (by omega) J ?_
  skip
  refine ldE tkCs tk0 tk_len J J J J J (by omega) lTrace J ?_
  refine ldE tkCs tk0 tk_len J J J J J (by omega) lTrace J ?_
  rw [show ((i : Int) + 1).toNat = i + 1 by omega, show ((i : Int) + 1 - 1).toNat = i by omega]; generalize hx : l.getD i tk0 = x; generalize hy : l.getD (i + 1) tk0 = y; refine eqTk y x J J J J J (Qj (hK _ _ (Qz ?_))); clear hK K; have hs := dd_step (l := l) (z := tk0) (p := i + 1) (by omega) (by omega); rw [show i + 1 - 1 = i by omega, hx, hy] at hs; refine Q2 J (fun he => ?_) (fun he => ?_); rotate_left
  · refine QW (Qz (Qx fun K hK => ?_)); refine Qq J J J (Qk (iadd (by omega) (by omega)) J J J J ?_); refine Qv J J J (Qj (hK _ _ (Q6 ?_))); clear hK K; refine Q9 (i + 1) (by omega) ⟨by omega, ?_⟩ (by exact Qu J ⟨rfl, by simp only [Int.natCast_add]; rfl, trivial⟩); rw [hs, if_neg he, hd, List.take_add_one (i := i + 1), List.getElem?_eq_getElem (by omega), ← hy, List.getD_eq_getElem?_getD, List.getElem?_eq_getElem (by omega)]; rfl
  rw [if_pos he, hd] at hs; refine St.nameS 0 0 l.length J J (tks_len l) (by omega) (by decide) (fun gb c hc1 hc2 => ?_); refine Qy (Qx fun K hK => ?_); refine Qq J J J (Qq J J J (Z4 (i + 1) J J J (by omega) sTks (by omega) J ?_)); rw [if_neg (show ¬ c = i + 1 by omega), Nat.zero_add]; refine Qv J J J (Qj (hK _ _ (Qz (Qy (Qy ?_))))); clear hK K; refine Qx (fun K hK => ?_); refine Qv J J J (Qj (hK _ _ (Qz (Q3 ?_)))); clear hK K
  refine Qs (α := Nat) (fun j => i + 2 + j ≤ l.length ∧ (dd (l.take (i + 2 + j))).length < i + 2 + j)
    (fun j => [(0, .ct (.ex (kh gb 0 l.length c))), (3, .ct (intC (dd (l.take (i + 2 + j))).length)), (4, .ct (.ex (kh gb ((i + 1) * 3) (l.length - (i + 1)) (c - (i + 1))))), (5, .ct (intC (j + 1)))])
    (fun j => [(0, .rowx (kh gb 0 l.length c) 123 3 (tks (dd (l.take (i + 2 + j)) ++ l.drop (dd (l.take (i + 2 + j))).length)))]) (fun j => l.length - j) 0
    ⟨by omega, by rw [Nat.add_zero, hs, List.length_take]; omega⟩ (by
      rw [Nat.add_zero, hs, List.length_take, Nat.min_eq_left hi, List.take_append_drop]
      exact Qu J ⟨rfl, rfl, rfl, rfl, trivial⟩) ?_
  clear hs
  rintro j ⟨hj, hD⟩
  try dsimp only at hj hD
  try dsimp only
  have hs := dd_step (l := l) (z := tk0) (p := i + 2 + j) (by omega); generalize hDD : dd (l.take (i + 2 + j)) = D at hs hD ⊢
  have hrl : (D ++ l.drop D.length).length = l.length := by rw [List.length_append, List.length_drop]; omega
  have hat : ∀ q, D.length ≤ q → (D ++ l.drop D.length).getD q tk0 = l.getD q tk0 := fun q hq => row_at D l q tk0 hq
  refine Qy (Qy (Qx fun K hK => ?_)); refine Qq J J J (Qq J J J (Yq J J sTks.und J (Qk ilss J J J J (Qj (hK _ _ (Qz ?_)))))); clear hK K; refine Q2 J (fun h2 => ?_) (fun h2 => ?_)
  · refine QW (Qz (Qy (Q3 (Qy ?_)))); refine XX mixed 10 (.p 0 (.p 1 (.p 2 (.p 4 (.p 5 (.p 6 (.p 7 (.f 3 (.f 8 (.p 9 .done)))))))))) (by kernel_rfl) (fun K hK => ?_); refine Qq J J J (Qq J J J (Z3 0 (i + 1) J J J J sTks (by omega) (by omega) J ?_)); refine Qq J J J (Qq J J J (Qk (isub (by omega) (by omega)) J J J J ?_))
    refine Z3 0 (i + 1) J J J J sTks (by omega) (by omega) J ?_
    skip
    refine ldE tkCs tk0 tk_len J J J J J (by omega) lTrace J ?_
    refine ldE tkCs tk0 tk_len J J J J J (by omega) lTrace J ?_
    rw [show i + 1 + ((j : Int) + 1).toNat = i + 2 + j by omega, show i + 1 + ((j : Int) + 1 - 1).toNat = i + 2 + j - 1 by omega, hat _ (by omega), hat _ (by omega)]; have hs := hs (by omega); generalize hx2 : l.getD (i + 2 + j - 1) tk0 = x2 at hs ⊢; generalize hy2 : l.getD (i + 2 + j) tk0 = y2 at hs ⊢; refine neTk y2 x2 J J J J J (Qj (hK _ _ (Qz ?_))); clear hK K; refine Q2 J (fun he2 => ?_) (fun he2 => ?_)
    · rw [if_neg he2] at hs; refine Qy (Qx fun K hK => ?_); refine Qq J J J (Qq J J J (Qq J J J (Qq J J J (Z3 0 (i + 1) J J J J sTks (by omega) (by omega) J ?_))))
      refine ldE tkCs tk0 tk_len J J J J J (by omega) lTrace J ?_
      rw [show i + 1 + ((j : Int) + 1).toNat = i + 2 + j by omega, hat _ (by omega), hy2]
      refine Z3 0 0 J J J J sTks (by omega) (by omega) J ?_
      rw [Nat.zero_add, show ((D.length : Int)).toNat = D.length by omega]
      refine stEX tkCs y2 tk_len J J J J J (by omega) szTrace ?_
      rw [row_set D l y2 (by omega)]; refine Qj (hK _ _ (Qz ?_)); clear hK K; refine Qx (fun K hK => ?_); refine Qq J J J (Qk (iadd (by omega) (by omega)) J J J J ?_); refine Qv J J J (Qj (hK _ _ (Qz ?_))); clear hK K; refine Qx (fun K hK => ?_); refine Qq J J J (Qk (iadd (by omega) (by omega)) J J J J ?_); refine Qv J J J (Qj (hK _ _ (Q6 ?_))); clear hK K
      refine Q9 (j + 1) (by omega) ⟨by omega, by show (dd (l.take (i + 2 + j + 1))).length < _; rw [hs, List.length_append]; show D.length + 1 < _; omega⟩ ?_
      rw [show i + 2 + (j + 1) = i + 2 + j + 1 by omega, hs, List.length_append]; exact Qu J ⟨rfl, by simp only [Int.natCast_add]; rfl, rfl, by simp only [Int.natCast_add]; rfl, trivial⟩
    · rw [if_pos (Decidable.not_not.1 he2)] at hs; refine QW (Qz (Qx fun K hK => ?_)); refine Qq J J J (Qk (iadd (by omega) (by omega)) J J J J ?_); refine Qv J J J (Qj (hK _ _ (Q6 ?_))); clear hK K
      refine Q9 (j + 1) (by omega) ⟨by omega, by show (dd (l.take (i + 2 + j + 1))).length < _; rw [hs]; omega⟩ ?_
      rw [show i + 2 + (j + 1) = i + 2 + j + 1 by omega, hs]; exact Qu J ⟨rfl, rfl, rfl, by simp only [Int.natCast_add]; rfl, trivial⟩
  · have e : dd l = D := by rw [← hDD, List.take_of_length_le (by omega)]
    rw [e]; refine Qm (Qz (Qy (Qx fun K hK => ?_))); refine Qq J J J (Qq J J J (Z4 D.length J J J J sTks (by omega) J ?_)); skip
    refine Ops.cutOff 0 D.length J (by show (tks _).length = _; rw [tks_len, hrl]) (by decide) (by omega) (by show (tks _).take _ = tks D; rw [tks_take, List.take_left]) ?_
    refine Ops.clearK 0 J J (by split <;> omega) J (tks_len D) (by omega) sTks (by decide) ?_
    refine Qj (hK _ _ (Qz (Qy ?_))); clear hK K; refine Qx (fun K hK => ?_); refine Qq J J J (Qq J J J (Ya D.length J J J J sTks (by omega) J ?_)); refine Qv J J J (Qj (hK _ _ (Qz (Q4 (Qb (QY (QY (Qb (QY ?_))))))))); clear hK K; refine Fin.link 2 0 J J (Yc J J J)
end Go.Proofs.YtojkdfilabmafaaGreat
namespace Go.Proofs.YtojkdfilabmafaaGreat
open Go.Own Go.Limbs
theorem fTk0:fldInfo Tryz.prog 123 0=some (0,some 1):=by kernel_rfl
theorem fTk1:fldInfo Tryz.prog 123 1=some (1,some 1):=by kernel_rfl
theorem fTk2:fldInfo Tryz.prog 123 2=some (2,some 1):=by kernel_rfl
theorem fWr0:fldInfo Tryz.prog 37 0=some (0,some 1):=by kernel_rfl
theorem fWr1:fldInfo Tryz.prog 37 1=some (1,some 1):=by kernel_rfl
end Go.Proofs.YtojkdfilabmafaaGreat
namespace Go.Proofs.YtojkdfilabmafaaGreat
open Go.Shelf
def laySortT_ren : Go.Shelf.Ren := ⟨fun | 6 => 146 | 15 => 107 | 14 => 214 | 28 => 177 | 29 => 178 | 20 => 255 | 21 => 256 | 22 => 257 | 23 => 258 | 24 => 259 | 25 => 260 | 26 => 261 | 27 => 262 | 46 => 284 | 47 => 235 | 48 => 236 | 49 => 285 | 50 => 286 | 57 => 290 | n => n, fun | 22 => 153 | 24 => 123 | 25 => 219 | 3 => 3 | 39 => 165 | 0 => 0 | 53 => 34 | 55 => 230 | 4 => 4 | 46 => 244 | 45 => 243 | 50 => 115 | 5 => 5 | 9 => 9 | 66 => 286 | 70 => 290 | 76 => 310 | 77 => 311 | n => n, fun | n => n⟩
theorem laySortT:Go.Proofs.SlLaysF0.n6 Tryz.prog laySortT_ren:={
  mixed:=by kernel_rfl
  f6:=⟨Tryz.f146.name,by decide,Tryz.func146.trans (congrArg some (by kernel_rfl))⟩
  f14:=⟨Tryz.f214.name,by decide,Tryz.func214.trans (congrArg some (by kernel_rfl))⟩
  f15:=Tryz.func107.trans (congrArg some (by kernel_rfl))
  f20:=⟨Tryz.f255.name,by decide,Tryz.func255.trans (congrArg some (by kernel_rfl))⟩
  f21:=⟨Tryz.f256.name,by decide,Tryz.func256.trans (congrArg some (by kernel_rfl))⟩
  f22:=⟨Tryz.f257.name,by decide,Tryz.func257.trans (congrArg some (by kernel_rfl))⟩
  f23:=⟨Tryz.f258.name,by decide,Tryz.func258.trans (congrArg some (by kernel_rfl))⟩
  f24:=⟨Tryz.f259.name,by decide,Tryz.func259.trans (congrArg some (by kernel_rfl))⟩
  f25:=⟨Tryz.f260.name,by decide,Tryz.func260.trans (congrArg some (by kernel_rfl))⟩
  f26:=⟨Tryz.f261.name,by decide,Tryz.func261.trans (congrArg some (by kernel_rfl))⟩
  f27:=⟨Tryz.f262.name,by decide,Tryz.func262.trans (congrArg some (by kernel_rfl))⟩
  f28:=Tryz.func177.trans (congrArg some (by kernel_rfl))
  f29:=Tryz.func178.trans (congrArg some (by kernel_rfl))
  f46:=⟨Tryz.f284.name,by decide,Tryz.func284.trans (congrArg some (by kernel_rfl))⟩
  f47:=Tryz.func235.trans (congrArg some (by kernel_rfl))
  f48:=Tryz.func236.trans (congrArg some (by kernel_rfl))
  f49:=⟨Tryz.f285.name,by decide,Tryz.func285.trans (congrArg some (by kernel_rfl))⟩
  f50:=⟨Tryz.f286.name,by decide,Tryz.func286.trans (congrArg some (by kernel_rfl))⟩
  f57:=⟨Tryz.f290.name,by decide,Tryz.func290.trans (congrArg some (by kernel_rfl))⟩
  t0:=Tryz.underlying0
  a0:=Tryz.isAgg0
  z0:=Tryz.sizeOf0
  v0:=Tryz.zeroValue0
  t3:=Tryz.underlying3
  a3:=Tryz.isAgg3
  z3:=Tryz.sizeOf3
  v3:=Tryz.zeroValue3
  t4:=Tryz.underlying4
  a4:=Tryz.isAgg4
  z4:=Tryz.sizeOf4
  v4:=Tryz.zeroValue4
  t5:=Tryz.underlying5
  a5:=Tryz.isAgg5
  z5:=Tryz.sizeOf5
  v5:=Tryz.zeroValue5
  t9:=Tryz.underlying9
  a9:=Tryz.isAgg9
  z9:=Tryz.sizeOf9
  v9:=Tryz.zeroValue9
  t22:=Tryz.underlying153
  a22:=Tryz.isAgg153
  z22:=Tryz.sizeOf153
  v22:=Tryz.zeroValue153
  t25:=Tryz.underlying219
  a25:=Tryz.isAgg219
  z25:=Tryz.sizeOf219
  v25:=Tryz.zeroValue219
  t39:=Tryz.underlying165
  a39:=Tryz.isAgg165
  z39:=Tryz.sizeOf165
  v39:=Tryz.zeroValue165
  t45:=Tryz.underlying243
  a45:=Tryz.isAgg243
  z45:=Tryz.sizeOf243
  v45:=Tryz.zeroValue243
  t46:=Tryz.underlying244
  a46:=Tryz.isAgg244
  z46:=Tryz.sizeOf244
  v46:=Tryz.zeroValue244
  t50:=Tryz.underlying115
  a50:=Tryz.isAgg115
  z50:=Tryz.sizeOf115
  v50:=Tryz.zeroValue115
  t53:=Tryz.underlying34
  a53:=Tryz.isAgg34
  z53:=Tryz.sizeOf34
  v53:=Tryz.zeroValue34
  t55:=Tryz.underlying230
  a55:=Tryz.isAgg230
  z55:=Tryz.sizeOf230
  v55:=Tryz.zeroValue230
  t66:=Tryz.underlying286
  a66:=Tryz.isAgg286
  z66:=Tryz.sizeOf286
  v66:=Tryz.zeroValue286
  t70:=Tryz.underlying290
  a70:=Tryz.isAgg290
  z70:=Tryz.sizeOf290
  v70:=Tryz.zeroValue290
  t76:=Tryz.underlying310
  a76:=Tryz.isAgg310
  z76:=Tryz.sizeOf310
  v76:=Tryz.zeroValue310
  t77:=Tryz.underlying311
  a77:=Tryz.isAgg311
  z77:=Tryz.sizeOf311
  v77:=Tryz.zeroValue311}
end Go.Proofs.YtojkdfilabmafaaGreat
namespace Go.Proofs.YtojkdfilabmafaaGreat
open Go.Own Go.Limbs Go.Shelf
open Go.Sort hiding Ok
attribute [local irreducible] St Ops Go.Own.Fin Ok OkB OkN OkT OkL OkF
theorem goTr1:InGo Tryz.prog 147:=InGo.of Tryz.func147 rfl (by decide)
theorem Tr1_ok(a b:Tk):Ok Tryz.prog 147 [tkC a,tkC b] (intC (cmpT a b)):=by
  have e0:cmpT a b=firstN [cmp3 a.va b.va,cmp3 a.ds.val b.ds.val,cmp3 a.pr b.pr]:=by
    unfold cmpT tkI;simp only [cmpL,firstN]
  rw [e0];clear e0;have h1:=cm_ok a.va b.va;have h2:=cmA_ok (a.ds.val:Int) (b.ds.val:Int);have h3:=cm_ok a.pr b.pr;have hO:=Or_ok [cmp3 a.va b.va,cmp3 a.ds.val b.ds.val,cmp3 a.pr b.pr] (by simp);generalize cmp3 a.va b.va=c1 at h1 hO ⊢;generalize cmp3 (a.ds.val:Int) (b.ds.val:Int)=c2 at h2 hO ⊢;generalize cmp3 a.pr b.pr=c3 at h3 hO ⊢
  refine Ok.enter Tryz.func147 J _ Tryz.ntmps147 J ?_
  intro S w;refine Qy (Qx fun K hK=> ?_);refine Xu 0 J J J J J J J (Xu 1 J J J J J J J (Qv J J J (Qj (hK _ _ (Qz (Qy ?_))))));clear hK K;refine XX mixed 18 (.p 0 (.p 2 (.p 5 (.p 7 (.p 10 (.p 12 (.f 1 (.f 3 (.f 6 (.f 8 (.f 11 (.f 13 (.m 4 (.m 9 (.m 14 (.m 15 (.m 16 (.p 17 .done)))))))))))))))))) (by kernel_rfl) (fun K hK=> ?_);refine QJ J J J fTk0 J (QJ J J J fTk0 J (QJ J J J fTk1 J (QJ J J J fTk1 J (QJ J J J fTk2 J (QJ J J J fTk2 J (QQ J J J J J lInt J (QQ J J J J J lInt J (QQ J J J J J lAddr J (QQ J J J J J lAddr J (QQ J J J J J lInt J (QQ J J J J J lInt J (QV gocm h1 J J J J (QV gocmA h2 J J J J (QV gocm h3 J J J J (Ops.litI [c1,c2,c3] rfl rfl sInts J ⟨rfl,rfl,rfl,rfl,rfl,rfl,trivial⟩ (by decide) J ?_)))))))))))))));refine QV goOr hO J J J J (Qv J J J (Qj (hK _ _ (Qz (Q4 ?_)))));clear hK K;refine Q1 [_] rfl (QX J QZ) J J
def tkV (t : Tk) : List Value := [.int .i64 t.va, .int .u32 t.ds.val, .int .i64 t.pr]
abbrev cmpTV : CT := .ex (.func (.func 147) #[] #[])
theorem goSortT:InGo Tryz.prog 146:=InGo.of Tryz.func146 rfl (by decide)
theorem SortT_ok(l:List Tk)(hl:l.length<4611686018427387904):OkL Tryz.prog 146 123 3 (tks l) [cmpTV] unitC (tks (l.mergeSort fun x y=> !(ltOf cmpT) y x)):=
  sortFunc_L laySortT (enc:=tkV) (k:=3) (cf:=cmpT) (g:=147) (by decide) Tryz.isAgg123 Tryz.sizeOf123 (fun _=>rfl) (fun x v hv=>by
    simp only [tkV,List.mem_cons,List.not_mem_nil,or_false] at hv
    rcases hv with rfl|rfl|rfl <;>rfl)
    ordT.swo ordT.tot goTr1 Tr1_ok 123 l hl
def trsF (l : List Rs) : List Tk := sd cmpT ((l.filter okR).map trOf)
theorem goTraces:InGo Tryz.prog 83:=InGo.of Tryz.func83 rfl (by decide)
set_option maxHeartbeats 4000000 in
theorem Traces_ok(l:List Rs)(hl:l.length≤10000):OkF Tryz.prog 83 [rssC l] 123 3 (tks (trsF l)):=by
  refine OkF.enter Tryz.func83 J _ Tryz.ntmps83 J ?_
  intro S w;refine Qy (Qx fun K hK=> ?_);refine Qv J J J (Qj (hK _ _ (Qz (Qy ?_))));clear hK K;refine Qx (fun K hK=> ?_);refine Qv J J J (Qj (hK _ _ (Qz (Qy (Qy ?_)))));clear hK K;refine Qx (fun K hK=> ?_);refine Qq J J J (Qh J J sRes.und (List.length_map ..) J (Qq J J J (Qj (hK _ _ (Qz (Q3 ?_))))));clear hK K
  refine YV 3 0 123 3 J J J ?_
  refine Qs (α:=Nat) (fun i=>i≤l.length)
    (fun i=>[(3, .own 0),(6, .ct (rssC l)),(7, .ct (intC l.length)),(8, .ct (intC i))]) (fun i=>[(0, .row 123 3 (tks (((l.take i).filter okR).map trOf)))]) (fun i=>l.length - i) 0 (Nat.zero_le _) (by exact Qu J ⟨rfl,rfl,rfl,rfl,trivial⟩) ?_
  intro i hi
  try dsimp only at hi
  try dsimp only
  refine Qy (Qx fun K hK=> ?_);refine Qk ilss J J J J (Qj (hK _ _ (Qz (Qy ?_))));clear hK K;refine Q2 J (fun h=> ?_) (fun h=> ?_)
  · have e2:(i:Int).toNat=i:=Int.toNat_natCast i;have hs:=filter_take okR (z:=rs0) (i:=i) (l:=l) (by omega);have hfl:=filter_len okR l i;refine QW (Qz (Qy (Q3 (Qy (Qx fun K hK=> ?_)))))
    refine Xx J J J sRes (by omega) (rss_at (by omega) (by omega)) J ?_
    refine Xc (n:=17) J J J lRes J J (Qf 1 J J zvRes J J J (Qa 17 J J J J J szRes J J (Qj (hK _ _ (Qz (Qy ?_))))));clear hK K;refine Qx (fun K hK=> ?_)
    refine Qc (n:=17) J J J J J lRes J ?_
    rw [e2];generalize l.getD i rs0=c at hs;skip;refine QV goValidR (ValidR_ok c) J J J J (Qj (hK _ _ (Qz ?_)));clear hK K;refine X6 J (fun h2=> ?_) (fun h2=> ?_)
    · rw [if_pos h2] at hs;refine Qx (fun K hK=> ?_);refine Qq J J J (Qc (n:=17) J J J J J lRes J (QV goTraceOf (TraceOf_ok c) J J J J ?_));generalize (l.take i).filter okR=out at hs hfl ⊢
      refine Zo (n:=3) J J sTks J J (by decide) J ?_
      refine Qt (out.map trOf).length (tks (out.map trOf++ [trOf c])) J J J J sTks (tks_len _) J (by rw [List.length_map];omega) (by rw [List.length_map];omega) (tks_snoc _ _) J ?_
      refine Qv J J J (Qj (hK _ _ (Qz ?_)));clear hK K;refine Qx (fun K hK=> ?_)
      refine Qk (iadd (by omega) (by omega)) J J J J ?_
      refine Qq J J J (Qj (hK _ _ (Q6 ?_)));clear hK K;refine Xq 1 (Q9 (i+1) (by omega) (by omega) (by rw [hs,List.map_append];exact Qu J ⟨rfl,rfl,rfl,by simp only [Int.natCast_add];rfl,trivial⟩))
    · rw [if_neg (by rw [h2];decide)] at hs;refine QW (Qz (Qx fun K hK=> ?_))
      refine Qk (iadd (by omega) (by omega)) J J J J ?_
      refine Qq J J J (Qj (hK _ _ (Q6 ?_)));clear hK K;refine Xq 1 (Q9 (i+1) (by omega) (by omega) (by rw [hs];exact Qu J ⟨rfl,rfl,rfl,by simp only [Int.natCast_add];rfl,trivial⟩))
  · have hi' :i=l.length:=by omega
    rw [hi',List.take_length]
    have hfl:((l.filter okR).map trOf).length≤l.length:=by rw [List.length_map];exact List.length_filter_le _ _
    unfold trsF;generalize (l.filter okR).map trOf=m at hfl ⊢;refine Qm (Qz (Qy (Qx fun K hK=> ?_)));refine Qq J J J (Ops.callL goSortT (SortT_ok m (by omega)) J J J J J ?_);refine Qj (hK _ _ (Qz (Qy ?_)));clear hK K;refine Qx (fun K hK=> ?_);refine Qq J J J (Ops.callT goCompact_Tk (Compact_Tk_ok _ (by rw [List.length_mergeSort];omega)) J J J J J ?_);refine Qv J J J (Qj (hK _ _ (Qz (Q4 ?_))));clear hK K;refine Fin.retF J J J J
def ofF (l : List Rs) (t : Tk) : List Rs := (sd cmpR (l.filter okR)).filter fun r => decide (trOf r = t)
theorem goOf:InGo Tryz.prog 84:=InGo.of Tryz.func84 rfl (by decide)
set_option maxHeartbeats 4000000 in
theorem Of_ok(l:List Rs)(t:Tk)(hl:l.length≤10000):OkF Tryz.prog 84 [rssC l,tkC t] 47 17 (rss (ofF l t)):=by
  have hO:=Order_ok l hl
  have hol:(sd cmpR (l.filter okR)).length≤10000:=by
    have:=sd_len cmpR (l.filter okR);have:=List.length_filter_le okR l;omega
  unfold ofF;generalize sd cmpR (l.filter okR)=o at hO hol ⊢
  refine OkF.enter Tryz.func84 J _ Tryz.ntmps84 J ?_
  intro S w;refine Qy (Qx fun K hK=> ?_);refine Xu 0 J J J J J J J (Qv J J J (Qj (hK _ _ (Qz (Qy ?_)))));clear hK K;refine Qx (fun K hK=> ?_);refine Qv J J J (Qj (hK _ _ (Qz (Qy (Qy ?_)))));clear hK K;refine Qx (fun K hK=> ?_);refine Qq J J J (Zm 3 goOrder hO J J J J J J (ZY 3 _ J (rss_frozen _ _) noBor_sub (Qh J J sRes.und (List.length_map ..) J (Qq J J J (Qj (hK _ _ (Qz (Q3 ?_))))))));clear hK K
  refine YV 5 1 47 17 J J J ?_
  refine Qs (α:=Nat) (fun i=>i≤o.length)
    (fun i=>[(3, .own 0),(5, .own 1),(9, .ct (rssC o)),(10, .ct (intC o.length)),(11, .ct (intC i))]) (fun i=>[(1, .row 47 17 (rss ((o.take i).filter fun r=>decide (trOf r=t)))),(0, .box 123 (tkCs t))]) (fun i=>o.length - i) 0 (Nat.zero_le _) (by exact Qu J ⟨rfl,rfl,rfl,rfl,rfl,trivial⟩) ?_
  intro i hi
  try dsimp only at hi
  try dsimp only
  refine Qy (Qx fun K hK=> ?_);refine Qk ilss J J J J (Qj (hK _ _ (Qz (Qy ?_))));clear hK K;refine Q2 J (fun h=> ?_) (fun h=> ?_)
  · have e2:(i:Int).toNat=i:=Int.toNat_natCast i;have hs:=filter_take (fun r=>decide (trOf r=t)) (z:=rs0) (i:=i) (l:=o) (by omega);have hfl:=filter_len (fun r=>decide (trOf r=t)) o i;refine QW (Qz (Qy (Q3 (Qy (Qx fun K hK=> ?_)))))
    refine Xx J J J sRes (by omega) (rss_at (by omega) (by omega)) J ?_
    refine Xc (n:=17) J J J lRes J J (Qf 2 J J zvRes J J J (Qa 17 J J J J J szRes J J (Qj (hK _ _ (Qz (Qy ?_))))));clear hK K;rw [e2];generalize o.getD i rs0=c at hs;generalize (o.take i).filter (fun r=>decide (trOf r=t))=out at hs hfl ⊢;refine XX mixed 4 (.f 0 (.f 2 (.m 1 (.p 3 .done)))) (by kernel_rfl) (fun K hK=> ?_);refine Qc (n:=17) J J J J J lRes J (Qc (n:=3) J J J J J lTrace J (QV goTraceOf (TraceOf_ok c) J J J J (eqTk (trOf c) t J J J J J (Qj (hK _ _ (Qz ?_))))));clear hK K;refine Q2 J (fun h2=> ?_) (fun h2=> ?_)
    · rw [if_pos (decide_eq_true h2)] at hs;refine Qx (fun K hK=> ?_);refine Qq J J J (Qc (n:=17) J J J J J lRes J (Zo (n:=17) J J sRes J J (by decide) J ?_))
      refine Qt out.length (rss (out++ [c])) J J J J sRes (rss_len out) J (by omega) (by omega) (rss_snoc out c) J ?_
      refine Qv J J J (Qj (hK _ _ (Qz ?_)));clear hK K;refine Qx (fun K hK=> ?_)
      refine Qk (iadd (by omega) (by omega)) J J J J ?_
      refine Qq J J J (Qj (hK _ _ (Q6 ?_)));clear hK K;refine Xq 2 (Q9 (i+1) (by omega) (by omega) (by rw [hs];exact Qu J ⟨rfl,rfl,rfl,rfl,by simp only [Int.natCast_add];rfl,trivial⟩))
    · rw [if_neg (by rw [decide_eq_false h2];decide)] at hs;refine QW (Qz (Qx fun K hK=> ?_))
      refine Qk (iadd (by omega) (by omega)) J J J J ?_
      refine Qq J J J (Qj (hK _ _ (Q6 ?_)));clear hK K;refine Xq 2 (Q9 (i+1) (by omega) (by omega) (by rw [hs];exact Qu J ⟨rfl,rfl,rfl,rfl,by simp only [Int.natCast_add];rfl,trivial⟩))
  · have hi' :i=o.length:=by omega
    rw [hi',List.take_length];refine Qm (Qz (Qy (Qx fun K hK=> ?_)));refine Qq J J J (Qv J J J (Qj (hK _ _ (Qz (Q4 ?_)))));clear hK K;refine Fin.retF J J J J
end Go.Proofs.YtojkdfilabmafaaGreat
namespace Go.Proofs.YtojkdfilabmafaaGreat
open Go.Shelf
def laySortW_ren : Go.Shelf.Ren := ⟨fun | 6 => 61 | 15 => 107 | 14 => 106 | 28 => 177 | 29 => 178 | 20 => 169 | 21 => 170 | 22 => 171 | 23 => 172 | 24 => 173 | 25 => 174 | 26 => 175 | 27 => 176 | 46 => 234 | 47 => 235 | 48 => 236 | 49 => 237 | 50 => 238 | 57 => 273 | n => n, fun | 22 => 25 | 24 => 37 | 25 => 117 | 3 => 3 | 39 => 165 | 0 => 0 | 53 => 34 | 55 => 230 | 4 => 4 | 46 => 244 | 45 => 243 | 50 => 115 | 5 => 5 | 9 => 9 | 66 => 286 | 70 => 290 | 76 => 310 | 77 => 311 | n => n, fun | n => n⟩
theorem laySortW:Go.Proofs.SlLaysF0.n6 Tryz.prog laySortW_ren:={
  mixed:=by kernel_rfl
  f6:=⟨Tryz.f61.name,by decide,Tryz.func61.trans (congrArg some (by kernel_rfl))⟩
  f14:=⟨Tryz.f106.name,by decide,Tryz.func106.trans (congrArg some (by kernel_rfl))⟩
  f15:=Tryz.func107.trans (congrArg some (by kernel_rfl))
  f20:=⟨Tryz.f169.name,by decide,Tryz.func169.trans (congrArg some (by kernel_rfl))⟩
  f21:=⟨Tryz.f170.name,by decide,Tryz.func170.trans (congrArg some (by kernel_rfl))⟩
  f22:=⟨Tryz.f171.name,by decide,Tryz.func171.trans (congrArg some (by kernel_rfl))⟩
  f23:=⟨Tryz.f172.name,by decide,Tryz.func172.trans (congrArg some (by kernel_rfl))⟩
  f24:=⟨Tryz.f173.name,by decide,Tryz.func173.trans (congrArg some (by kernel_rfl))⟩
  f25:=⟨Tryz.f174.name,by decide,Tryz.func174.trans (congrArg some (by kernel_rfl))⟩
  f26:=⟨Tryz.f175.name,by decide,Tryz.func175.trans (congrArg some (by kernel_rfl))⟩
  f27:=⟨Tryz.f176.name,by decide,Tryz.func176.trans (congrArg some (by kernel_rfl))⟩
  f28:=Tryz.func177.trans (congrArg some (by kernel_rfl))
  f29:=Tryz.func178.trans (congrArg some (by kernel_rfl))
  f46:=⟨Tryz.f234.name,by decide,Tryz.func234.trans (congrArg some (by kernel_rfl))⟩
  f47:=Tryz.func235.trans (congrArg some (by kernel_rfl))
  f48:=Tryz.func236.trans (congrArg some (by kernel_rfl))
  f49:=⟨Tryz.f237.name,by decide,Tryz.func237.trans (congrArg some (by kernel_rfl))⟩
  f50:=⟨Tryz.f238.name,by decide,Tryz.func238.trans (congrArg some (by kernel_rfl))⟩
  f57:=⟨Tryz.f273.name,by decide,Tryz.func273.trans (congrArg some (by kernel_rfl))⟩
  t0:=Tryz.underlying0
  a0:=Tryz.isAgg0
  z0:=Tryz.sizeOf0
  v0:=Tryz.zeroValue0
  t3:=Tryz.underlying3
  a3:=Tryz.isAgg3
  z3:=Tryz.sizeOf3
  v3:=Tryz.zeroValue3
  t4:=Tryz.underlying4
  a4:=Tryz.isAgg4
  z4:=Tryz.sizeOf4
  v4:=Tryz.zeroValue4
  t5:=Tryz.underlying5
  a5:=Tryz.isAgg5
  z5:=Tryz.sizeOf5
  v5:=Tryz.zeroValue5
  t9:=Tryz.underlying9
  a9:=Tryz.isAgg9
  z9:=Tryz.sizeOf9
  v9:=Tryz.zeroValue9
  t22:=Tryz.underlying25
  a22:=Tryz.isAgg25
  z22:=Tryz.sizeOf25
  v22:=Tryz.zeroValue25
  t25:=Tryz.underlying117
  a25:=Tryz.isAgg117
  z25:=Tryz.sizeOf117
  v25:=Tryz.zeroValue117
  t39:=Tryz.underlying165
  a39:=Tryz.isAgg165
  z39:=Tryz.sizeOf165
  v39:=Tryz.zeroValue165
  t45:=Tryz.underlying243
  a45:=Tryz.isAgg243
  z45:=Tryz.sizeOf243
  v45:=Tryz.zeroValue243
  t46:=Tryz.underlying244
  a46:=Tryz.isAgg244
  z46:=Tryz.sizeOf244
  v46:=Tryz.zeroValue244
  t50:=Tryz.underlying115
  a50:=Tryz.isAgg115
  z50:=Tryz.sizeOf115
  v50:=Tryz.zeroValue115
  t53:=Tryz.underlying34
  a53:=Tryz.isAgg34
  z53:=Tryz.sizeOf34
  v53:=Tryz.zeroValue34
  t55:=Tryz.underlying230
  a55:=Tryz.isAgg230
  z55:=Tryz.sizeOf230
  v55:=Tryz.zeroValue230
  t66:=Tryz.underlying286
  a66:=Tryz.isAgg286
  z66:=Tryz.sizeOf286
  v66:=Tryz.zeroValue286
  t70:=Tryz.underlying290
  a70:=Tryz.isAgg290
  z70:=Tryz.sizeOf290
  v70:=Tryz.zeroValue290
  t76:=Tryz.underlying310
  a76:=Tryz.isAgg310
  z76:=Tryz.sizeOf310
  v76:=Tryz.zeroValue310
  t77:=Tryz.underlying311
  a77:=Tryz.isAgg311
  z77:=Tryz.sizeOf311
  v77:=Tryz.zeroValue311}
end Go.Proofs.YtojkdfilabmafaaGreat
namespace Go.Proofs.YtojkdfilabmafaaGreat
open Go.Own Go.Limbs Go.Shelf
open Go.Sort hiding Ok
def cmpW (a b : Wr) : Int := cmpL (wrI a) (wrI b)
theorem ordW:Ord cmpW where
  anti a b:=cmpL_anti _ _
  eq0 a b h:=wrI_inj a b (cmpL_eq (xs:=wrI a) (ys:=wrI b) rfl h)
  trans a b c:=cmpL_trans (xs:=wrI a) (ys:=wrI b) (zs:=wrI c) rfl rfl
abbrev wr2 (x : Wr) : List Value := [.int .u32 x.1.val, .int .u32 x.2.val]
theorem one_two(x:Wr):∀u∈wr2 x,u.oneCell' =true:=fun u hu=>by
  rcases List.mem_cons.1 hu with rfl|hu
  · rfl
  · rcases List.mem_cons.1 hu with rfl|hu
    · rfl
    · cases hu
theorem goSortW:InGo Tryz.prog 61:=InGo.of Tryz.func61 rfl (by decide)
end Go.Proofs.YtojkdfilabmafaaGreat
namespace Go.Proofs.YtojkdfilabmafaaGreat
open Go.Own Go.Limbs
def posD (out : List Wr) (t : Wr) : Nat := (out.takeWhile fun x => decide (cmpW x t < 0)).length
theorem posD_le(out:List Wr)(t:Wr):posD out t≤out.length:=by
  unfold posD;exact (List.takeWhile_sublist _).length_le
theorem posD_cons(x:Wr)(out:List Wr)(t:Wr):posD (x::out) t=if cmpW x t<0 then posD out t+1 else 0:=by
  unfold posD;rw [List.takeWhile_cons];by_cases h:cmpW x t<0
  · rw [decide_eq_true h,if_pos J,if_pos h];rfl
  · rw [decide_eq_false h,if_neg h];rfl
theorem posD_lt{t:Wr}:∀{out:List Wr},Up cmpW out→∀{h:Nat},h<out.length→(cmpW (out.getD h wr0) t<0↔h<posD out t)
  | [],_,_,hh=>by cases hh
  |x::out,hu,h,hh=>by
    obtain ⟨h1,h2⟩:=List.pairwise_cons.1 hu
    rw [posD_cons]
    cases h with
    |zero=>
      show cmpW x t<0↔_
      split
      · rename_i hc;exact ⟨fun _=>Nat.succ_pos _,fun _=>hc⟩
      · rename_i hc;exact ⟨fun h=>absurd h hc,fun h=>absurd h (Nat.lt_irrefl _)⟩
    |succ h=>
      have hh:h<out.length:=Nat.lt_of_succ_lt_succ hh
      show cmpW (out.getD h wr0) t<0↔_
      split
      · rw [posD_lt h2 hh];omega
      · rename_i hc
        have hm:out.getD h wr0∈out:=by rw [List.getD_eq_getElem?_getD,List.getElem?_eq_getElem hh];exact List.getElem_mem hh
        exact ⟨fun h3=>absurd (ordW.trans _ _ _ (h1 _ hm) h3) hc,fun h3=>absurd h3 (Nat.not_lt_zero _)⟩
theorem posD_at{t:Wr}{out:List Wr}(hu:Up cmpW out):t∈out↔posD out t<out.length∧out.getD (posD out t) wr0=t:=by
  constructor
  · intro h;obtain ⟨i,hi,e⟩:=List.getElem_of_mem h
    have ei:out.getD i wr0=t:=by rw [List.getD_eq_getElem?_getD,List.getElem?_eq_getElem hi];exact e
    have h1:=posD_lt (t:=t) hu hi;rw [ei,ordW.self] at h1
    have h2:¬i<posD out t:=fun h=>absurd (h1.2 h) (by decide)
    have h3:¬posD out t<i:=fun h=>by
      have hp:posD out t<out.length:=by omega
      have h4:=posD_lt (t:=t) hu hp;have h5:=List.pairwise_iff_getElem.1 hu _ _ hp hi h;rw [e] at h5;rw [List.getD_eq_getElem?_getD,List.getElem?_eq_getElem hp] at h4;exact absurd (h4.1 h5) (Nat.lt_irrefl _)
    have:posD out t=i:=by omega
    rw [this];exact ⟨hi,ei⟩
  · rintro ⟨h1,h2⟩
    rw [←h2,List.getD_eq_getElem?_getD,List.getElem?_eq_getElem h1];exact List.getElem_mem h1
end Go.Proofs.YtojkdfilabmafaaGreat
namespace Go.Proofs.YtojkdfilabmafaaGreat
open Go.Own
theorem sNat:SlcT Tryz.prog 86 3 1 8 (.int .i64 0):=SlcT.of Tryz.underlying86 (by kernel_rfl) rfl (by decide)
theorem lNat:Ld1 Tryz.prog 86:=Ld1.of _ Tryz.underlying86 rfl
attribute [local irreducible] Go.Own.Fin Ok Ops St
theorem at_ok(xs:List Int)(i:Int)(hi:0≤i):Ok Tryz.prog 275 [intsC xs,intC i] (intC (xs.getD i.toNat 0)):=by
  refine Ok.enter Tryz.func275 J _ Tryz.ntmps275 J ?_
  intro S w;refine Qy (Qx fun K hK=> ?_);refine Qv J J J (Qj (hK _ _ ?_));refine Qz (Qy (Qy (Qx fun K hK=> ?_)));refine Qq J J J (Qq J J J (Qh J J sNat.und (List.length_map ..) J (Qk ilss J J J J (Qj (hK _ _ ?_)))));refine Qz (Q2 J (fun h=> ?_) (fun h=> ?_))
  · refine Qy (Qx fun K hK=> ?_);refine Qq J J J (Qq J J J (Xx J J J sNat (by omega) (Xs (by omega) (by omega)) J ?_));refine X1 J J J lInt J (Qv J J J (Qj (hK _ _ ?_)));refine Qz (Q4 (QY ?_));refine Q1 [_] rfl (QX J QZ) J J
  · refine QW (Qz (Qy (Qx fun K hK=> ?_)));refine Qv J J J (Qj (hK _ _ ?_));refine Qz (Q4 ?_)
    have hx:xs.getD i.toNat 0=0:=by
      rw [List.getD_eq_getElem?_getD,List.getElem?_eq_none (by omega)];rfl
    rw [hx];refine Q1 [_] rfl (QX J QZ) J J
end Go.Proofs.YtojkdfilabmafaaGreat
namespace Go.Limbs
def trimL : List Int → List Int
  | [] => []
  | x :: xs => match trimL xs with
    | [] => if x = 0 then [] else [x]
    | y :: ys => x :: y :: ys
theorem trim_snoc(ys:List Int):trimL (ys++ [0])=trimL ys:=by
  induction ys with
  |nil=>simp [trimL]
  |cons y ys ih=>simp only [List.cons_append,trimL,ih]
theorem trim_id{ys:List Int}{z:Int}(hz:z≠0):trimL (ys++ [z])=ys++ [z]:=by
  induction ys with
  |nil=>simp [trimL,hz]
  |cons y ys ih=>
    simp only [List.cons_append,trimL,ih]
    cases ys <;>rfl
theorem trim_last{ys:List Int}(h:0<ys.length)(h0:ys.getD (ys.length - 1) 0=0):trimL (ys.take (ys.length - 1))=trimL ys:=by
  obtain ⟨zs,z,rfl⟩:∃zs z,ys=zs++ [z]:=⟨ys.dropLast,ys.getLast (by intro e;subst e;simp at h),(List.dropLast_concat_getLast _).symm⟩;simp at h0;subst h0;rw [trim_snoc];simp
theorem trim_done{ys:List Int}(h:0<ys.length→ys.getD (ys.length - 1) 0≠0):trimL ys=ys:=by
  rcases Nat.eq_zero_or_pos ys.length with h0|h0
  · have:ys=[]:=List.eq_nil_of_length_eq_zero h0;subst this;rfl
  · obtain ⟨zs,z,rfl⟩:∃zs z,ys=zs++ [z]:=⟨ys.dropLast,ys.getLast (by intro e;subst e;simp at h0),(List.dropLast_concat_getLast _).symm⟩;have:=h h0;simp at this;exact trim_id this
theorem trim_len(xs:List Int):(trimL xs).length≤xs.length:=by
  induction xs with
  |nil=>simp [trimL]
  |cons x xs ih=>
    simp only [trimL];split
    · split <;>simp
    · rename_i y ys e;rw [e] at ih;simp at ih ⊢;omega
end Go.Limbs
namespace Go.Proofs.YtojkdfilabmafaaGreat
open Go.Own Go.Limbs
attribute [local irreducible] St Ops Go.Own.Fin Ok
theorem trim_ok(xs:List Int)(hl:xs.length<4611686018427387904):Ok Tryz.prog 280 [intsC xs] (intsC (trimL xs)):=by
  refine Ok.enter Tryz.func280 J _ Tryz.ntmps280 J ?_
  intro S w;refine Qy (Qx fun K hK=> ?_);refine Qv J J J (Qj (hK _ _ ?_));refine Qz (Qy (Q3 ?_))
  refine Qs (α:=List Int) (fun ys=>trimL ys=trimL xs∧ys.length≤xs.length) (fun ys=>[(0, .ct (intsC ys))]) (fun _=>[]) (fun ys=>ys.length) xs ⟨rfl,Nat.le_refl _⟩ (Entails.sub ⟨rfl,trivial⟩) ?_
  intro ys ⟨hy,hle⟩;refine Qy (Qy (Qx fun K hK=> ?_));refine Qq J J J (Qh J J sNat.und (List.length_map ..) J (Qk igtr J J J J (Qq J J J (Qi 6 J (fun h=> ?_) (fun h=> ?_)))))
  · refine Qq J J J (Qq J J J (Qh J J sNat.und (List.length_map ..) J (Qk (isub (by omega) (by omega)) J J J J ?_)))
    refine Xx J J J sNat (by omega) (Xs (by omega) (by omega)) J ?_
    refine X1 J J J lInt J (Qk ieql J J J J (Q5 J J J J (Qj (hK _ _ ?_))))
    refine Qz ?_
    have e1:((ys.length:Int) - 1).toNat=ys.length - 1:=by omega
    refine Q2 J (fun h2=> ?_) (fun h2=> ?_)
    · rw [e1] at h2;refine QW (Qz (Q3 (Qx fun K hK=> ?_)));refine Qq J J J (Qq J J J (Qh J J sNat.und (List.length_map ..) J (Qk (isub (by omega) (by omega)) J J J J ?_)))
      refine Ops.cutHi J J J sNat (by omega) (by simp) J ?_
      rw [←List.map_take];refine Qv J J J (Qj (hK _ _ ?_));refine Ql (Q6 ?_);refine Q9 (ys.take ((ys.length:Int) - 1).toNat) (by simp;omega) ⟨?_,by simp;omega⟩ (Entails.sub ⟨rfl,trivial⟩);rw [e1,←hy];exact trim_last (by omega) h2
    · rw [e1] at h2;refine Qm (Qz (Qy (Qx fun K hK=> ?_)));refine Qq J J J (Qv J J J (Qj (hK _ _ ?_)));refine Qz (Q4 ?_);rw [←hy,trim_done (fun _=>h2)];refine Q1 [_] rfl (QX J QZ) J J
  · refine Qw J J J (Qw J J J (Qw J J J (Qw J J J (Qw J J J (Qw J J J (Qw J J J (Q7 J J J J (Qj (hK _ _ ?_)))))))));refine Qz (Xy J (Qm (Qz (Qy (Qx fun K hK=> ?_)))));refine Qq J J J (Qv J J J (Qj (hK _ _ ?_)));refine Qz (Q4 ?_);rw [←hy,trim_done (fun h3=>absurd h3 (by omega))];refine Q1 [_] rfl (QX J QZ) J J
theorem gotrim:InGo Tryz.prog 280:=InGo.of Tryz.func280 (by kernel_rfl) (by kernel_rfl)
def resultC (xs : List Int) : CT := if (trimL xs).length > 256 then .fr (tupT [intsC [], intC 3]) else .fr (tupT [intsC (trimL xs), intC 0])
theorem result_ok(xs:List Int)(hl:xs.length≤256):Ok Tryz.prog 276 [intsC xs] (.fr (tupT [intsC (trimL xs),intC 0])):=by
  refine Ok.enter Tryz.func276 J _ Tryz.ntmps276 J ?_
  intro S w;refine Qy (Qx fun K hK=> ?_);refine Qv J J J (Qv J J J (Qj (hK _ _ ?_)));refine Qz (Qy (Qy (Qx fun K hK=> ?_)));refine Qq J J J (QV gotrim (trim_ok xs (by omega)) J J J J ?_);refine Qv J J J (Qj (hK _ _ ?_));refine Qz (Qy (Qx fun K hK=> ?_));refine Qq J J J (Qh J J sNat.und (List.length_map ..) J (Qk igtr J J J J (Qj (hK _ _ ?_))))
  refine Qz ?_
  have:=trim_len xs;refine Q2 J (fun h2=> ?_) (fun h2=> ?_)
  · omega
  · refine QW (Qz (Qy (Qx fun K hK=> ?_)));refine Qq J J J (Qv J J J (Qv J J J (Qj (hK _ _ ?_))));refine Qz (Q4 ?_);refine Q1 [_,_] rfl (QX J (QX J QZ)) J J
end Go.Proofs.YtojkdfilabmafaaGreat
namespace Go.Limbs
abbrev BB : Int := 1073741824
def val : List Int → Int
  | [] => 0
  | x :: xs => x + BB * val xs
def OKL (xs : List Int) : Prop := ∀ x ∈ xs, 0 ≤ x ∧ x < BB
theorem OKL.nil:OKL []:=fun _ h=>by cases h
theorem OKL.cons{x:Int}{xs:List Int}(h:0≤x∧x<BB)(hs:OKL xs):OKL (x::xs):=fun y hy=>by
  rcases List.mem_cons.1 hy with rfl|hy
  · exact h
  · exact hs y hy
theorem OKL.tail{x:Int}{xs:List Int}(h:OKL (x::xs)):OKL xs:=fun y hy=>h y (List.mem_cons_of_mem _ hy)
theorem OKL.head{x:Int}{xs:List Int}(h:OKL (x::xs)):0≤x∧x<BB:=h x (List.mem_cons_self ..)
theorem OKL.append{xs ys:List Int}(h:OKL xs)(h' :OKL ys):OKL (xs++ys):=fun y hy=>by
  rcases List.mem_append.1 hy with hy|hy
  · exact h y hy
  · exact h' y hy
theorem OKL.take{xs:List Int}(h:OKL xs)(n:Nat):OKL (xs.take n):=fun y hy=>h y (List.mem_of_mem_take hy)
theorem OKL.drop{xs:List Int}(h:OKL xs)(n:Nat):OKL (xs.drop n):=fun y hy=>h y (List.mem_of_mem_drop hy)
theorem OKL.zeros(n:Nat):OKL (List.replicate n 0):=fun y hy=>by rw [List.eq_of_mem_replicate hy];decide
theorem OKL.set{xs:List Int}(h:OKL xs)(i:Nat){x:Int}(hx:0≤x∧x<BB):OKL (xs.set i x):=fun y hy=>by
  rcases List.mem_or_eq_of_mem_set hy with hy|rfl
  · exact h y hy
  · exact hx
theorem OKL.get{xs:List Int}(h:OKL xs)(i:Nat):0≤xs.getD i 0∧xs.getD i 0<BB:=by
  rw [List.getD_eq_getElem?_getD]
  cases e:xs[i]? with
  |none=>decide
  |some x=>exact h x (List.mem_of_getElem? e)
theorem Y7{xs:List Int}(h:OKL xs):0≤val xs:=by
  induction xs with
  |nil=>decide
  |cons x xs ih=>have:=ih h.tail;have:=h.head;simp only [val,BB] at*;omega
theorem val_append(xs ys:List Int):val (xs++ys)=val xs+BB ^ xs.length*val ys:=by
  induction xs with
  |nil=>simp [val]
  |cons x xs ih=>simp only [List.cons_append,val,ih,List.length_cons];grind
theorem val_zeros(n:Nat):val (List.replicate n 0)=0:=by
  induction n with
  |zero=>rfl
  |succ n ih=>simp [List.replicate_succ,val,ih]
theorem val_trim(xs:List Int):val (trimL xs)=val xs:=by
  induction xs with
  |nil=>rfl
  |cons x xs ih=>
    simp only [trimL];split
    · rename_i e
      rw [e] at ih;simp only [val] at ih ⊢;split
      · rename_i e0;subst e0;simp [val,←ih]
      · simp [val,←ih]
    · rename_i y ys e;rw [e] at ih;simp only [val] at ih ⊢;rw [ih]
theorem OKL.trim{xs:List Int}(h:OKL xs):OKL (trimL xs):=by
  induction xs with
  |nil=>exact h
  |cons x xs ih=>
    simp only [trimL];split
    · split
      · exact OKL.nil
      · exact OKL.cons h.head OKL.nil
    · rename_i y ys e
      have:=ih h.tail;rw [e] at this;exact OKL.cons h.head this
def limbs (n : Nat) : List Int := if h : n = 0 then [] else ((n % 1073741824 : Nat) : Int) :: limbs (n / 1073741824)
termination_by n
decreasing_by exact Nat.div_lt_self (by omega) (by decide)
theorem limbs_zero:limbs 0=[]:=by unfold limbs;rfl
theorem limbs_pos{n:Nat}(h:n≠0):limbs n=((n%1073741824:Nat):Int)::limbs (n/1073741824):=by rw [limbs];simp [h]
theorem X2(n:Nat):OKL (limbs n):=by
  induction n using Nat.strongRecOn with
  |ind n ih=>
    by_cases h:n=0
    · subst h;rw [limbs_zero];exact OKL.nil
    · rw [limbs_pos h];refine OKL.cons (by simp only [BB];omega) (ih _ (Nat.div_lt_self (by omega) (by decide)))
theorem Xt(n:Nat):val (limbs n)=n:=by
  induction n using Nat.strongRecOn with
  |ind n ih=>
    by_cases h:n=0
    · subst h;rw [limbs_zero];rfl
    · rw [limbs_pos h,val,ih _ (Nat.div_lt_self (by omega) (by decide))];simp only [BB];omega
theorem limbs_nil{n:Nat}(h:limbs n=[]):n=0:=by
  by_cases h0:n=0
  · exact h0
  · rw [limbs_pos h0] at h;cases h
theorem limbs_val{xs:List Int}(h:OKL xs)(ht:trimL xs=xs):xs=limbs (val xs).toNat:=by
  induction xs with
  |nil=>simp [val,limbs_zero]
  |cons x xs ih=>
    have hx:=h.head;have hv:=Y7 h.tail
    have ht2:trimL xs=xs∧¬(xs=[]∧x=0):=by
      simp only [trimL] at ht;split at ht
      · rename_i e
        split at ht
        · cases ht
        · rename_i hne;injection ht with _ h2;subst h2;exact ⟨e,fun h=>hne h.2⟩
      · rename_i y ys e;injection ht with _ h2;rw [e,h2];exact ⟨rfl,fun h=>by rw [h.1] at h2;cases h2⟩
    have ih2:=ih h.tail ht2.1
    have hne:(val (x::xs)).toNat≠0:=by
      intro h0;simp only [val,BB] at h0
      have hx0:x=0:=by simp only [BB] at hx;omega
      have hv0:val xs=0:=by omega
      rw [hv0] at ih2;exact ht2.2 ⟨by rw [ih2];exact limbs_zero,hx0⟩
    rw [limbs_pos hne];simp only [val,BB] at*
    congr 1
    · omega
    · rw [ih2];congr 1;rw [←ih2];omega
theorem trim_trim(xs:List Int):trimL (trimL xs)=trimL xs:=by
  induction xs with
  |nil=>rfl
  |cons x xs ih=>
    simp only [trimL];split
    · split
      · rfl
      · rename_i h;simp [trimL,h]
    · rename_i y ys e;rw [e] at ih;rw [trimL,ih]
theorem Za{xs:List Int}(h:OKL xs):trimL xs=limbs (val xs).toNat:=by
  have:=limbs_val h.trim (trim_trim xs)
  rwa [val_trim] at this
theorem trim_of_limbs(n:Nat):trimL (limbs n)=limbs n:=by rw [Za (X2 n),Xt];simp
def pre (xs : List Int) (i : Nat) : Int := val (xs.take i)
theorem Zg(xs:List Int):pre xs 0=0:=by simp [pre,val]
theorem X5(xs:List Int)(i:Nat):pre xs (i+1)=pre xs i+xs.getD i 0*BB ^ i:=by
  unfold pre;by_cases h:i<xs.length
  · rw [List.take_succ_eq_append_getElem h,val_append]
    have hl:(xs.take i).length=i:=by simp;omega
    rw [hl];simp [val,List.getD_eq_getElem?_getD,List.getElem?_eq_getElem h];grind
  · rw [List.take_of_length_le (by omega),List.take_of_length_le (by omega),List.getD_eq_getElem?_getD,List.getElem?_eq_none (by omega)];simp
theorem Zc{xs:List Int}{i:Nat}(h:xs.length≤i):pre xs i=val xs:=by unfold pre;rw [List.take_of_length_le h]
theorem set_snoc{zs:List Int}{n:Nat}(x:Int):(zs++List.replicate (n+1) 0).set zs.length x=(zs++ [x])++List.replicate n 0:=by
  rw [List.set_append_right _ _ (Nat.le_refl _)];simp [List.replicate_succ]
theorem Xn{n k:Nat}(h:n<1073741824 ^ k):(limbs n).length≤k:=by
  induction k generalizing n with
  |zero=>have:n=0:=by omega
         subst this;simp [limbs_zero]
  |succ k ih=>
    by_cases h0:n=0
    · subst h0;simp [limbs_zero]
    · rw [limbs_pos h0]
      have:n/1073741824<1073741824 ^ k:=by rw [Nat.div_lt_iff_lt_mul (by decide)];rw [Nat.pow_succ] at h;exact h
      have:=ih this;simp;omega
theorem Xl{n k:Nat}(h:(limbs n).length≤k):n<1073741824 ^ k:=by
  induction k generalizing n with
  |zero=>
    have:limbs n=[]:=List.eq_nil_of_length_eq_zero (by omega);have:=limbs_nil this;subst this;decide
  |succ k ih=>
    by_cases h0:n=0
    · subst h0;exact Nat.pow_pos (by decide)
    · rw [limbs_pos h0] at h;have:=ih (n:=n/1073741824) (by simpa using h);rw [Nat.div_lt_iff_lt_mul (by decide)] at this;rw [Nat.pow_succ];exact this
end Go.Limbs
namespace Go.Proofs.YtojkdfilabmafaaGreat
open Go.Own Go.Limbs
attribute [local irreducible] St Ops Go.Own.Fin Ok
theorem goat:InGo Tryz.prog 275:=InGo.of Tryz.func275 (by kernel_rfl) (by kernel_rfl)
theorem goresult:InGo Tryz.prog 276:=InGo.of Tryz.func276 (by kernel_rfl) (by kernel_rfl)
abbrev natC (n : Nat) : CT := intsC (limbs n)
theorem Add_list(xs ys:List Int)(hx:xs.length≤200)(hy:ys.length≤200)(bx:OKL xs)(by' :OKL ys):
    Ok Tryz.prog 246 [intsC xs,intsC ys] (.fr (tupT [natC (val xs+val ys).toNat,intC 0])):=by
  refine Ok.enter Tryz.func246 J _ Tryz.ntmps246 J ?_
  intro S w;refine Qy (Qx fun K hK=> ?_);refine Qv J J J (Qv J J J (Qj (hK _ _ ?_)));refine Qz (Qy (Qx fun K hK=> ?_));refine Qq J J J (Qh J J sNat.und (List.length_map ..) J (Qq J J J (Qh J J sNat.und (List.length_map ..) J (Ops.max2 J J J J (Qv J J J (Qj (hK _ _ ?_)))))));refine Qz (Qy (Qx fun K hK=> ?_));refine Qq J J J (Qk (iadd (by omega) (by omega)) J J J J ?_)
  refine Zp 0 (max xs.length ys.length+1) J J J (by omega) sNat (by omega) (by omega) J J J ?_
  rw [ints_made];refine Qv J J J (Qj (hK _ _ ?_));refine Qz (Qy (Qx fun K hK=> ?_));refine Qv J J J (Qj (hK _ _ ?_));refine Qz (Qy (Qy (Qx fun K hK=> ?_)));refine Qq J J J (Qq J J J (Qj (hK _ _ ?_)));refine Qz (Q3 ?_)
  refine Qs (α:=Nat × List Int × Int) (fun s=>s.1≤max xs.length ys.length∧s.2.1.length=s.1∧OKL s.2.1∧0≤s.2.2∧s.2.2≤1∧val s.2.1+s.2.2*BB ^ s.1=pre xs s.1+pre ys s.1)
    (fun s=>[(0, .ct (intsC xs)),(1, .ct (intsC ys)),(6, .ct (intC (max ↑xs.length ↑ys.length))),(7, .own 0),(8, .ct (intC s.2.2)),(19, .ct (intC (max ↑xs.length ↑ys.length))),(20, .ct (intC s.1))])
    (fun s=>[(0, .row 3 1 (ints (s.2.1++List.replicate (max xs.length ys.length+1 - s.1) 0)))])
    (fun s=>max xs.length ys.length - s.1) (0,[],0) ⟨Nat.zero_le _,rfl,OKL.nil,by decide,by decide,by simp [val,Zg]⟩ (by exact Qu J ⟨rfl,rfl,rfl,rfl,rfl,rfl,rfl,trivial⟩) ?_
  rintro ⟨i,zs,c⟩ ⟨hi,hz,hok,hc0,hc1,hv⟩
  dsimp only at hi hz hok hc0 hc1 hv ⊢;refine Qy (Qx fun K hK=> ?_);refine Qk ilss J J J J (Qj (hK _ _ ?_));refine Qz (Qy ?_);refine Q2 J (fun h=> ?_) (fun h=> ?_)
  · have b1:=bx.get i
    have b2:=by'.get i
    simp only [BB] at b1 b2;refine QW (Qz (Qy (Q3 (Qy (Qx fun K hK=> ?_)))));refine Qq J J J (Qv J J J (Qj (hK _ _ ?_)));refine Qz (Qy (Qx fun K hK=> ?_));refine Qq J J J (Qq J J J (QV goat (at_ok xs i (by omega)) J J J J ?_));refine Qq J J J (Qq J J J (QV goat (at_ok ys i (by omega)) J J J J ?_));rw [Int.toNat_natCast]
    refine Qk (iadd (by omega) (by omega)) J J J J ?_
    refine Qq J J J (Qk (iadd (by omega) (by omega)) J J J J ?_);refine Qv J J J (Qj (hK _ _ ?_));refine Qz (Qx fun K hK=> ?_);refine Qq J J J (Qq J J J (Qq J J J (Qk iand30 J J J J (Qq J J J (Qk ishr30 J J J J (XJ (max xs.length ys.length+1) J J J (by simp;omega) J sNat (by omega) (by omega) J ?_))))))
    refine Xj J J J J J zInt (by simp [Ent.cs];omega) ?_
    simp only [Ent.setc,ZX];refine Qv J J J (Qj (hK _ _ ?_));refine Qz (Qx fun K hK=> ?_)
    refine Qk (iadd (by omega) (by omega)) J J J J ?_
    refine Qq J J J (Qj (hK _ _ ?_));refine Q6 (Q9 (i+1,zs++ [(xs.getD i 0+ys.getD i 0+c)%1073741824],(xs.getD i 0+ys.getD i 0+c)/1073741824) (by dsimp only;omega) ⟨by dsimp only;omega,by simp [hz],?_,?_,?_,?_⟩ ?_)
    all_goals dsimp only
    · exact hok.append (OKL.cons (by simp only [BB];omega) OKL.nil)
    · omega
    · omega
    · rw [val_append,hz,X5,X5];have e:=Int.mul_ediv_add_emod (xs.getD i 0+ys.getD i 0+c) 1073741824;simp only [val,BB] at*;generalize (xs.getD i 0+ys.getD i 0+c)/1073741824=q at*;generalize (xs.getD i 0+ys.getD i 0+c)%1073741824=m at*
      grind
    · refine Qu ?_ ⟨rfl,rfl,rfl,rfl,rfl,rfl,by simp only [Int.natCast_add];rfl,trivial⟩
      have e1:max xs.length ys.length+1 - i=(max xs.length ys.length - i)+1:=by omega
      have e2:max xs.length ys.length+1 - (i+1)=max xs.length ys.length - i:=by omega
      have e3:(i:Int).toNat*1=zs.length:=by omega
      rw [e1,e2,e3,set_snoc];rfl
  · refine Qm (Qz (Qy (Qx fun K hK=> ?_)));refine Qq J J J (Qq J J J (Qq J J J ?_))
    have hi' :i=max xs.length ys.length:=by omega
    have e1:max xs.length ys.length+1 - i=0+1:=by omega
    refine XJ (max xs.length ys.length+1) J J J (by simp;omega) J sNat (by omega) (by omega) J ?_
    refine Xj J J J J J zInt (by simp [Ent.cs];omega) ?_
    simp only [Ent.setc,ZX]
    have e3:(max (xs.length:Int) ys.length).toNat*1=zs.length:=by omega
    rw [e3,e1,set_snoc];refine Qj (hK _ _ ?_);refine Qz (Qy (Qx fun K hK=> ?_));refine Qq J J J (ZY 0 _ J (Zy _ _) noBor_sub (QV goresult (result_ok _ (by simp;omega)) J J J J ?_))
    have e4:trimL (zs++ [c]++List.replicate 0 0)=limbs (val xs+val ys).toNat:=by
      have h1:OKL (zs++ [c]):=hok.append (OKL.cons (by simp only [BB];omega) OKL.nil);simp only [List.replicate_zero,List.append_nil];rw [Za h1,val_append,hz];rw [Zc (by omega),Zc (by omega)] at hv
      congr 2
      simp only [val];grind
    rw [e4];refine QK J J J J (QK J J J J (Qv J J J (Qv J J J (Qj (hK _ _ ?_)))));refine Qz (Q4 ?_);refine Q1 [_,_] rfl (QX J (QX J QZ)) J J
end Go.Proofs.YtojkdfilabmafaaGreat
