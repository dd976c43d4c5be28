/- Part of a proof. -/
import Derived.Test.YtaipiecplldinaaGreatF1
import Derived.Lib.AppendZerosOnto
import Derived.Lib.Overlaps
import Derived.Lib.AppendZeros
set_option maxRecDepth 20000
set_option linter.unusedSimpArgs false
set_option linter.unusedVariables false
namespace Go.ay
structure mu where
 X:Type
 v:X→Value
 e:X→aj
section
variable {P:Program} {l:List Oper} {Q:Exit→Act→World→Prop} {fs:List Nat} {mk:Nat→mu} {w0:World}
def rE(P:Program)(o:Oper)(ρ:Operand→Value)(m:mu):Prop:= ∀(w0 w:World) (L:List aj),Mem w0 L w→ ∃(x:m.X) (w':World),(execOp ρ o).run P w= .ok (.value (m.v x)) w'∧Mem w0 (m.e x::L) w'
def upon(P:Program)(w:World)(R:Value→World→Prop):Result Next→Prop
 | .ok (.value v) w'=>R v w'
 | .ok .skip w'=>R undef w'
 | .ok (.enter f args) w'=>w'=w∧Calls P f args w fun e nM=> ∃v,e= .returned v∧R v nM
 |_=>False
def pN(P:Program)(l:List Oper)(fs:List Nat)(mk:Nat→mu)(Q:Exit→Act→World→Prop)(w0:World):List Nat→Act→List aj→List aj→Prop
 |[],af,L,_=> ∀w,Mem w0 L w→Q .normal af w
 |k::ord,af,L,Lq=> ∃o,l[k]? =some o∧(if fs.contains k=true then(∀i∈ord,fs.contains (i+2000)=true→ ∃oi,l[i]? =some oi∧oi.guard=none∧rE P oi af.eval (mk i))∧(if fs.contains (k+2000)=true then
  o.guard=none∧rE P o af.eval (mk k)∧ ∀x:(mk k).X,pN P l fs mk Q w0 ord (af.put o.dst ((mk k).v x)) ((mk k).e x::L) Lq
  else
   Region.wanted o (yielded l.toArray af.tmps)=true∧(∀w,Mem w0 L w→upon P w (fun v w'=> ∃L' fX,Mem w0 L' w'∧(∀w,Mem w0 L' w→Mem w0 fX w)∧(∀w,Mem w0 fX w→Mem w0 Lq w)∧(fs.contains (k+5000)=true→ ∀w,Mem w0 L' w→Mem w0 L w)∧pN P l fs mk Q w0 ord (af.put o.dst v) L' fX) ((execOp af.eval o).run P w))∧
   (fs.contains (k+4000)=true→ ∀e w,Mem w0 (e::L) w→upon P w (fun v w'=> ∃L' fX,Mem w0 (e::L') w'∧(∀w,Mem w0 L' w→Mem w0 fX w)∧(∀w,Mem w0 fX w→Mem w0 Lq w)∧(fs.contains (k+5000)=true→ ∀w,Mem w0 L' w→Mem w0 L w)∧pN P l fs mk Q w0 ord (af.put o.dst v) L' fX) ((execOp af.eval o).run P w)))
  else∃v,(Region.wanted o (yielded l.toArray af.tmps)=true→rn P o af (Mem w0 (if fs.contains (k+1000)=true then L else Lq)) v)∧(Region.wanted o (yielded l.toArray af.tmps)=false→v=undef)∧pN P l fs mk Q w0 ord (af.put o.dst v) L Lq)
def yB(o:Oper):List Nat:=(o.after.toList.filter fun e=>Region.binds .any e).map (·.on)
def D4(l:List Oper)(fs:List Nat)(A:List (List Nat))(prev seen:List Nat)(k:Nat)(o:Oper):Bool:=
 (!fs.contains k||fs.contains (k+2000)||fs.contains (k+5000)||(prev.all fun j=> !fs.contains (j+1000)||(A.getD k []).contains j))&&
 (match o.op with| .select .. =>false|_=>true)&&
 ((yB o).all fun j=>decide (j<k))&&
 (fs.contains (k+2000)||seen.all fun f=>(A.getD k []).contains f)&&
 ((A.getD k []).all fun f=>(yB o).any fun j=>j==f||(A.getD j []).contains f)&&
 ((List.range l.length).all fun j=>match dC l j with
  |none=>true
  |some d=>(!(o.looksAt l.toArray).contains d||(prev.contains j&&(yB o).contains j&&(!fs.contains (k+2000)|| !fs.contains j)))&&(j==k||o.dst !=some d))
def rF(l:List Oper)(fs:List Nat)(A:List (List Nat)):List Nat→List Nat→List Nat→Bool
 |_,_,[]=>true
 |prev,seen,k::ord=>(match l[k]?with|none=>false|some o=>D4 l fs A prev seen k o)&&(!fs.contains k||fs.contains (k+2000)||(ord.all fun j=> !fs.contains (j+2000))||(fs.contains (k+4000)&&decide ((ord.filter fun j=>fs.contains (j+2000)).length≤1)))&&rF l fs A (k::prev) (if fs.contains k then k::seen else seen) ord
def AS(l:List Oper)(fs:List Nat)(A:List (List Nat))(ord:List Nat):Bool:=
 ((List.range l.length).all fun j=>ord.contains j)&&decide ord.Nodup&&(ord.all fun j=>decide (j<l.length))&&(fs.all fun j=>decide (j<2000))&&rF l fs A [] [] ord
def AT(l:List Oper)(fs:List Nat)(A:List (List Nat))(ord:List Nat):Bool:=
 ((List.range l.length).all fun j=>ord.contains j)&&decide ord.Nodup&&(ord.all fun j=>decide (j<l.length))&&rF l fs A [] [] ord
structure D5(l:List Oper)(fs:List Nat)(A:List (List Nat))(prev seen:List Nat)(k:Nat)(o:Oper):Prop where
 tmp:fs.contains k=true→fs.contains (k+2000)=false→fs.contains (k+5000)=false→ ∀j∈prev,fs.contains (j+1000)=true→j∈A.getD k []
 sm: ∀cs b,o.op≠ .select cs b
 back: ∀e∈o.after,Region.binds .any e=true→e.on<k
 QG:fs.contains (k+2000)=false→ ∀f∈seen,f∈A.getD k []
 cert: ∀f∈A.getD k [],∃e∈o.after,Region.binds .any e=true∧(e.on=f∨f∈A.getD e.on [])
 reads: ∀j d,j<l.length→dC l j=some d→d∈o.looksAt l.toArray→j∈prev∧ ∃e∈o.after,Region.binds .any e=true∧e.on=j
 one: ∀j d,j<l.length→dC l j=some d→j≠k→o.dst≠some d
 QH:fs.contains (k+2000)=true→ ∀j d,j<l.length→dC l j=some d→d∈o.looksAt l.toArray→fs.contains j=false
theorem D6{o:Oper}{j:Nat}:j∈yB o↔ ∃e∈o.after,Region.binds .any e=true∧e.on=j:=by
 unfold yB
 simp only[List.mem_map,List.mem_filter]
 constructor
 ·
  rintro⟨e,⟨h1,h2⟩,h3⟩;exact⟨e,by simpa using h1,h2,h3⟩
 ·
  rintro⟨e,h1,h2,h3⟩;exact⟨e,⟨by simpa using h1,h2⟩,h3⟩
theorem QI{A:List (List Nat)}{prev seen:List Nat}{k:Nat}{o:Oper}(h:D4 l fs A prev seen k o=true):D5 l fs A prev seen k o:=by
 simp only[D4,Bool.and_eq_true]at h
 obtain⟨⟨⟨⟨⟨h0,h1⟩,h2⟩,h3⟩,h4⟩,h5⟩:=h
 refine⟨fun hk nS QJ j hj ht=>by
  rw[hk,nS,QJ,Bool.not_true,Bool.false_or,Bool.false_or,Bool.false_or]at h0
  have:=List.all_eq_true.1 h0 j hj
  rw[ht]at this
  simpa using this,fun cs b e=>by rw[e]at h1;simp at h1,fun e he hb=> ?_,fun fx f hf=> ?_,fun f hf=> ?_,fun j d hj hd hl=> ?_,fun j d hj hd cF=> ?_,fun hk j d hj hd hl=> ?_⟩
 ·
  have:=List.all_eq_true.1 h2 e.on (D6.2 ⟨e,he,hb,rfl⟩)
  simpa using this
 ·
  rw[fx,Bool.false_or]at h3
  have:=List.all_eq_true.1 h3 f hf
  simpa using this
 ·
  have:=List.all_eq_true.1 h4 f hf
  obtain⟨j,hj,dF⟩:=List.any_eq_true.1 this
  obtain⟨e,he,hb,rfl⟩:=D6.1 hj
  exact⟨e,he,hb,by simpa using dF⟩
 ·
  have:=List.all_eq_true.1 h5 j (List.mem_range.2 hj)
  rw[hd]at this
  simp only[Bool.and_eq_true,Bool.or_eq_true,Bool.not_eq_true']at this
  rcases this.1 with h6|h6
  ·
   exact absurd hl (by simpa using h6)
  ·
   exact⟨by simpa using h6.1.1,D6.1 (by simpa using h6.1.2)⟩
 ·
  have:=List.all_eq_true.1 h5 j (List.mem_range.2 hj)
  rw[hd]at this
  simp only[Bool.and_eq_true,Bool.or_eq_true,beq_iff_eq]at this
  rcases this.2 with h6|h6
  ·
   exact absurd h6 cF
  ·
   simpa using h6
 ·
  have:=List.all_eq_true.1 h5 j (List.mem_range.2 hj)
  rw[hd]at this
  simp only[Bool.and_eq_true,Bool.or_eq_true,Bool.not_eq_true']at this
  rcases this.1 with h6|h6
  ·
   exact absurd hl (by simpa using h6)
  ·
   rcases h6.2 with h7|h7
   ·
    rw[hk]at h7;cases h7
   ·
    exact h7
theorem sN{A:List (List Nat)}: ∀(ord prev seen:List Nat),rF l fs A prev seen ord=true→ ∀(x:List Nat) (k:Nat) (y:List Nat),ord=x++k::y→
  ∃o,l[k]? =some o∧D5 l fs A (x.reverse++prev) ((x.filter fun j=>fs.contains j).reverse++seen) k o∧(fs.contains k=true→fs.contains (k+2000)=false→(∀j∈y,fs.contains (j+2000)=false)∨(fs.contains (k+4000)=true∧(y.filter fun j=>fs.contains (j+2000)).length≤1))
 |[],_,_,_,x,k,y,e=>by simp at e
 |k0::ord,prev,seen,h,x,k,y,e=>by
  simp only[rF,Bool.and_eq_true]at h
  cases x with
  |nil=>
   simp only[List.nil_append,List.cons.injEq]at e
   obtain⟨rfl,rfl⟩:=e
   cases ho:l[k0]?with
   |none=>rw[ho]at h;simp at h
   |some o=>
    rw[ho]at h
    refine⟨o,rfl,by simpa using QI h.1.1,fun h1 h2=> ?_⟩
    have h3:=h.1.2
    rw[h1,h2]at h3
    simp only[Bool.not_true,Bool.false_or,Bool.or_eq_true,Bool.and_eq_true,decide_eq_true_eq]at h3
    refine h3.imp (fun h4 j hj=> ?_) id
    have:=List.all_eq_true.1 h4 j hj
    simpa using this
  |cons x0 x=>
   simp only[List.cons_append,List.cons.injEq]at e
   obtain⟨rfl,rfl⟩:=e
   obtain⟨o,ho,hk,hy⟩:=sN _ _ _ h.2 x k y rfl
   refine⟨o,ho,?_,hy⟩
   have e1:(k0::x).reverse++prev=x.reverse++(k0::prev):=by simp
   have e2:(((k0::x).filter fun j=>fs.contains j).reverse++seen)=(x.filter fun j=>fs.contains j).reverse++(if fs.contains k0 then k0::seen else seen):=by
    cases hc:fs.contains k0 with
    |true=>
     rw[List.filter_cons,if_pos hc,List.reverse_cons,List.append_assoc];rfl
    |false=>
     rw[List.filter_cons,if_neg (by rw[hc];exact Bool.false_ne_true)];rfl
   rw[e1,e2];exact hk
def nj(N0 d:Nat)(v:Value)(a:Act):Prop:=a.tmps[d]? =if d<N0 then some v else none
theorem wc{N0 d:Nat}{v:Value}{a:Act}(h:a.tmps.size=N0):nj N0 d v (a.put (some d) v):=by
 subst h
 unfold nj
 simp[Act.put,Array.getElem?_setIfInBounds]
def D7(P:Program)(l:List Oper)(w0:World)(N0 k:Nat)(af:Act)(Lq:List aj):Prop:=
 ∃o v,l[k]? =some o∧(∀d,o.dst=some d→nj N0 d v af)∧(Region.wanted o (yielded l.toArray af.tmps)=true→rn P o af (Mem w0 Lq) v)∧(Region.wanted o (yielded l.toArray af.tmps)=false→v=undef)
def Early(l:List Oper)(fs:List Nat)(mk:Nat→mu)(N0:Nat)(gI:List Nat)(bj:Array Bool)(a:Act)(e:Nat×aj):Prop:=
 e.1∈gI∧bj.getD e.1 true=true∧fs.contains e.1=true∧fs.contains (e.1+2000)=true∧ ∃o,∃x:(mk e.1).X,l[e.1]? =some o∧e.2=(mk e.1).e x∧ ∀d,o.dst=some d→nj N0 d ((mk e.1).v x) a
structure Core(P:Program)(l:List Oper)(fs:List Nat)(mk:Nat→mu)(Q:Exit→Act→World→Prop)(w0:World)(ord:List Nat)(a0:Act)(pre gI:List Nat)(af:Act)(L Lq:List aj)(E:List (Nat×aj))(bj:Array Bool)(a:Act)(w:World):Prop where
 ord:ord=pre++gI
 inv:HeadInv .any l.toArray l.length bj
 mem:Mem w0 (E.map (·.2)++L) w
 nY: ∀e∈E,Early l fs mk a0.tmps.size gI bj a e
 keys:(E.map (·.1)).Nodup
 we: ∀w,Mem w0 L w→Mem w0 Lq w
 uy:pN P l fs mk Q w0 gI af L Lq
 size:a.tmps.size=a0.tmps.size
 oB:af.tmps.size=a0.tmps.size
 defers:a.defers=a0.defers
 qp:af.defers=a0.defers
 sub: ∀j,j<l.length→bj.getD j true=true→j∈pre∨j∈E.map (·.1)
 fresh: ∀j∈pre,fs.contains j=true→bj.getD j true=true
 sO: ∀j∈pre,bj.getD j true=false→D7 P l w0 a0.tmps.size j af (if fs.contains (j+1000)=true then L else Lq)
 done: ∀j d,j<l.length→bj.getD j true=true→j∈pre→dC l j=some d→a.tmps[d]? =af.tmps[d]?
 rest: ∀d,(∀j,j<l.length→bj.getD j true=true→dC l j≠some d)→a.tmps[d]? =a0.tmps[d]?
 full: ∀d,(∀j∈pre,dC l j≠some d)→af.tmps[d]? =a0.tmps[d]?
variable {A:List (List Nat)} {ord:List Nat} {a0:Act}
theorem yC{o:Oper}(hn: ∀cs b,o.op≠ .select cs b){a b:Act}(h: ∀t∈o.looksAt l.toArray,a.tmps[t]? =b.tmps[t]?):
  execOp a.eval o=execOp b.eval o∧Region.wanted o (yielded l.toArray a.tmps)=Region.wanted o (yielded l.toArray b.tmps):=
 ⟨execOp_congr o hn (Dz h),HV h⟩
theorem IX{o:Oper}{a b:Act}{C D:World→Prop}{v:Value}(e:execOp a.eval o=execOp b.eval o)(hD: ∀w,D w→C w)(h:rn P o a C v):rn P o b D v:=fun w hw=>by
 have:=h w (hD w hw)
 unfold Oper.quietAt at this⊢
 rw[←e];exact this
theorem wg{pre gI:List Nat}{i k N0:Nat}{af:Act}{Lq fX:List aj}{oi:Oper}{u:Value}(hB:rF l fs A [] [] ord=true)(cy:ord.Nodup)(bt: ∀j∈ord,j<l.length)(ho:ord=pre++i::gI)(tW:l[i]? =some oi)(hk:k∈pre)(hq: ∀w,Mem w0 fX w→Mem w0 Lq w)
  (h:D7 P l w0 N0 k af Lq):D7 P l w0 N0 k (af.put oi.dst u) fX:=by
 obtain⟨o,v,h1,h2,h3,h4⟩:=h
 obtain⟨x,y,rfl⟩:=List.append_of_mem hk
 have nf:ord=x++k::(y++i::gI):=by rw[ho];simp
 obtain⟨o',nk,bM,-⟩:=sN ord [] [] hB x k _ nf
 have:o'=o:=by rw[h1]at nk;exact(Option.some.inj nk).symm
 subst this
 have ft:i<l.length:=(List.getElem?_eq_some_iff.1 tW).1
 have ko:dC l i=oi.dst:=by simp[dC,tW]
 have nn:i≠k:=fun e=>by
  subst e
  rw[nf]at cy
  have:=(List.nodup_append.1 cy).2.1
  exact(List.nodup_cons.1 this).1 (by simp)
 have IY:i∉x:=fun hx=>by
  rw[nf]at cy
  exact(List.nodup_append.1 cy).2.2 i hx i (by simp) rfl
 have D8: ∀t∈o'.looksAt l.toArray,af.tmps[t]? =(af.put oi.dst u).tmps[t]? :=fun t ht=>by
  refine(jg _ _ _ _ fun e=> ?_).symm
  obtain⟨hp,_⟩:=bM.reads i t ft (by rw[ko];exact e) ht
  rw[List.append_nil,List.mem_reverse]at hp
  exact IY hp
 obtain⟨e1,e2⟩:=yC bM.sm D8
 refine⟨o',v,h1,fun d hd=> ?_,fun hw=>IX e1 hq (h3 (by rw[e2];exact hw)),fun hw=>h4 (by rw[e2];exact hw)⟩
 have:=h2 d hd
 unfold nj at this⊢
 rw[jg _ _ _ _ fun e=> ?_]
 ·
  exact this
 ·
  exact bM.one i d ft (by rw[ko];exact e) nn hd
theorem QK{E:List (Nat×aj)}{k:Nat}(h:k∈E.map (·.1)): ∃E1 x E2,E=E1++(k,x)::E2:=by
 obtain⟨e,he,rfl⟩:=List.mem_map.1 h
 obtain⟨E1,E2,rfl⟩:=List.append_of_mem he
 exact⟨E1,e.2,E2,rfl⟩
theorem AU(hB:rF l fs A [] [] ord=true)(cy:ord.Nodup)(bt: ∀j∈ord,j<l.length): ∀(gI pre:List Nat) (af:Act) {L Lq:List aj} {E:List (Nat×aj)} {bj:Array Bool} {a:Act} {w:World},Core P l fs mk Q w0 ord a0 pre gI af L Lq E bj a w→
  ∃QL D9 QM L' E',Core P l fs mk Q w0 ord a0 QL D9 QM L' Lq E' bj a w∧(D9=[]∨ ∃f r,D9=f::r∧fs.contains f=true∧f∉E'.map (·.1))
 |[],pre,af,L,_,E,_,_,_,H=>⟨pre,[],af,L,E,H, .inl rfl⟩
 |k::gI,pre,af,L,Lq,E,bj,a,w,H=>by
  have oM:k∉pre:=fun h=>by
   have np:=cy
   rw[H.ord]at np
   exact(List.nodup_append.1 np).2.2 k h k (by simp) rfl
  have gZ: ∀j,j∈pre→j≠k:=fun j hj e=>oM (e▸hj)
  have hks:k∉gI:=fun h=>by
   have np:=cy
   rw[H.ord]at np
   exact(List.nodup_cons.1 (List.nodup_append.1 np).2.1).1 h
  obtain⟨o',pO,bM,-⟩:=sN ord [] [] hB pre k gI H.ord
  have yD:k<l.length:=(List.getElem?_eq_some_iff.1 pO).1
  have AV:dC l k=o'.dst:=by simp[dC,pO]
  cases hf:fs.contains k with
  |true=>
   by_cases hE:k∈E.map (·.1)
   ·
    obtain⟨E1,x,E2,rfl⟩:=QK hE
    obtain⟨_,eX,_,fx,oe,b,IZ,hx,nq⟩:=H.nY (k,x) (by simp)
    simp only at eX fx IZ hx nq
    have e0:oe=o':=by rw[IZ]at pO;exact Option.some.inj pO
    subst e0
    obtain⟨o,nk,hl⟩:=H.uy
    rw[if_pos hf,if_pos fx]at hl
    have e1:o=oe:=by rw[nk]at pO;exact Option.some.inj pO
    subst e1
    obtain⟨_,_,_,wh⟩:=hl
    have QN:(((E1++(k,x)::E2).map (·.2))++L).Perm (((E1++E2).map (·.2))++x::L):=by
     simp only[List.map_append,List.map_cons,List.append_assoc,List.cons_append]
     exact List.Perm.append_left _ (List.perm_middle.symm)
    have Ea:=H.keys
    simp only[List.map_append,List.map_cons]at Ea
    have QO: ∀e∈E1++E2,e.1≠k:=fun e he e2=>by
     obtain⟨n1,n2,n3⟩:=List.nodup_append.1 Ea
     rcases List.mem_append.1 he with h|h
     ·
      exact n3 e.1 (List.mem_map_of_mem h) k (by simp) e2
     ·
      exact(List.nodup_cons.1 n2).1 (e2▸List.mem_map_of_mem h)
    refine AU hB cy bt gI (pre++[k]) (af.put o.dst ((mk k).v b)) (L:=x::L) (E:=E1++E2) ⟨by rw[H.ord];simp,H.inv,H.mem.perm QN,fun e he=> ?_,?_,fun w hw=>H.we w (hw.sub (List.sublist_cons_self _ _)),by rw[hx];exact wh b,H.size,by rw[qm];exact H.oB,H.defers,by rw[qn];exact H.qp,fun j hj hl=> ?_,fun j hj pD=> ?_,fun j hj hl=> ?_,fun j d hj hl qC hd=> ?_,H.rest,fun d hd=> ?_⟩
    ·
     have hm:e∈E1++(k,x)::E2:=by
      rcases List.mem_append.1 he with h|h
      ·
       exact List.mem_append_left _ h
      ·
       exact List.mem_append_right _ (List.mem_cons_of_mem _ h)
     obtain⟨g1,g2⟩:=H.nY e hm
     exact⟨(List.mem_cons.1 g1).resolve_left (QO e he),g2⟩
    ·
     rw[List.map_append]
     exact Ea.sublist (List.Sublist.append_left (List.sublist_cons_self _ _) _)
    ·
     rcases H.sub j hj hl with h|h
     ·
      exact .inl (List.mem_append_left _ h)
     ·
      simp only[List.map_append,List.map_cons,List.mem_append,List.mem_cons]at h
      rcases h with h|h|h
      ·
       exact .inr (by simp only[List.map_append,List.mem_append];exact .inl h)
      ·
       exact .inl (by rw[h];simp)
      ·
       exact .inr (by simp only[List.map_append,List.mem_append];exact .inr h)
    ·
     rcases List.mem_append.1 hj with h|h
     ·
      exact H.fresh j h pD
     ·
      obtain rfl:=List.mem_singleton.1 h;exact eX
    ·
     rcases List.mem_append.1 hj with h|h
     ·
      have hp:=H.sO j h hl
      cases uz:fs.contains (j+1000)with
      |true=>
       rw[uz]at hp
       simp only[if_true]at hp⊢
       exact wg hB cy bt H.ord nk h (fun w hw=>hw.sub (List.sublist_cons_self _ _)) hp
      |false=>
       rw[uz]at hp
       simp only[Bool.false_eq_true,if_false]at hp⊢
       exact wg hB cy bt H.ord nk h (fun _ h=>h) hp
     ·
      obtain rfl:=List.mem_singleton.1 h
      rw[eX]at hl;cases hl
    ·
     rcases List.mem_append.1 qC with h|h
     ·
      rw[jg _ _ _ _ (bM.one j d hj hd (gZ j h))]
      exact H.done j d hj hl h hd
     ·
      obtain rfl:=List.mem_singleton.1 h
      rw[AV]at hd
      have h3:=nq d hd
      rw[hd]
      have h4:nj a0.tmps.size d ((mk j).v b) (af.put (some d) ((mk j).v b)):=wc H.oB
      unfold nj at h3 h4
      rw[h3,h4]
    ·
     rw[jg _ _ _ _ (by have:=hd k (by simp);rwa [AV]at this)]
     exact H.full d fun j hj=>hd j (List.mem_append_left _ hj)
   ·
    exact⟨pre,k::gI,af,L,E,H, .inr ⟨k,gI,rfl,hf,hE⟩⟩
  |false=>
   obtain⟨o,nk,hl⟩:=H.uy
   rw[if_neg (by rw[hf];exact Bool.false_ne_true)]at hl
   obtain⟨v,h1,h2,h3⟩:=hl
   have:o'=o:=by rw[nk]at pO;exact(Option.some.inj pO).symm
   subst this
   have D8: ∀t∈o'.looksAt l.toArray,af.tmps[t]? =(af.put o'.dst v).tmps[t]? :=fun t ht=>by
    refine(jg _ _ _ _ fun e=> ?_).symm
    obtain⟨hp,_⟩:=bM.reads k t yD (by rw[AV];exact e) ht
    rw[List.append_nil,List.mem_reverse]at hp
    exact oM hp
   obtain⟨e1,e2⟩:=yC bM.sm D8
   refine AU hB cy bt gI (pre++[k]) (af.put o'.dst v) ⟨by rw[H.ord];simp,H.inv,H.mem,fun e he=> ?_,H.keys,H.we,h3,H.size,by rw[qm];exact H.oB,H.defers,by rw[qn];exact H.qp,fun j hj hl=>(H.sub j hj hl).imp_left fun h=>List.mem_append_left _ h,fun j hj pD=> ?_,fun j hj hl=> ?_,fun j d hj hl qC hd=> ?_,H.rest,fun d hd=> ?_⟩
   ·
    obtain⟨g1,g2,g3,g4⟩:=H.nY e he
    exact⟨(List.mem_cons.1 g1).resolve_left (fun e2=>by rw[e2,hf]at g3;cases g3),g2,g3,g4⟩
   ·
    rcases List.mem_append.1 hj with h|h
    ·
     exact H.fresh j h pD
    ·
     obtain rfl:=List.mem_singleton.1 h
     rw[hf]at pD;cases pD
   ·
    rcases List.mem_append.1 hj with h|h
    ·
     exact wg hB cy bt H.ord nk h (fun _ h=>h) (H.sO j h hl)
    ·
     obtain rfl:=List.mem_singleton.1 h
     refine⟨o',v,nk,fun d hd=>by rw[hd];exact wc H.oB,fun hw=>IX e1 (fun _ h=>h) (h1 (by rw[e2];exact hw)),fun hw=>h2 (by rw[e2];exact hw)⟩
   ·
    rcases List.mem_append.1 qC with h|h
    ·
     rw[jg _ _ _ _ (bM.one j d hj hd (gZ j h))]
     exact H.done j d hj hl h hd
    ·
     obtain rfl:=List.mem_singleton.1 h
     rcases H.sub j hj hl with h5|h5
     ·
      exact absurd h5 oM
     ·
      obtain⟨e,he,QP⟩:=List.mem_map.1 h5
      obtain⟨_,_,g3,_⟩:=H.nY e he
      rw[QP,hf]at g3;cases g3
   ·
    rw[jg _ _ _ _ (by have:=hd k (by simp);rwa [AV]at this)]
    exact H.full d fun j hj=>hd j (List.mem_append_left _ hj)
theorem I0{x p1 y y':List Nat}{i:Nat}(hn:(p1++i::y').Nodup)(h:x++i::y=p1++i::y'):x=p1:=by
 induction x generalizing p1 with
 |nil=>
  cases p1 with
  |nil=>rfl
  |cons q p1=>
   simp only[List.nil_append,List.cons_append,List.cons.injEq]at h
   obtain⟨rfl,_⟩:=h
   exact absurd (by simp) (List.nodup_cons.1 hn).1
 |cons c x ih=>
  cases p1 with
  |nil=>
   simp only[List.nil_append,List.cons_append,List.cons.injEq]at h
   obtain⟨rfl,h2⟩:=h
   rw[←h2]at hn
   exact absurd (by simp) (List.nodup_cons.1 hn).1
  |cons q p1=>
   simp only[List.cons_append,List.cons.injEq]at h
   obtain⟨rfl,h2⟩:=h
   rw[ih (List.nodup_cons.1 hn).2 h2]
theorem I1{bj:Array Bool}(hB:rF l fs A [] [] ord=true)(gO: ∀j,j<l.length→j∈ord)(inv:HeadInv .any l.toArray l.length bj): ∀(k:Nat) (o:Oper),l[k]? =some o→(∀e∈o.after,Region.binds .any e=true→bj.getD e.on false=true)→
  ∀f∈A.getD k [],bj.getD f false=true:=by
 intro k
 induction k using Nat.strongRecOn with
 |_ k ih=>
  intro o nk hd f hf
  obtain⟨x,y,hx⟩:=List.append_of_mem (gO k (List.getElem?_eq_some_iff.1 nk).1)
  obtain⟨o',pO,bM,-⟩:=sN ord [] [] hB x k y hx
  have:o'=o:=by rw[nk]at pO;exact(Option.some.inj pO).symm
  subst this
  obtain⟨e,he,hb,h⟩:=bM.cert f hf
  have hl:=hd e he hb
  rcases h with rfl|h
  ·
   exact hl
  ·
   have bt:=bM.back e he hb
   have AW:e.on<l.length:=by have:=(List.getElem?_eq_some_iff.1 nk).1;omega
   exact ih e.on bt l[e.on] (by simp[AW]) (inv.closed e.on _ (by simp[AW]) hl) f h
theorem AX{bj:Array Bool}{i:Nat}(hi:i<bj.size)(h:bj.getD i false=true):bj.getD i true=true:=by
 simp[hi]at h⊢;exact h
theorem AY(hB:rF l fs A [] [] ord=true)(cy:ord.Nodup)(bt: ∀j∈ord,j<l.length)(gO: ∀j,j<l.length→j∈ord)(wi: ∀k,k<l.length→fs.contains k=false→fs.contains (k+2000)=false):
  ∀(m:Nat) (pre gI:List Nat) (af:Act) (L Lq:List aj) (E:List (Nat×aj)) (bj:Array Bool) (a:Act) (w:World),left l.length bj=m→Core P l fs mk Q w0 ord a0 pre gI af L Lq E bj a w→wpAny P .any l.toArray Q m bj a w
 |0,Eb,Ec,Ed,L0,Lq,E0,bj,a,w,hm,H0=>by
  obtain⟨pre,gI,af,L,E,H,Ee⟩:=AU hB cy bt Ec Eb Ed H0
  have iD: ∀j,j<l.length→bj.getD j true=true:=fun j hj=>by
   cases h:bj.getD j true with
   |true=>rfl
   |false=>
    have:j∈(List.range l.length).filter fun i=> !bj.getD i true:=List.mem_filter.2 ⟨List.mem_range.2 hj,by rw[h];rfl⟩
    rw[List.length_eq_zero_iff.1 hm]at this
    cases this
  have hr:Region.ready .any l.toArray bj=[]:=by
   refine List.eq_nil_iff_forall_not_mem.2 fun i hi=> ?_
   obtain⟨h1,o,h2,_⟩:=mem_ready.1 hi
   rw[iD i (by have:=(Array.getElem?_eq_some_iff.1 h2).1;simpa using this)]at h1;cases h1
  have Ef:gI=[]:=by
   rcases Ee with h|⟨k,r,hs,_,hE⟩
   ·
    exact h
   ·
    exfalso
    have hk:k∈ord:=by rw[H.ord,hs];simp
    rcases H.sub k (bt k hk) (iD k (bt k hk))with this|this
    ·
     have np:=cy
     rw[H.ord,hs]at np
     exact absurd rfl ((List.nodup_append.1 np).2.2 k this k (by simp))
    ·
     exact hE this
  have hE:E=[]:=List.eq_nil_iff_forall_not_mem.2 fun e he=>by
   have:=(H.nY e he).1
   rw[Ef]at this;cases this
  have wh:=H.uy
  rw[Ef]at wh
  have Eg:=H.ord
  rw[Ef,List.append_nil]at Eg
  have e1:a=af:=by
   have:a.tmps=af.tmps:=by
    apply Array.ext_getElem?
    intro d
    by_cases hw: ∃j,j<l.length∧dC l j=some d
    ·
     obtain⟨j,hj,hd⟩:=hw
     exact H.done j d hj (iD j hj) (by rw[←Eg];exact gO j hj) hd
    ·
     have h1: ∀j,j<l.length→dC l j≠some d:=fun j hj hd=>hw ⟨j,hj,hd⟩
     rw[H.rest d fun j hj _=>h1 j hj,H.full d fun j hj=>h1 j (bt j (by rw[Eg];exact hj))]
   have h2:a.defers=af.defers:=by rw[H.defers,H.qp]
   cases a;cases af
   simp_all
  subst e1
  have mv:=H.mem
  rw[hE]at mv
  exact⟨hr,wh w (by simpa using mv)⟩
 |m+1,Eb,Ec,Ed,L0,Lq,E0,bj,a,w,hm,H0=>by
  obtain⟨pre,gI,af,L,E,H,Ee⟩:=AU hB cy bt Ec Eb Ed H0
  have I2:Mem w0 L w:=H.mem.sub (List.sublist_append_right _ _)
  obtain⟨i0,xY,Am,xZ⟩: ∃i,i<l.length∧bj.getD i true=false∧ ∀j,j<i→bj.getD j true=true:=by
   have cF: ∃i,i<l.length∧bj.getD i true=false:=by
    cases hf:(List.range l.length).filter fun i=> !bj.getD i true with
    |nil=>rw[left,hf]at hm;cases hm
    |cons i r=>
     have:i∈(List.range l.length).filter fun i=> !bj.getD i true:=by rw[hf];simp
     obtain⟨h1,h2⟩:=List.mem_filter.1 this
     exact⟨i,List.mem_range.1 h1,by simpa using h2⟩
   obtain⟨i,h1,h2⟩:=cF
   induction i using Nat.strongRecOn with
   |_ i ih=>
    by_cases h: ∃j,j<i∧bj.getD j true=false
    ·
     obtain⟨j,hj,dF⟩:=h
     exact ih j hj (by omega) dF
    ·
     refine⟨i,h1,h2,fun j hj=> ?_⟩
     cases hh:bj.getD j true with
     |true=>rfl
     |false=>exact absurd ⟨j,hj,hh⟩ h
  have fv:bj.size=l.length:=by simpa using H.inv.size
  have ok: ∀k,k<l.length→ ∃x y o,ord=x++k::y∧l[k]? =some o∧D5 l fs A (x.reverse++[]) ((x.filter fun j=>fs.contains j).reverse++[]) k o:=fun k hk=>by
   obtain⟨x,y,hx⟩:=List.append_of_mem (gO k hk)
   obtain⟨o,ho,bM,-⟩:=sN ord [] [] hB x k y hx
   exact⟨x,y,o,hx,ho,bM⟩
  have x4:i0∈Region.ready .any l.toArray bj:=by
   obtain⟨x,y,o,_,ho,bM⟩:=ok i0 xY
   refine mem_ready.2 ⟨Am,o,by simpa using ho,fun e he hb=> ?_⟩
   have h1:=bM.back e he hb
   have h2:=xZ e.on h1
   have h3:e.on<bj.size:=by omega
   simp[h3]at h2⊢;exact h2
  refine⟨fun h=>(by rw[h]at x4;cases x4),fun i hi=> ?_⟩
  obtain⟨gZ,o',nf,oC⟩:=mem_ready.1 hi
  have rG:i<l.length:=by have:=(Array.getElem?_eq_some_iff.1 nf).1;simpa using this
  obtain⟨x,y,o,hx,ho,bM⟩:=ok i rG
  have:o'=o:=by simpa[ho]using nf.symm
  subst this
  have qq:left l.length (bj.setIfInBounds i true)=m:=by have:=HX rG gZ;omega
  have ko:dC l i=o'.dst:=by simp[dC,ho]
  have gJ: ∀j,j≠i→(bj.setIfInBounds i true).getD j true=bj.getD j true:=fun j cA=>getD_set_ne true (Ne.symm cA)
  have nO:(bj.setIfInBounds i true).getD i true=true:=by simp[show i<bj.size by omega]
  have qD: ∀j d,j<l.length→dC l j=some d→j≠i→o'.dst≠some d:=bM.one
  have I3:(∀j∈x,j∈pre)→ ∀t∈o'.looksAt l.toArray,a.tmps[t]? =af.tmps[t]? :=fun jV t ht=>by
   by_cases hw: ∃j,j<l.length∧dC l j=some t
   ·
    obtain⟨j,hj,hd⟩:=hw
    obtain⟨oA,e,he,hb,dO⟩:=bM.reads j t hj hd ht
    have hl:=oC e he hb
    rw[dO]at hl
    rw[List.append_nil,List.mem_reverse]at oA
    exact H.done j t hj (AX (by omega) hl) (jV j oA) hd
   ·
    have h1: ∀j,j<l.length→dC l j≠some t:=fun j hj hd=>hw ⟨j,hj,hd⟩
    rw[H.rest t fun j hj _=>h1 j hj,H.full t fun j hj=>h1 j (bt j (by rw[H.ord];exact List.mem_append_left _ hj))]
  by_cases pP:i∈pre
  ·
   have jV: ∀j∈x,j∈pre:=fun j hj=>by
    obtain⟨p1,p2,hp⟩:=List.append_of_mem pP
    have h1:=H.ord
    rw[hp,hx,List.append_assoc,List.cons_append]at h1
    have yE:=cy
    rw[hx]at yE
    have h2:x=p1:=I0 (h1▸yE) h1
    rw[hp,←h2];exact List.mem_append_left _ hj
   obtain⟨ee,ew⟩:=yC bM.sm (I3 jV)
   obtain⟨op,v,dG,QQ,AZ,QR⟩:=H.sO i pP gZ
   have:op=o':=by rw[ho]at dG;exact(Option.some.inj dG).symm
   subst this
   have ji:fs.contains i=false:=by
    cases h:fs.contains i with
    |false=>rfl
    |true=>have:=H.fresh i pP h;rw[gZ]at this;cases this
   have next: ∀w',Mem w [] w'→wpAny P .any l.toArray Q m (bj.setIfInBounds i true) (a.put op.dst v) w':=fun w' gH=>by
    refine AY hB cy bt gO wi m pre gI af L Lq E _ _ w' qq ⟨H.ord,H.inv.set hi rG,by simpa using H.mem.call gH,fun e he=> ?_,H.keys,H.we,H.uy,by rw[qm];exact H.size,H.oB,by rw[qn];exact H.defers,H.qp,fun j hj hl=> ?_,fun j hj hf=> ?_,fun j hj hl=> ?_,fun j d hj hl qC hd=> ?_,fun d hd=> ?_,H.full⟩
    ·
     obtain⟨g1,g2,g3,g4,oe,b,g5,g7,g8⟩:=H.nY e he
     have yF:e.1≠i:=fun e2=>by
      have np:=cy
      rw[H.ord]at np
      exact(List.nodup_append.1 np).2.2 i pP e.1 g1 e2.symm
     refine⟨g1,by rw[gJ _ yF];exact g2,g3,g4,oe,b,g5,g7,fun d hd=> ?_⟩
     have:=g8 d hd
     unfold nj at this⊢
     rw[jg _ _ _ _ (qD e.1 d (List.getElem?_eq_some_iff.1 g5).1 (by simp[dC,g5,hd]) yF)]
     exact this
    ·
     by_cases cA:j=i
     ·
      subst cA;exact .inl pP
     ·
      exact H.sub j hj (by rw[←gJ j cA];exact hl)
    ·
     rw[gJ j (fun e=>by subst e;rw[ji]at hf;cases hf)];exact H.fresh j hj hf
    ·
     exact H.sO j hj (by rw[←gJ j (fun e=>by subst e;rw[nO]at hl;cases hl)];exact hl)
    ·
     by_cases cA:j=i
     ·
      subst cA
      rw[ko]at hd
      have h2:=QQ d hd
      rw[hd]
      have h3:nj a0.tmps.size d v (a.put (some d) v):=wc H.size
      unfold nj at h2 h3
      rw[h2,h3]
     ·
      rw[gJ j cA]at hl
      rw[jg _ _ _ _ (qD j d hj hd cA)]
      exact H.done j d hj hl qC hd
    ·
     have h1:op.dst≠some d:=by
      have:=hd i rG nO
      rwa [ko]at this
     rw[jg _ _ _ _ h1]
     refine H.rest d fun j hj hl=> ?_
     by_cases cA:j=i
     ·
      subst cA;rw[ko];exact h1
     ·
      exact hd j hj (by rw[gJ j cA];exact hl)
   unfold wpOp
   simp only[nf]
   rw[ew]
   split
   ·
    rename_i nP
    have h1:=AZ nP w (by
     split
     ·
      exact I2
     ·
      exact H.we w I2)
    refine .inl ?_
    unfold Oper.wp
    rw[ee]
    unfold Oper.quietAt at h1
    generalize(execOp af.eval op).run P w=r at h1
    unfold Oper.quietUpon at h1
    split at h1
    ·
     obtain⟨rfl,rfl⟩:=h1;exact next _ (Mem.init _)
    ·
     obtain⟨rfl,e⟩:=h1;rw[e]at next;exact next _ (Mem.init _)
    ·
     obtain⟨rfl,rr⟩:=h1
     exact rr.mono fun e nM ⟨he,hm⟩=>by subst he;exact next _ hm
    ·
     exact h1.elim
   ·
    rename_i nP
    have:=QR (by simpa using nP)
    rw[this]at next
    exact next w (Mem.init _)
  ·
   have Eh:i∈gI:=by
    have:=gO i rG
    rw[H.ord]at this
    exact(List.mem_append.1 this).resolve_left pP
   rcases Ee with rfl|⟨f,r,rfl,yG,yH⟩
   ·
    cases Eh
   have QS: ∀(v:Value) (j d:Nat),j<l.length→(bj.setIfInBounds i true).getD j true=true→j∈pre→dC l j=some d→(a.put o'.dst v).tmps[d]? =af.tmps[d]? :=fun v j d hj hl qC hd=>by
    have cA:j≠i:=fun e=>pP (e▸qC)
    rw[gJ j cA]at hl
    rw[jg _ _ _ _ (qD j d hj hd cA)]
    exact H.done j d hj hl qC hd
   have A0: ∀(v:Value) (d:Nat),(∀j,j<l.length→(bj.setIfInBounds i true).getD j true=true→dC l j≠some d)→(a.put o'.dst v).tmps[d]? =a0.tmps[d]? :=fun v d hd=>by
    have h1:o'.dst≠some d:=by
     have:=hd i rG nO
     rwa [ko]at this
    rw[jg _ _ _ _ h1]
    refine H.rest d fun j hj hl=> ?_
    by_cases cA:j=i
    ·
     subst cA;rw[ko];exact h1
    ·
     exact hd j hj (by rw[gJ j cA];exact hl)
   have Ei:i∉E.map (·.1):=fun h=>by
    obtain⟨e,he,rfl⟩:=List.mem_map.1 h
    have:=(H.nY e he).2.1
    rw[gZ]at this;cases this
   have I4: ∀(v:Value),∀e∈E,Early l fs mk a0.tmps.size (f::r) (bj.setIfInBounds i true) (a.put o'.dst v) e:=fun v e he=>by
    obtain⟨g1,g2,g3,g4,oe,b,g5,g7,g8⟩:=H.nY e he
    have yF:e.1≠i:=fun e2=>Ei (e2▸List.mem_map_of_mem he)
    refine⟨g1,by rw[gJ _ yF];exact g2,g3,g4,oe,b,g5,g7,fun d hd=> ?_⟩
    have:=g8 d hd
    unfold nj at this⊢
    rw[jg _ _ _ _ (qD e.1 d (List.getElem?_eq_some_iff.1 g5).1 (by simp[dC,g5,hd]) yF)]
    exact this
   by_cases I5:i=f
   ·
    subst I5
    have jV: ∀j∈x,j∈pre:=fun j hj=>by
     have h1:=H.ord
     rw[hx]at h1
     have yE:=cy
     rw[hx]at yE
     have h2:x=pre:=I0 (h1▸yE) h1
     rw[←h2];exact hj
    obtain⟨ee,ew⟩:=yC bM.sm (I3 jV)
    obtain⟨of,oD,hl⟩:=H.uy
    have:of=o':=by rw[ho]at oD;exact(Option.some.inj oD).symm
    subst this
    rw[if_pos yG]at hl
    replace hl:=hl.2
    have next: ∀v w' E' L' fX,E'=E→(∀e∈E,e.1∈r)→Mem w0 (E'.map (·.2)++L') w'→(∀w,Mem w0 L' w→Mem w0 fX w)→(∀w,Mem w0 fX w→Mem w0 Lq w)→(fs.contains (i+2000)=true∨fs.contains (i+5000)=true→ ∀w,Mem w0 L' w→Mem w0 L w)→pN P l fs mk Q w0 r (af.put of.dst v) L' fX→wpAny P .any l.toArray Q m (bj.setIfInBounds i true) (a.put of.dst v) w':=fun v w' E' L' fX uA uB g1 g2 g3 I6 g4=>by
     subst uA
     refine AY hB cy bt gO wi m (pre++[i]) r (af.put of.dst v) L' fX E' _ _ w' qq ⟨by rw[H.ord];simp,H.inv.set hi rG,g1,fun e he=> ?_,H.keys,g2,g4,by rw[qm];exact H.size,by rw[qm];exact H.oB,by rw[qn];exact H.defers,by rw[qn];exact H.qp,fun j hj lO=> ?_,fun j hj hf=> ?_,fun j hj lO=> ?_,fun j d hj lO qC hd=> ?_,A0 v,fun d hd=> ?_⟩
     ·
      obtain⟨g1',QT⟩:=I4 v e he
      exact⟨uB e he,QT⟩
     ·
      by_cases cA:j=i
      ·
       subst cA;exact .inl (by simp)
      ·
       exact(H.sub j hj (by rw[←gJ j cA];exact lO)).imp_left fun h=>List.mem_append_left _ h
     ·
      rcases List.mem_append.1 hj with h|h
      ·
       by_cases cA:j=i
       ·
        subst cA;exact nO
       ·
        rw[gJ j cA];exact H.fresh j h hf
      ·
       obtain rfl:=List.mem_singleton.1 h;exact nO
     ·
      rcases List.mem_append.1 hj with h|h
      ·
       have cA:j≠i:=fun e=>pP (e▸h)
       cases uz:fs.contains (j+1000)with
       |true=>
        cases nZ:fs.contains (i+2000)with
        |true=>
         have hp:=H.sO j h (by rw[←gJ j cA];exact lO)
         rw[uz]at hp
         simp only[if_true]at hp⊢
         exact wg hB cy bt H.ord ho h (I6 (.inl nZ)) hp
        |false=>
         cases h5:fs.contains (i+5000)with
         |true=>
          have hp:=H.sO j h (by rw[←gJ j cA];exact lO)
          rw[uz]at hp
          simp only[if_true]at hp⊢
          exact wg hB cy bt H.ord ho h (I6 (.inr h5)) hp
         |false=>
          exfalso
          obtain⟨oi,sr,A1,-⟩:=sN ord [] [] hB pre i r H.ord
          have e1:oi=of:=by rw[ho]at sr;exact(Option.some.inj sr).symm
          subst e1
          have QU:=A1.tmp yG nZ h5 j (by rw[List.append_nil,List.mem_reverse];exact h) uz
          have jf:=I1 hB gO H.inv i oi ho oC j QU
          have QV:j∈ord:=by rw[H.ord];exact List.mem_append_left _ h
          have:=AX (by have:=bt j QV;omega) jf
          rw[gJ j cA]at lO
          rw[this]at lO;cases lO
       |false=>
        have hp:=H.sO j h (by rw[←gJ j cA];exact lO)
        rw[uz]at hp
        simp only[Bool.false_eq_true,if_false]at hp⊢
        exact wg hB cy bt H.ord ho h g3 hp
      ·
       obtain rfl:=List.mem_singleton.1 h
       rw[nO]at lO;cases lO
     ·
      rcases List.mem_append.1 qC with h|h
      ·
       have cA:j≠i:=fun e=>pP (e▸h)
       rw[jg _ _ _ _ (qD j d hj hd cA),jg _ _ _ _ (qD j d hj hd cA)]
       rw[gJ j cA]at lO
       exact H.done j d hj lO h hd
      ·
       obtain rfl:=List.mem_singleton.1 h
       rw[ko]at hd
       rw[hd]
       have h3:nj a0.tmps.size d v (a.put (some d) v):=wc H.size
       have h4:nj a0.tmps.size d v (af.put (some d) v):=wc H.oB
       unfold nj at h3 h4
       rw[h3,h4]
     ·
      have h1:of.dst≠some d:=by
       have:=hd i (by simp)
       rwa [ko]at this
      rw[jg _ _ _ _ h1]
      exact H.full d fun j hj=>hd j (List.mem_append_left _ hj)
    have uB: ∀e∈E,e.1∈r:=fun e he=>by
     have:=(H.nY e he).1
     exact(List.mem_cons.1 this).resolve_left fun e2=>Ei (e2▸List.mem_map_of_mem he)
    cases nZ:fs.contains (i+2000)with
    |true=>
     rw[if_pos nZ]at hl
     obtain⟨hg,Ej,wh⟩:=hl
     obtain⟨mx,w',fT,Ek⟩:=Ej w0 w (E.map (·.2)++L) H.mem
     unfold wpOp
     simp only[nf]
     rw[if_pos (by simp[Region.wanted,hg])]
     refine .inl ?_
     unfold Oper.wp
     rw[ee,fT]
     refine next _ _ E ((mk i).e mx::L) Lq rfl uB ?_ (fun w hw=>H.we w (hw.sub (List.sublist_cons_self _ _))) (fun _ h=>h) (fun _ w hw=>hw.sub (List.sublist_cons_self _ _)) (wh _)
     exact Ek.perm (List.perm_middle.symm)
    |false=>
     rw[if_neg (by rw[nZ];exact Bool.false_ne_true)]at hl
     obtain⟨hg,fT,QW⟩:=hl
     have A2:E=[]∨ ∃x,E=[x]∧fs.contains (i+4000)=true:=by
      obtain⟨oi,sr,A1,QX⟩:=sN ord [] [] hB pre i r H.ord
      rcases QX yG nZ with h|⟨h4,h5⟩
      ·
       refine .inl (List.eq_nil_iff_forall_not_mem.2 fun e he=> ?_)
       have h1:=h e.1 (uB e he)
       rw[(H.nY e he).2.2.2.1]at h1;cases h1
      ·
       rcases uA:E with _|⟨x,_|⟨y,E'⟩⟩
       ·
        exact .inl rfl
       ·
        exact .inr ⟨x,rfl,h4⟩
       ·
        exfalso
        have m1:x.1∈r.filter fun j=>fs.contains (j+2000):=List.mem_filter.2 ⟨uB x (by rw[uA];simp),(H.nY x (by rw[uA];simp)).2.2.2.1⟩
        have m2:y.1∈r.filter fun j=>fs.contains (j+2000):=List.mem_filter.2 ⟨uB y (by rw[uA];simp),(H.nY y (by rw[uA];simp)).2.2.2.1⟩
        have I7:=H.keys
        rw[uA]at I7
        have cF:x.1≠y.1:=fun e=>(List.nodup_cons.1 I7).1 (by simp[e])
        rcases ez:(r.filter fun j=>fs.contains (j+2000))with _|⟨z,_|⟨z2,fl⟩⟩
        ·
         rw[ez]at m1;cases m1
        ·
         rw[ez,List.mem_singleton]at m1 m2
         exact cF (m1.trans m2.symm)
        ·
         rw[ez]at h5;simp at h5
     have h1:upon P w (fun v w'=> ∃L' fX,Mem w0 (E.map (·.2)++L') w'∧(∀w,Mem w0 L' w→Mem w0 fX w)∧(∀w,Mem w0 fX w→Mem w0 Lq w)∧(fs.contains (i+5000)=true→ ∀w,Mem w0 L' w→Mem w0 L w)∧pN P l fs mk Q w0 r (af.put of.dst v) L' fX) ((execOp af.eval of).run P w):=by
      have oN:=H.mem
      rcases A2 with hE|⟨x,hE,h4⟩
      ·
       rw[hE]at oN⊢
       exact fT w (by simpa using oN)
      ·
       rw[hE]at oN⊢
       exact QW h4 x.2 w (by simpa using oN)
     have El: ∀v w',(∃L' fX,Mem w0 (E.map (·.2)++L') w'∧(∀w,Mem w0 L' w→Mem w0 fX w)∧(∀w,Mem w0 fX w→Mem w0 Lq w)∧(fs.contains (i+5000)=true→ ∀w,Mem w0 L' w→Mem w0 L w)∧pN P l fs mk Q w0 r (af.put of.dst v) L' fX)→wpAny P .any l.toArray Q m (bj.setIfInBounds i true) (a.put of.dst v) w':=fun v w' ⟨L',fX,g1,g2,g3,g5,g4⟩=>
      next v w' E L' fX rfl uB g1 g2 g3 (fun h=>h.elim (fun h=>by rw[nZ]at h;cases h) g5) g4
     unfold wpOp
     simp only[nf]
     rw[if_pos (by rw[ew];exact hg)]
     refine .inl ?_
     unfold Oper.wp
     rw[ee]
     generalize(execOp af.eval of).run P w=r' at h1
     unfold upon at h1
     split at h1
     ·
      exact El _ _ h1
     ·
      exact El _ _ h1
     ·
      obtain⟨rfl,rr⟩:=h1
      exact rr.mono fun e nM ⟨u,he,hR⟩=>by subst he;exact El u _ hR
     ·
      exact h1.elim
   ·
    have ya:i∈r:=(List.mem_cons.1 Eh).resolve_left I5
    cases nZ:fs.contains (i+2000)with
    |false=>
     exfalso
     obtain⟨r1,r2,rfl⟩:=List.append_of_mem ya
     have yI:ord=(pre++f::r1)++i::r2:=by rw[H.ord];simp
     obtain⟨oi,sr,A1,-⟩:=sN ord [] [] hB _ i r2 yI
     have e1:oi=o':=by rw[ho]at sr;exact(Option.some.inj sr).symm
     subst e1
     have yJ:=A1.QG nZ f (by
      rw[List.append_nil,List.mem_reverse,List.mem_filter]
      exact⟨by simp,yG⟩)
     have ez:=I1 hB gO H.inv i oi ho oC f yJ
     have pD:f∈ord:=by rw[H.ord];simp
     rcases H.sub f (bt f pD) (AX (by have:=bt f pD;omega) ez)with tP|tP
     ·
      have np:=cy
      rw[H.ord]at np
      exact(List.nodup_append.1 np).2.2 f tP f (by simp) rfl
     ·
      exact yH tP
    |true=>
     obtain⟨of,oD,hl⟩:=H.uy
     rw[if_pos yG]at hl
     obtain⟨oa,I8,QY,Ej⟩:=hl.1 i ya nZ
     have e1:oa=o':=by rw[ho]at I8;exact(Option.some.inj I8).symm
     subst e1
     have QZ: ∀t∈oa.looksAt l.toArray,a.tmps[t]? =af.tmps[t]? :=fun t ht=>by
      by_cases hw: ∃j,j<l.length∧dC l j=some t
      ·
       obtain⟨j,hj,hd⟩:=hw
       obtain⟨_,e,he,hb,dO⟩:=bM.reads j t hj hd ht
       have lO:=oC e he hb
       rw[dO]at lO
       have I9:=AX (by omega) lO
       rcases H.sub j hj I9 with hp|hp
       ·
        exact H.done j t hj I9 hp hd
       ·
        obtain⟨e2,yK,rfl⟩:=List.mem_map.1 hp
        have g3:=(H.nY e2 yK).2.2.1
        rw[bM.QH nZ e2.1 t hj hd ht]at g3;cases g3
      ·
       have h1: ∀j,j<l.length→dC l j≠some t:=fun j hj hd=>hw ⟨j,hj,hd⟩
       rw[H.rest t fun j hj _=>h1 j hj,H.full t fun j hj=>h1 j (bt j (by rw[H.ord];exact List.mem_append_left _ hj))]
     obtain⟨ee,_⟩:=yC bM.sm QZ
     obtain⟨mx,w',fT,Ek⟩:=Ej w0 w (E.map (·.2)++L) H.mem
     have ji:fs.contains i=true:=by
      cases ji:fs.contains i with
      |true=>rfl
      |false=>
       exfalso
       obtain⟨r1,r2,rfl⟩:=List.append_of_mem ya
       exact absurd nZ (by rw[wi i rG ji];exact Bool.false_ne_true)
     unfold wpOp
     simp only[nf]
     rw[if_pos (by simp[Region.wanted,QY])]
     refine .inl ?_
     unfold Oper.wp
     rw[ee,fT]
     refine AY hB cy bt gO wi m pre (f::r) af L Lq ((i,(mk i).e mx)::E) _ _ _ qq ⟨H.ord,H.inv.set hi rG,Ek,fun e he=> ?_,List.nodup_cons.2 ⟨Ei,H.keys⟩,H.we,H.uy,by rw[qm];exact H.size,H.oB,by rw[qn];exact H.defers,H.qp,fun j hj hl=> ?_,fun j hj hf=> ?_,fun j hj hl=> ?_,QS _,A0 _,H.full⟩
     ·
      rcases List.mem_cons.1 he with rfl|he
      ·
       exact⟨Eh,nO,ji,nZ,oa,mx,ho,rfl,fun d hd=>by rw[hd];exact wc H.size⟩
      ·
       exact I4 _ e he
     ·
      by_cases cA:j=i
      ·
       subst cA;exact .inr (by simp)
      ·
       exact(H.sub j hj (by rw[←gJ j cA];exact hl)).imp_right fun h=>List.mem_cons_of_mem _ h
     ·
      have cA:j≠i:=fun e=>pP (e▸hj)
      rw[gJ j cA];exact H.fresh j hj hf
     ·
      have cA:j≠i:=fun e=>pP (e▸hj)
      exact H.sO j hj (by rw[←gJ j cA];exact hl)
theorem Ja{id:Nat}{ro:Option Nat}[jU Q]{a:Act}{w:World}{L Lq:List aj}(A:List (List Nat))(ord:List Nat)(cy:nL l=true)(hm:P.follows .mixedOrders=true)(hB:AT l fs A ord=true)(hC:Mem w0 L {w with drawn:=w.drawn+1})(lp: ∀w,Mem w0 L w→Mem w0 Lq w)
  (wi: ∀k,k<l.length→fs.contains k=false→fs.contains (k+2000)=false)
  (h:pN P l fs mk Q w0 ord a L Lq):(Code.region id l.toArray true).wpIn (kX ro) 0 P Q a w:=by
 simp only[AT,Bool.and_eq_true,decide_eq_true_eq]at hB
 obtain⟨⟨⟨h1,h2⟩,h3⟩,h4⟩:=hB
 have gO: ∀j,j<l.length→j∈ord:=fun j hj=>by have:=List.all_eq_true.1 h1 j (List.mem_range.2 hj);simpa using this
 have bt: ∀j∈ord,j<l.length:=fun j hj=>by have:=List.all_eq_true.1 h3 j hj;simpa using this
 refine Dv cy hm ?_
 have DC:HeadInv .any l.toArray l.length (Array.replicate l.toArray.size false):=
  ⟨by simp,fun j oj _ hl=>(by rw[getD_replicate_false]at hl;cases hl),fun t h1 h2=>by simp at h2;omega⟩
 have gZ: ∀j,j<l.length→(Array.replicate l.toArray.size false).getD j true=false:=fun j hj=>by simp[hj]
 have qq:left l.length (Array.replicate l.toArray.size false)=l.length:=by
  unfold left
  rw[List.filter_eq_self.2 (fun j hj=> ?_),List.length_range]
  rw[gZ j (List.mem_range.1 hj)];rfl
 have:=AY (P:=P) (Q:=Q) (w0:=w0) (a0:=a) h4 h2 bt gO wi l.length [] ord a L Lq [] (Array.replicate l.toArray.size false) a _ qq
  ⟨rfl,DC,hC,fun e he=>(by cases he),List.nodup_nil,lp,h,rfl,rfl,rfl,rfl,fun j hj hl=>(by rw[gZ j hj]at hl;cases hl),fun j hj=>(by cases hj),fun j hj=>(by cases hj),fun j d hj hl=>(by rw[gZ j hj]at hl;cases hl),fun _ _=>rfl,fun _ _=>rfl⟩
 simpa using this
theorem Q0{id:Nat}{ro:Option Nat}[jU Q]{a:Act}{w:World}{L Lq:List aj}(A:List (List Nat))(ord:List Nat)(cy:nL l=true)(hm:P.follows .mixedOrders=true)(hB:AS l fs A ord=true)(hC:Mem w0 L {w with drawn:=w.drawn+1})(lp: ∀w,Mem w0 L w→Mem w0 Lq w)
  (h:pN P l fs mk Q w0 ord a L Lq):(Code.region id l.toArray true).wpIn (kX ro) 0 P Q a w:=by
 have h5: ∀k,fs.contains (k+2000)=false:=fun k=>by
  simp only[AS,Bool.and_eq_true]at hB
  cases hk:fs.contains (k+2000)with
  |false=>rfl
  |true=>
   have:=List.all_eq_true.1 hB.1.2 (k+2000) (by simpa using hk)
   have:=of_decide_eq_true this
   omega
 refine Ja A ord cy hm ?_ hC lp (fun k _ _=>h5 k) h
 simp only[AS,AT,Bool.and_eq_true]at hB⊢
 exact⟨hB.1.1,hB.2⟩
end
open Go.RowKit
section
variable {P:Program} {N:cB} {w0:World} {env:Env} {L R R1 R2:List aj} {Q:Exit→Act→World→Prop} {d:Option Tmp} {ty:TypeId} {ps:String} {af:Array Edge} {gd:Option (Nat×Bool)} {K:Value→List aj→Prop}
def hO(P:Program)(N:cB)(w0:World)(env:Env)(L:List aj)(o:Oper)(K:Value→List aj→Prop):Prop:=
 ∀a w,da N env a→Mem w0 L w→upon P w (fun v w'=> ∃L',Mem w0 L' w'∧K v L') ((execOp a.eval o).run P w)
theorem sP{o:Oper}(h: ∀a w,da N env a→Mem w0 L w→ ∃v w' L',(execOp a.eval o).run P w= .ok (.value v) w'∧Mem w0 L' w'∧K v L'):hO P N w0 env L o K:=fun a w ha hw=>by
 obtain⟨v,w',L',h1,h2,h3⟩:=h a w ha hw
 rw[h1];exact⟨L',h2,h3⟩
theorem Em{o:Oper}(h: ∀a w,da N env a→Mem w0 L w→ ∃w' L',(execOp a.eval o).run P w= .ok .skip w'∧Mem w0 L' w'∧K undef L'):hO P N w0 env L o K:=fun a w ha hw=>by
 obtain⟨w',L',h1,h2,h3⟩:=h a w ha hw
 rw[h1];exact⟨L',h2,h3⟩
theorem yL{w:World}{R R':Value→World→Prop}(h: ∀v w,R v w→R' v w){r:Result Next}(hr:upon P w R r):upon P w R' r:=by
 unfold upon at hr⊢
 split at hr
 ·
  exact h _ _ hr
 ·
  exact h _ _ hr
 ·
  exact⟨hr.1,hr.2.mono fun e nM ⟨v,he,hv⟩=>⟨v,he,h _ _ hv⟩⟩
 ·
  exact hr.elim
theorem Jb{o:Oper}{K':Value→List aj→Prop}(h:hO P N w0 env L o K')(hk: ∀v L',K' v L'→ ∃A3,(∀w,Mem w0 L' w→Mem w0 A3 w)∧K v A3):hO P N w0 env L o K:=fun a w ha hw=>
 yL (fun v _ ⟨L',h1,h2⟩=>by obtain⟨A3,h3,h4⟩:=hk v L' h2;exact⟨A3,h3 _ h1,h4⟩) (h a w ha hw)
theorem nr{X:Type}{val:X→Value}{L':X→List aj}{pr:X→Prop}{pre:Prop}{f:FuncId}{xs:List Operand}{ts:Array TypeId}{vs:List Value}[hf:aR P f](hx:g6 env xs=some vs)
  [hc:cr P f w0 L vs X val L' pr pre] (hp:pre) (hk: ∀x,pr x→K (val x) (L' x)):
  hO P N w0 env L ⟨d, .call {callee:= .value (.func f),args:=xs.toArray,argTypes:=ts},ty,ps,af,gd⟩ K:=fun a w ha hw=>by
 rw[As hf w rfl,ha.g6 hx]
 exact⟨rfl,(hc.h hp w hw).mono fun e w' ⟨x,he,jV,hm⟩=>⟨val x,he,L' x,hm,hk x jV⟩⟩
section
variable {α:Type} {enc:α→Array Value} {c:Nat} {s:Sv} {xs ys:List α}
theorem Q1{t:TypeId}{z:Value}[hz:fh P t z](hk: ∀b,K ((.pointer (some ⟨b,0,none⟩))) ((ar b z.cells t::L))):
  hO P N w0 env L ⟨d, .alloc t,ty,ps,af,none⟩ K:=
 sP fun a w ha hw=>⟨_,_,_,by simp only[execOp,Instr.alloc,newVar,newRow,Sem.run_bind,Aq w hz,newObj,Sem.run,Result.andThen,Sem.run_pure];rfl,hw.alloc z.cells t,hk _⟩
theorem Q2{t:TypeId}{cs:Array Value}[hz:fh P t (.agg cs)](hk: ∀b,K ((.pointer (some ⟨b,0,none⟩))) ((ar b cs t::L))):
  hO P N w0 env L ⟨d, .alloc t,ty,ps,af,none⟩ K:=Q1 (z:= .agg cs) hk
theorem wj{t:TypeId}{x y:Operand}{i b o:Nat}{cs:Array Value}{T:TypeId}{v:Value}(hx:ev env x=some (.pointer (some ⟨b,o,none⟩)))(hy:ev env y=some v)[ht:gQ P t][hh:Has L b cs T i](ho:o<cs.size)(hv:v.oneCell'=true){cs':Array Value}{L':List aj}(gK:cs.setIfInBounds o v=cs')[hu:fw L i (ar b cs' T) L'](hk:K undef (L')):
  hO P N w0 env L ⟨none, .store t x y,ty,ps,af,none⟩ K:=
 Em fun a w ha hw=>by
  have hi:=hh.h
  have hb:=hw.block hi
  have hc:w.cell? ⟨b,o,none⟩=some cs[o]:=by rw[hw.cell hi];simp[ho]
  have hf:w.frozen? ⟨b,o,none⟩=false:=frozen_of_row w b o cs T hb
  subst gK
  refine⟨w.setCell ⟨b,o,none⟩ v,_,?_,?_,hk⟩
  ·
   have h1:(storeCells ⟨b,o,none⟩ [v]).run P w= .ok () (w.setCell ⟨b,o,none⟩ v):=by
    have:=run_storeCells_at (P:=P) b o T [v] 0 cs w hb (by simp;omega) (by simpa using hv)
    rw[this,setCell_eq_setRow w b o cs T (0,0) v hb]
    congr 2
    apply Array.ext'
    simp[List.set_eq_take_append_cons_drop,ho]
   have gK:v.cells= #[v]:=by cases v<;>simp_all[Value.oneCell',Value.cells]
   simp only[execOp,ha.ev hx,ha.ev hy,Instr.storeAt,Instr.sureAddr,storeVar,Sem.run_bind,Sem.run_pure,Result.andThen,kF w ht.size,gK]
   simp[h1]
  ·
   rw[setCell_eq_setRow w b o cs T (0,0) v hb]
   rw[←hu.h]
   exact hw.setRow hi _
theorem Jc{t:TypeId}{x y:Operand}{i b o n:Nat}{cs vs:Array Value}{T:TypeId}(hx:ev env x=some (.pointer (some ⟨b,o,none⟩)))(hy:ev env y=some (.agg vs))[ht:gv P t n][hh:Has L b cs T i][hs:fZ vs n](ho:o+n≤cs.size){cs':Array Value}{L':List aj}(gK:cQ cs o vs=cs')[hu:fw L i (ar b cs' T) L'](hk:K undef (L')):
  hO P N w0 env L ⟨none, .store t x y,ty,ps,af,none⟩ K:=
 Em fun a w ha hw=>by
  have hi:=hh.h
  have hn:=hs.h
  have hv:=hs.one
  have hb:=hw.block hi
  subst gK
  refine⟨_,_,?_,by rw[←hu.h];exact hw.setRow hi _,hk⟩
  have h1:=run_storeCells_at (P:=P) b o T vs.toList 0 cs w hb (by simp;omega) (fun v kH=>(Array.all_eq_true_iff_forall_mem.1 hv) v (by simpa using kH))
  simp only[execOp,ha.ev hx,ha.ev hy,Instr.storeAt,Instr.sureAddr,storeVar,Value.cells,Sem.run_bind,Sem.run_pure,Result.andThen,kF w ht.size,hn]
  simp[h1,cQ]
theorem mw{t:TypeId}{x y:Operand}{i b n:Nat}{cs vs:Array Value}{T:TypeId}(hx:ev env x=some (.pointer (some ⟨b,0,none⟩)))(hy:ev env y=some (.agg vs))[ht:gv P t n][hh:Has L b cs T i][hs:fZ vs n][hc:fZ cs n]{L':List aj}[hu:fw L i (ar b vs T) L'](hk:K undef (L')):
  hO P N w0 env L ⟨none, .store t x y,ty,ps,af,none⟩ K:=by
 have hn:=hs.h
 have PJ:=hc.h
 refine Jc hx hy (by omega) (?_:cQ cs 0 vs=vs) hk
 apply Array.ext'
 simp[cQ];omega
theorem Q3{x y:Operand}{tx fV e:TypeId}{i b o dl dc sl sc:Nat}{a:Addr}{cs vs:Array Value}{T:TypeId}(hx:ev env x=some (.slice (some ⟨b,o,none⟩) dl dc))(hy:ev env y=some (.slice (some a) sl sc))
  [ht:eW P tx e 1] [hh:Has L b cs T i] (hn:vs.size=Nat.min sl dl) (lq: ∀w,Mem w0 L w→ ∀j,j<vs.size→w.cell? (a.add j)=vs[j]?) (hv:vs.all (·.oneCell')=true) (ho:o+vs.size≤cs.size)
  {cs':Array Value} {L':List aj} (gK:cQ cs o vs=cs') [hu:fw L i (ar b cs' T) L'] (hk:K ((.int .i64 vs.size)) (L')):
  hO P N w0 env L ⟨d, .call {callee:= .builtin .copy,args:= #[x,y],argTypes:= #[tx,fV]},ty,ps,af,none⟩ K:=
 sP fun aa w ha hw=>by
  have hi:=hh.h
  have hb:=hw.block hi
  subst gK
  have fT:=run_copy_row (P:=P) w tx fV ty e b o dl dc a sl sc cs T vs.toList ht.et ht.size hb (by simpa using hn)
   (fun j v kH=>by
    have hj:j<vs.size:=by simpa using(List.getElem?_eq_some_iff.1 kH).1
    rw[lq w hw j hj];simpa using kH) (by simpa using ho) (fun v kH=>(Array.all_eq_true_iff_forall_mem.1 hv) v (by simpa using kH))
  refine⟨_,w.setRow b (cQ cs o vs),_,?_,by rw[←hu.h];exact hw.setRow hi _,hk⟩
  simp[execOp,ha.ev hx,ha.ev hy,resolve,invoke,builtin,fT,Result.andThen,goInt,cQ]
theorem Q4{t tx e:TypeId}{x y:Operand}{yv:Value}{cG i:Nat}[ht:fk P t e c cG][he:bx enc c](hx:ev env x=some s.val)(hy:ev env y=some yv)[q:fG L s enc c xs i](hc:0<c)
  (hs: ∀w,Mem w0 L w→Src P c tx yv ys.length (aK enc ys) w) (hb:(xs.length+ys.length)*cG≤140737488355328) (iO:xs.length+ys.length≤140737488355328) {L':Sv→List aj} [hu: ∀s',fw L i (own enc c s' (xs++ys)) (L' s')]
  (hk: ∀s':Sv,s'.Ok→s'.len=(xs++ys).length→K (s'.val) ((L' s'))):
  hO P N w0 env L ⟨d, .call {callee:= .builtin .append,args:= #[x,y],argTypes:= #[t,tx]},ty,ps,af,none⟩ K:=
 sP fun a w ha hw=>by
  obtain⟨s',w',h1,h2,h3,h4⟩:=DS (ty:=ty) ht hc hw q.h (hs w hw) hb iO
  refine⟨s'.val,w',L' s',?_,by rw[←(hu s').h];exact h4,hk s' h2 h3⟩
  simp[execOp,ha.ev hx,ha.ev hy,resolve,invoke,builtin,h1,Result.andThen]
theorem Jd{t e:TypeId}{cG n:Nat}[ht:fk P t e c cG][he:bx enc c]{ops:List (Nat×Operand)}{vals:List Value}(xs:List α)(hx:kG env ops=some (idx vals 0))(hv:vals.map Value.cells=xs.map enc)(hn:xs.length=n)(hc:0<n*c)(rC:n*c≤16777216)
  (hk: ∀b,K ((Sv.val ⟨false,b,0,n,n,none⟩)) ((own enc c ⟨false,b,0,n,n,none⟩ xs::L))):
  hO P N w0 env L ⟨d, .buildSlice t n ops.toArray,ty,ps,af,none⟩ K:=
 sP fun a w ha hw=>by
  subst hn
  have e1:(ops.toArray.map fun(p:Nat×Operand)=>match p with|(i,x)=>(i,a.eval x))=(idx vals 0).toArray:=by
   rw[←ha.kG hx];simp
  refine⟨_,_,_,?_,hw.call (vY (enc:=enc) (c:=c) (xs:=xs) (cs:=(aK enc xs).toArray) (e:=e) rfl xs.length xs.length rfl (Nat.le_refl _) (DT hc rC) (by simp[gS]) fun i x hx j hj=>by rw[←mo (enc:=enc) xs i x hx j hj];simp),hk _⟩
  simp only[execOp,e1,Sem.run_bind,DU ht hv hc rC w,Result.andThen,Sem.run_pure];rfl
theorem Je{t e:TypeId}{cG n cap:Nat}{z:Value}{x y:Operand}{k k':IntKind}{ix iy:Int}[ht:fk P t e c cG][hz:fh P e z](x0:α)(h0:enc x0=z.cells)(hx:ev env x=some (.int k ix))(hy:ev env y=some (.int k' iy))(ex:ix=(n:Int))(ey:iy=(cap:Int))(hle:n≤cap)(hb:cG*cap≤281474976710656)(iO:cap≤140737488355328)
  (hk: ∀b,K ((Sv.val ⟨false,b,0,n,cap,none⟩)) ((own enc c ⟨false,b,0,n,cap,none⟩ (List.replicate n x0)::L))):
  hO P N w0 env L ⟨d, .makeSlice t x y,ty,ps,af,none⟩ K:=
 sP fun a w ha hw=>by
  subst ex ey
  obtain⟨w',h1,h2⟩:=DV ht hz (k:=k) (k':=k') (n:=n) x0 h0 hle hb iO w
  exact⟨_,w',_,by simp only[execOp,ha.ev hx,ha.ev hy,Sem.run_bind,h1,Result.andThen,Sem.run_pure],hw.call h2,hk _⟩
theorem uC{t:TypeId}{x y:Operand}{i k j n p:Nat}{a a':α}{v:Value}(sz:(P.info? t).map (·.size)=some n)[he:bx enc c](hx:ev env x=some (.pointer (some ⟨s.b,p,none⟩)))(hy:ev env y=some v)[q:fG L s enc c xs i](gR:p=s.o+k*c+j)
  (ha:xs[k]? =some a) (hv:v.cells.all (·.oneCell')=true) (hn:v.cells.size=n) (hj:j+n≤c) (pH:cQ (enc a) j v.cells=enc a') {L':List aj} [hu:fw L i (own enc c s (xs.set k a')) L'] (hk:K undef (L')):
  hO P N w0 env L ⟨none, .store t x y,ty,ps,af,none⟩ K:=
 Em fun aa w yp hw=>by
  subst gR hn
  obtain⟨w',h1,h2⟩:=Io (P:=P) hw q ha hv hj pH hu
  refine⟨w',_,?_,h2,hk⟩
  simp only[execOp,yp.ev hx,yp.ev hy,Instr.storeAt,Instr.sureAddr,storeVar,Sem.run_bind,Sem.run_pure,Result.andThen,kF w sz]
  simp[h1]
theorem Q5{P:Program}{N:cB}{w0:World}{env:Env}{L:List aj}{ty:TypeId}{ps:String}{af:Array Edge}{τ:Type}{t:TypeId}{x y:Operand}{i k p:Nat}{s:Sv}{xs:List (Sl τ)}{a:Sl τ}(a':Sl τ)
  (sz:(P.info? t).map (·.size)=some 1) (hx:ev env x=some (.pointer (some ⟨s.b,p,none⟩))) (hy:ev env y=some a'.sv.val) [q:fG L s (cc (τ:=τ)) 1 xs i] (gR:p=s.o+k*1) (ha:xs[k]? =some a) {L':List aj} [hu:fw L i (own cc 1 s (xs.set k a')) L'] (hk:K undef (L')):
  hO P N w0 env L ⟨none, .store t x y,ty,ps,af,none⟩ K:=
 uC (j:=0) (a':=a') sz hx hy (q:=q) gR ha (by rw[Sv.iQ];simp[Sv.one]) (by rw[Sv.iQ];rfl) (by decide) (by rw[Sv.iQ];rfl) hk
theorem Q6{α:Type}{enc:α→Array Value}{x y:Operand}{tx fV e:TypeId}{i b o dl dc:Nat}{sv:Sv}{ys:List α}{cs:Array Value}{T:TypeId}(hx:ev env x=some (.slice (some ⟨b,o,none⟩) dl dc))(hy:ev env y=some sv.val)
  [ht:eW P tx e 1] [hh:Has L b cs T i] [q:Hd w0 L sv enc 1 ys] [he:bx enc 1] (h0:0<ys.length) (hl:ys.length≤dl) (ho:o+ys.length≤cs.size)
  {cs':Array Value} {L':List aj} (gK:cQ cs o (aK enc ys).toArray=cs') [hu:fw L i (ar b cs' T) L'] (hk:K ((.int .i64 (ys.length:Nat))) (L')):
  hO P N w0 env L ⟨d, .call {callee:= .builtin .copy,args:= #[x,y],argTypes:= #[tx,fV]},ty,ps,af,none⟩ K:=fun a w ha hw=>by
 have r:=q.h w hw
 have hn:=r.some (i:=0) h0
 have hlen:=r.len
 rw[Sv.g9 hn,r.ok.sp (by have:=r.ok.le;omega)]at hy
 have hs:(aK enc ys).toArray.size=ys.length:=by rw[List.size_toArray,gS,Nat.mul_one]
 have jF:=hk
 rw[←hs]at jF
 refine Q3 (vs:=(aK enc ys).toArray) hx hy ?_ (fun w hw j hj=> ?_) ?_ (by rw[hs];exact ho) gK jF a w ha hw
 ·
  rw[hs];simp only[Nat.min_def];split<;>omega
 ·
  rw[hs]at hj
  have:=mo (enc:=enc) ys j ys[j] (by simp[hj]) 0 (by decide)
  have r2:=(q.h w hw).row j ys[j] (by simp[hj]) 0 (by decide)
  simp only[Nat.mul_one,Nat.add_zero]at this r2
  rw[Addr.gw,qw,r2,←this];simp
 ·
  rw[Array.all_eq_true_iff_forall_mem];intro v hv;exact sG (enc:=enc) ys v (by simpa using hv)
end
section
variable {τ:Type} [dp:Deep τ] {enc:τ→Array Value} {c:Nat}
end
theorem Jf{l:List Oper}{rest:List Oper}{o:Oper}(hg:o.guard=none)(hd:dj N o.dst=true)(h:hO P N w0 env L o (fun v L'=>Sq P N w0 l Q rest (cw env o.dst v) L')):Sq P N w0 l Q (o::rest) env L:=fun a w ha hw=>by
 unfold wpList
 rw[if_pos (pG hg)]
 refine .inl ?_
 have h1:=h a w ha hw
 unfold Oper.wp
 generalize(execOp a.eval o).run P w=r at h1
 unfold upon at h1
 split at h1
 ·
  obtain⟨L',h2,h3⟩:=h1;exact h3 _ _ (ha.put hd _) h2
 ·
  obtain⟨L',h2,h3⟩:=h1;exact h3 _ _ (ha.put hd _) h2
 ·
  obtain⟨rfl,hc⟩:=h1
  exact hc.mono fun e nM ⟨v,he,L',h2,h3⟩=>by subst he;exact h3 _ _ (ha.put hd _) h2
 ·
  exact h1.elim
end
section
variable {P:Program} {N:cB} {w0:World} {env:Env} {L Lq:List aj} {l:List Oper} {fs ord:List Nat} {mk:Nat→mu} {Q:Exit→Act→World→Prop} {k:Nat} {o:Oper}
def Ln(P:Program)(N:cB)(w0:World)(l:List Oper)(fs:List Nat)(mk:Nat→mu)(Q:Exit→Act→World→Prop)(ord:List Nat)(env:Env)(L Lq:List aj):Prop:= ∀a,da N env a→pN P l fs mk Q w0 ord a L Lq
def Cert(P:Program)(N:cB)(env:Env)(l:List Oper)(fs:List Nat)(mk:Nat→mu)(ord:List Nat):Prop:=
 ∀i∈ord,fs.contains (i+2000)=true→ ∃oi,l[i]? =some oi∧oi.guard=none∧ ∀a,da N env a→rE P oi a.eval (mk i)
theorem Cert.none(h:(ord.all fun i=> !fs.contains (i+2000))=true):Cert P N env l fs mk ord:=fun i hi hf=>by
 have:=List.all_eq_true.1 h i hi
 rw[hf]at this;cases this
theorem Cert.one{i:Nat}{m:mu}(ho:l[i]? =some o)(hg:o.guard=Option.none)(hm:mk i=m)(h: ∀a,da N env a→rE P o a.eval m)(hr:Cert P N env l fs mk (ord.filter fun j=> !(j==i))):Cert P N env l fs mk ord:=fun j hj hf=>by
 by_cases e:j=i
 ·
  subst e
  exact⟨o,ho,hg,by rw[hm];exact h⟩
 ·
  exact hr j (List.mem_filter.2 ⟨hj,by simpa using e⟩) hf
theorem Cert.at(h:Cert P N env l fs mk ord){a:Act}(ha:da N env a): ∀i∈ord,fs.contains (i+2000)=true→ ∃oi,l[i]? =some oi∧oi.guard=Option.none∧rE P oi a.eval (mk i):=fun i hi hf=>by
 obtain⟨oi,h1,h2,h3⟩:=h i hi hf
 exact⟨oi,h1,h2,h3 a ha⟩
theorem A4(h:Ex N w0 Q .normal env L):Ln P N w0 l fs mk Q [] env L Lq:=fun a ha w hw=>h a w ha hw
theorem Jg{v:Value}(ho:l[k]? =some o)(hf:fs.contains k=false)(hd:dj N o.dst=true)(h1: ∀a,da N env a→Region.wanted o (yielded l.toArray a.tmps)=true→rn P o a (Mem w0 Lq) v)(h2: ∀a,da N env a→Region.wanted o (yielded l.toArray a.tmps)=false→v=undef)
  (hk:Ln P N w0 l fs mk Q ord (cw env o.dst v) L Lq) (jW:fs.contains (k+1000)=false:=by rfl):Ln P N w0 l fs mk Q (k::ord) env L Lq:=fun a ha=>
 ⟨o,ho,by
  rw[if_neg (by rw[hf];exact Bool.false_ne_true)]
  exact⟨v,by rw[if_neg (by rw[jW];exact Bool.false_ne_true)];exact h1 a ha,h2 a ha,hk _ (ha.put hd v)⟩⟩
theorem Q7{v:Value}(ho:l[k]? =some o)(h:Yl P N w0 env L o v)(hk:Ln P N w0 l fs mk Q ord (cw env o.dst v) L Lq)(hg:o.guard=none:=by rfl)(hd:dj N o.dst=true:=by rfl)(hf:fs.contains k=false:=by rfl)(jW:fs.contains (k+1000)=true:=by rfl):Ln P N w0 l fs mk Q (k::ord) env L Lq:=fun a ha=>
 ⟨o,ho,by
  rw[if_neg (by rw[hf];exact Bool.false_ne_true)]
  exact⟨v,fun _=>by rw[if_pos jW];exact h a ha,(fun hw=>by rw[pG hg]at hw;cases hw),hk _ (ha.put hd v)⟩⟩
theorem kv{v:Value}(ho:l[k]? =some o)(h:Ry P N w0 env L o v)(hk:Ln P N w0 l fs mk Q ord (cw env o.dst v) L Lq)(hg:o.guard=none:=by rfl)(hd:dj N o.dst=true:=by rfl)(hf:fs.contains k=false:=by rfl)(jW:fs.contains (k+1000)=true:=by rfl):Ln P N w0 l fs mk Q (k::ord) env L Lq:=Q7 ho h.yl hk hg hd hf jW
theorem uD{v:Value}(ho:l[k]? =some o)(h:Yl P N w0 env Lq o v)(hk:Ln P N w0 l fs mk Q ord (cw env o.dst v) L Lq)(hg:o.guard=none:=by rfl)(hd:dj N o.dst=true:=by rfl)(hf:fs.contains k=false:=by rfl)(jW:fs.contains (k+1000)=false:=by rfl):Ln P N w0 l fs mk Q (k::ord) env L Lq:=
 Jg (jW:=jW) ho hf hd (fun a ha _=>h a ha) (fun a ha hw=>by rw[pG hg]at hw;cases hw) hk
theorem an{v:Value}(ho:l[k]? =some o)(h:Ry P N w0 env Lq o v)(hk:Ln P N w0 l fs mk Q ord (cw env o.dst v) L Lq)(hg:o.guard=none:=by rfl)(hd:dj N o.dst=true:=by rfl)(hf:fs.contains k=false:=by rfl)(jW:fs.contains (k+1000)=false:=by rfl):Ln P N w0 l fs mk Q (k::ord) env L Lq:=uD ho h.yl hk hg hd hf jW
theorem Jh{v:Value}{j t:Nat}{g:Bool}(ho:l[k]? =some o)(hg:o.guard=some (j,false))(hj:(l[j]?).bind (·.dst)=some t)(hv:look env t=some (.bool g))(h:(!g)=true→Yl P N w0 env Lq o v)
  (hk:Ln P N w0 l fs mk Q ord (cw env o.dst (if(!g)=true then v else undef)) L Lq) (hd:dj N o.dst=true:=by rfl) (hf:fs.contains k=false:=by rfl) (jW:fs.contains (k+1000)=false:=by rfl):Ln P N w0 l fs mk Q (k::ord) env L Lq:=
 Jg (jW:=jW) ho hf hd (fun a ha hw=>by
  rw[uf ha hg hj hv]at hw
  cases g
  ·
   exact h rfl a ha
  ·
   cases hw) (fun a ha hw=>by
  rw[uf ha hg hj hv]at hw
  cases g
  ·
   cases hw
  ·
   rfl) hk
theorem Q8(ho:l[k]? =some o)(h:hO P N w0 env L o fun v L'=> ∃fX,(∀w,Mem w0 L' w→Mem w0 fX w)∧(∀w,Mem w0 fX w→Mem w0 Lq w)∧Ln P N w0 l fs mk Q ord (cw env o.dst v) L' fX)(hg:o.guard=none:=by rfl)(hd:dj N o.dst=true:=by rfl)(hf:fs.contains k=true:=by rfl)(qE:fs.contains (k+2000)=false:=by rfl)(wk:fs.contains (k+4000)=false:=by rfl)(rH:fs.contains (k+5000)=false:=by rfl)(hC:Cert P N env l fs mk ord:=by exact Cert.none rfl):Ln P N w0 l fs mk Q (k::ord) env L Lq:=fun a ha=>
 ⟨o,ho,by
  rw[if_pos hf,if_neg (by rw[qE];exact Bool.false_ne_true)]
  exact⟨hC.at ha,pG hg,fun w hw=>yL (fun v w' ⟨L',h1,fX,h2,h3,h4⟩=>⟨L',fX,h1,h2,h3,(fun h=>by rw[rH]at h;cases h),h4 _ (ha.put hd v)⟩) (h a w ha hw),fun h=>by rw[wk]at h;cases h⟩⟩
theorem Ji(ho:l[k]? =some o)(h:hO P N w0 env L o fun v L'=>(∀w,Mem w0 L' w→Mem w0 Lq w)∧(∀w,Mem w0 L' w→Mem w0 L w)∧Ln P N w0 l fs mk Q ord (cw env o.dst v) L' Lq)(hg:o.guard=none:=by rfl)(hd:dj N o.dst=true:=by rfl)(hf:fs.contains k=true:=by rfl)(qE:fs.contains (k+2000)=false:=by rfl)(wk:fs.contains (k+4000)=false:=by rfl)(hC:Cert P N env l fs mk ord:=by exact Cert.none rfl):Ln P N w0 l fs mk Q (k::ord) env L Lq:=fun a ha=>
 ⟨o,ho,by
  rw[if_pos hf,if_neg (by rw[qE];exact Bool.false_ne_true)]
  exact⟨hC.at ha,pG hg,fun w hw=>yL (fun v w' ⟨L',h1,h2,h3,h4⟩=>⟨L',Lq,h1,h2,fun _ h=>h,(fun _=>h3),h4 _ (ha.put hd v)⟩) (h a w ha hw),fun h=>by rw[wk]at h;cases h⟩⟩
theorem Q9(K:Value→List aj→Prop)(ho:l[k]? =some o)(h:hO P N w0 env L o K)(hF: ∀e,hO P N w0 env (e::L) o fun v L'=> ∃L1,(∀w,Mem w0 L' w→Mem w0 (e::L1) w)∧K v L1)(hk: ∀v L',K v L'→(∀w,Mem w0 L' w→Mem w0 Lq w)∧Ln P N w0 l fs mk Q ord (cw env o.dst v) L' Lq)(hC:Cert P N env l fs mk ord)(hg:o.guard=none:=by rfl)(hd:dj N o.dst=true:=by rfl)(hf:fs.contains k=true:=by rfl)(qE:fs.contains (k+2000)=false:=by rfl)(rH:fs.contains (k+5000)=false:=by rfl):Ln P N w0 l fs mk Q (k::ord) env L Lq:=fun a ha=>
 ⟨o,ho,by
  rw[if_pos hf,if_neg (by rw[qE];exact Bool.false_ne_true)]
  exact⟨hC.at ha,pG hg,fun w hw=>yL (fun v w' ⟨L',h1,h2⟩=>⟨L',Lq,h1,(hk v L' h2).1,fun _ h=>h,(fun h=>by rw[rH]at h;cases h),(hk v L' h2).2 _ (ha.put hd v)⟩) (h a w ha hw),fun _ e w hw=>yL (fun v w' ⟨L',h1,L1,h2,h3⟩=>⟨L1,Lq,h2 _ h1,(hk v L1 h3).1,fun _ h=>h,(fun h=>by rw[rH]at h;cases h),(hk v L1 h3).2 _ (ha.put hd v)⟩) (hF e a w ha hw)⟩⟩
theorem rI{X:Type}{val:X→Value}{L':X→List aj}{L2:aj→X→List aj}{pr:X→Prop}{pre:Prop}{f:FuncId}{xs:List Operand}{ts:Array TypeId}{vs:List Value}{d:Option Tmp}{ty:TypeId}{ps:String}{af:Array Edge}[hf:aR P f](ho:l[k]? =some ⟨d, .call {callee:= .value (.func f),args:=xs.toArray,argTypes:=ts},ty,ps,af,none⟩)(hx:g6 env xs=some vs)
  [hc:cr P f w0 L vs X val L' pr pre] [En: ∀e,cr P f w0 (e::L) vs X val (L2 e) pr pre] (hp:pre) (hP: ∀e x w,Mem w0 (L2 e x) w→Mem w0 (e::L' x) w) (hC:Cert P N env l fs mk ord) (hk: ∀x,pr x→(∀w,Mem w0 (L' x) w→Mem w0 Lq w)∧Ln P N w0 l fs mk Q ord (cw env d (val x)) (L' x) Lq)
  (hd:dj N d=true:=by rfl) (wm:fs.contains k=true:=by rfl) (qE:fs.contains (k+2000)=false:=by rfl) (rH:fs.contains (k+5000)=false:=by rfl):Ln P N w0 l fs mk Q (k::ord) env L Lq:=
 Q9 (fun v L1=> ∃x,v=val x∧L1=L' x∧pr x) ho (nr hx hp fun x jV=>⟨x,rfl,rfl,jV⟩) (fun e=>Jb (nr (K:=fun v L1=> ∃x,v=val x∧L1=L2 e x∧pr x) hx hp fun x jV=>⟨x,rfl,rfl,jV⟩) fun v L1 ⟨x,h1,h2,h3⟩=>⟨L1,fun _ h=>h,L' x,fun w hw=>hP e x w (by rw[←h2];exact hw),x,h1,rfl,h3⟩)
  (fun v L1 ⟨x,h1,h2,h3⟩=>by subst h1;subst h2;exact hk x h3) hC rfl hd wm qE rH
theorem my{m:mu}(ho:l[k]? =some o)(hm:mk k=m)(h: ∀a,da N env a→rE P o a.eval m)(hC:Cert P N env l fs mk ord)(hk: ∀x:m.X,Ln P N w0 l fs mk Q ord (cw env o.dst (m.v x)) (m.e x::L) Lq)(hg:o.guard=none:=by rfl)(hd:dj N o.dst=true:=by rfl)(hf:fs.contains k=true:=by rfl)(jW:fs.contains (k+2000)=true:=by rfl):Ln P N w0 l fs mk Q (k::ord) env L Lq:=fun a ha=>by
 subst hm
 refine⟨o,ho,?_⟩
 rw[if_pos hf,if_pos jW]
 exact⟨hC.at ha,hg,h a ha,fun x=>hk x _ (ha.put hd _)⟩
theorem dy(ho:l[k]? =some o)(h:hO P N w0 env L o fun v L'=>(∀w,Mem w0 L' w→Mem w0 Lq w)∧Ln P N w0 l fs mk Q ord (cw env o.dst v) L' Lq)(hg:o.guard=none:=by rfl)(hd:dj N o.dst=true:=by rfl)(hf:fs.contains k=true:=by rfl)(qE:fs.contains (k+2000)=false:=by rfl)(wk:fs.contains (k+4000)=false:=by rfl)(rH:fs.contains (k+5000)=false:=by rfl)(hC:Cert P N env l fs mk ord:=by exact Cert.none rfl):Ln P N w0 l fs mk Q (k::ord) env L Lq:=
 Q8 (qE:=qE) (wk:=wk) (rH:=rH) (hC:=hC) ho (Jb h fun v L' ⟨h1,h2⟩=>⟨L',fun _ h=>h,Lq,h1,fun _ h=>h,h2⟩) hg hd hf
def Eo:List (Nat×mu)→Nat→mu
 |[],_=>⟨Unit,fun _=>undef,fun _=> .emp⟩
 |(i,m)::r,k=>match Nat.beq i k with
  |true=>m
  |false=>Eo r k
@[reducible] def jl (P:Program)(t:TypeId){z:Value}[_hz:fh P t z]:mu:=⟨Nat,fun b=> .pointer (some ⟨b,0,none⟩),fun b=>ar b z.cells t⟩
theorem iR{t:TypeId}{z:Value}[hz:fh P t z]{d:Option Tmp}{ty:TypeId}{ps:String}{af:Array Edge}{gd:Option (Nat×Bool)}: ∀a,da N env a→rE P ⟨d, .alloc t,ty,ps,af,gd⟩ a.eval (jl P t):=fun a _ w0 w L hw=>by
 refine⟨w.heap.size,w.alloc (.cells z.cells t),?_,hw.alloc z.cells t⟩
 simp only[execOp,Instr.alloc,newVar,newRow,Sem.run_bind,Aq w hz,newObj,Sem.run,Result.andThen,Sem.run_pure];rfl
@[reducible] def qF {α:Type}(enc:α→Array Value)(c n:Nat)(xs:List α):mu:=⟨Nat,fun b=>Sv.val ⟨false,b,0,n,n,none⟩,fun b=>own enc c ⟨false,b,0,n,n,none⟩ xs⟩
theorem Ep{α:Type}{enc:α→Array Value}{c:Nat}{t e:TypeId}{cG n:Nat}{d:Option Tmp}{ty:TypeId}{ps:String}{af:Array Edge}{gd:Option (Nat×Bool)}[ht:fk P t e c cG][he:bx enc c]{ops:List (Nat×Operand)}{vals:List Value}(xs:List α)(hx:kG env ops=some (idx vals 0))(hv:vals.map Value.cells=xs.map enc)(hn:xs.length=n)(hc:0<n*c)(rC:n*c≤16777216):
  ∀a,da N env a→rE P ⟨d, .buildSlice t n ops.toArray,ty,ps,af,gd⟩ a.eval (qF enc c n xs):=fun a ha w0 w L hw=>by
 subst hn
 have e1:(ops.toArray.map fun(p:Nat×Operand)=>match p with|(i,x)=>(i,a.eval x))=(idx vals 0).toArray:=by
  rw[←ha.kG hx];simp
 refine⟨w.heap.size,_,?_,hw.call (vY (enc:=enc) (c:=c) (xs:=xs) (cs:=(aK enc xs).toArray) (e:=e) rfl xs.length xs.length rfl (Nat.le_refl _) (DT hc rC) (by simp[gS]) fun i x hx j hj=>by rw[←mo (enc:=enc) xs i x hx j hj];simp)⟩
 simp only[execOp,e1,Sem.run_bind,DU ht hv hc rC w,Result.andThen,Sem.run_pure];rfl
theorem oO{id:Nat}[jU Q](fs:List Nat)(A:List (List Nat))(ord:List Nat)(Lq:List aj)(mk:List (Nat×mu))(Ra:(fs.all fun j=>decide (j<2000)||decide (4000≤j)||fs.contains (j -2000))=true)(lp: ∀w,Mem w0 L w→Mem w0 Lq w)(hm:P.follows .mixedOrders=true)(hB:AT l fs A ord=true)(h:Ln P N w0 l fs (Eo mk) Q ord env L Lq)(bt:l.length≤1000:=by decide)(cy:nL l=true:=by kernel_rfl):Cw P N w0 Q (.region id l.toArray true) env L:=fun a _ ha hw=>by
 refine Ja A ord cy hm hB hw.Ab lp (fun k yD hk=> ?_) (h a ha)
 cases h2:fs.contains (k+2000)with
 |false=>rfl
 |true=>
  have:=List.all_eq_true.1 Ra (k+2000) (by simpa using h2)
  rw[Bool.or_eq_true,Bool.or_eq_true,decide_eq_true_eq,decide_eq_true_eq]at this
  rcases this with(h|h)|h
  ·
   omega
  ·
   omega
  ·
   rw[Nat.add_sub_cancel,hk]at h;cases h
theorem jm{id:Nat}[jU Q](fs:List Nat)(A:List (List Nat))(ord:List Nat)(Lq:List aj)(lp: ∀w,Mem w0 L w→Mem w0 Lq w)(hm:P.follows .mixedOrders=true)(hB:AS l fs A ord=true)(h:Ln P N w0 l fs (Eo []) Q ord env L Lq)(cy:nL l=true:=by kernel_rfl):Cw P N w0 Q (.region id l.toArray true) env L:=fun a _ ha hw=>
 Q0 A ord cy hm hB hw.Ab lp (h a ha)
end
open Go.RowKit
theorem Ry.n{P:Program}{N:cB}{w0:World}{env:Env}{L:List aj}{d:Option Tmp}{ty:TypeId}{ps:String}{af:Array Edge}{gd:Option (Nat×Bool)}{s:TypeId}{x:Operand}{fi off b o o':Nat}[hf:dH P s fi off](hx:ev env x=some (.pointer (some ⟨b,o,none⟩)))(ho:Nat.add o off=o':=by(simp only[Nat.add_eq,Nat.reduceAdd];exact rfl)):
  Ry P N w0 env L ⟨d, .fieldAddr s x fi,ty,ps,af,gd⟩ (.pointer (some ⟨b,o',none⟩)):=aH hx ho
theorem tS{P:Program}{N:cB}{w0:World}{l:List Oper}{Q:Exit→Act→World→Prop}{rest:List Oper}{env:Env}{L:List aj}{d:Option Tmp}{ty:TypeId}{ps:String}{af:Array Edge}(op:Op)(gd:Option (Nat×Bool))(h:Sq P N w0 l Q (⟨d,op,ty,ps,af,gd⟩::rest) env L):Sq P N w0 l Q (⟨d,op,ty,ps,af,gd⟩::rest) env L:=h
theorem tQ{P:Program}{N:cB}{w0:World}{l:List Oper}{fs:List Nat}{F:Act→Prop}{k:Nat}{rest:List Oper}{env:Env}{L:List aj}{d:Option Tmp}{ty:TypeId}{ps:String}{af:Array Edge}(op:Op)(gd:Option (Nat×Bool))(h:Qt P N w0 l fs F k (⟨d,op,ty,ps,af,gd⟩::rest) env L):Qt P N w0 l fs F k (⟨d,op,ty,ps,af,gd⟩::rest) env L:=h
theorem Gs{G G':Prop}(k:G')(h:G'→G:=by
 intro k
 first
 |(with_reducible refine tS (.move _) none ?_);exact ah (aF rfl) k
 |(with_reducible refine tS (.assign _) none ?_);exact ah (bn rfl) k
 |(with_reducible refine tS (.fieldAddr _ _ _) none ?_);exact ah (Ry.n rfl) k
 |(with_reducible refine tS (.load _ _) none ?_);exact ah (bI rfl) k
 |(with_reducible refine tS (.load _ _) none ?_);exact ah (fN rfl) k
 |(with_reducible refine tS (.binOp .add _ _ _ _) none ?_);exact ah (pE rfl rfl (by omega)) k
 |(with_reducible refine tS (.binOp .sub _ _ _ _) none ?_);exact ah (yd rfl rfl (by omega)) k
 |(with_reducible refine tS (.pick _ _ _) none ?_);exact ah (mf rfl rfl rfl) k
 |(with_reducible refine tS (.pick _ _ _) none ?_);exact ah (yb rfl rfl rfl) k
 |(with_reducible refine tS (.unOp _ _ _) none ?_);exact ah (iu rfl) k
 |(with_reducible refine tS (.binOp _ _ _ _ _) none ?_);exact ah (cz rfl rfl rfl) k
 |(with_reducible refine tS (.nilCheck _) none ?_);exact ah (jG rfl) k
 |(with_reducible refine tS (.call _) none ?_);exact ah (kZ rfl) k
 |(with_reducible refine tS (.store _ _ _) none ?_);exact qt rfl rfl k
 |(with_reducible refine tS (.call _) none ?_);exact fE (cM rfl trivial) k):G:=h k
theorem Gq{G G':Prop}(k:G')(h:G'→G:=by
 intro k
 first
 |(with_reducible refine tQ (.move _) none ?_);exact bm (aF rfl) k
 |(with_reducible refine tQ (.assign _) none ?_);exact bm (bn rfl) k
 |(with_reducible refine tQ (.fieldAddr _ _ _) none ?_);exact bm (Ry.n rfl) k
 |(with_reducible refine tQ (.load _ _) none ?_);exact bm (bI rfl) k
 |(with_reducible refine tQ (.load _ _) none ?_);exact bm (fN rfl) k
 |(with_reducible refine tQ (.binOp .add _ _ _ _) none ?_);exact bm (pE rfl rfl (by omega)) k
 |(with_reducible refine tQ (.binOp .sub _ _ _ _) none ?_);exact bm (yd rfl rfl (by omega)) k
 |(with_reducible refine tQ (.pick _ _ _) none ?_);exact bm (mf rfl rfl rfl) k
 |(with_reducible refine tQ (.pick _ _ _) none ?_);exact bm (yb rfl rfl rfl) k
 |(with_reducible refine tQ (.unOp _ _ _) none ?_);exact bm (iu rfl) k
 |(with_reducible refine tQ (.binOp _ _ _ _ _) none ?_);exact bm (cz rfl rfl rfl) k
 |(with_reducible refine tQ (.nilCheck _) none ?_);exact bm (jG rfl) k
 |(with_reducible refine tQ (.call _) none ?_);exact bm (kZ rfl) k):G:=h k
theorem Gg{G G':Prop}(k:G')(h:G'→G:=by
 intro k
 first
 |(with_reducible refine tS (.move _) (some (_,false)) ?_);exact ca rfl rfl rfl (fun hg=>Ry.yl (aF rfl)) k
 |(with_reducible refine tS (.fieldAddr _ _ _) (some (_,false)) ?_);exact ca rfl rfl rfl (fun hg=>Ry.yl (Ry.n rfl)) k
 |(with_reducible refine tS (.load _ _) (some (_,false)) ?_);exact ca rfl rfl rfl (fun hg=>Ry.yl (bI (aI hg rfl))) k
 |(with_reducible refine tS (.binOp _ _ _ _ _) (some (_,false)) ?_);exact ca rfl rfl rfl (fun hg=>Ry.yl (cz (aI hg rfl) rfl rfl)) k
 |(with_reducible refine tS (.binOp _ _ _ _ _) (some (_,false)) ?_);exact ca rfl rfl rfl (fun hg=>Ry.yl (cz (aI hg rfl) (aI hg rfl) rfl)) k
 |(with_reducible refine tS (.call _) (some (_,false)) ?_);exact ca rfl rfl rfl (fun hg=>Ry.yl (kZ (aI hg rfl))) k
 |(with_reducible refine tS (.move _) (some (_,true)) ?_);exact fU rfl rfl rfl (fun hg=>Ry.yl (aF rfl)) k
 |(with_reducible refine tS (.fieldAddr _ _ _) (some (_,true)) ?_);exact fU rfl rfl rfl (fun hg=>Ry.yl (Ry.n rfl)) k
 |(with_reducible refine tS (.load _ _) (some (_,true)) ?_);exact fU rfl rfl rfl (fun hg=>Ry.yl (bI (aI hg rfl))) k
 |(with_reducible refine tS (.binOp _ _ _ _ _) (some (_,true)) ?_);exact fU rfl rfl rfl (fun hg=>Ry.yl (cz (aI hg rfl) rfl rfl)) k
 |(with_reducible refine tS (.binOp _ _ _ _ _) (some (_,true)) ?_);exact fU rfl rfl rfl (fun hg=>Ry.yl (cz (aI hg rfl) (aI hg rfl) rfl)) k
 |(with_reducible refine tS (.call _) (some (_,true)) ?_);exact fU rfl rfl rfl (fun hg=>Ry.yl (kZ (aI hg rfl))) k):G:=h k
theorem Gh{G G':Prop}(k:G')(h:G'→G:=by
 intro k
 first
 |(with_reducible refine tQ (.move _) (some (_,false)) ?_);exact iE rfl rfl rfl (fun hg=>Ry.yl (aF rfl)) k
 |(with_reducible refine tQ (.fieldAddr _ _ _) (some (_,false)) ?_);exact iE rfl rfl rfl (fun hg=>Ry.yl (Ry.n rfl)) k
 |(with_reducible refine tQ (.load _ _) (some (_,false)) ?_);exact iE rfl rfl rfl (fun hg=>Ry.yl (bI (aI hg rfl))) k
 |(with_reducible refine tQ (.binOp _ _ _ _ _) (some (_,false)) ?_);exact iE rfl rfl rfl (fun hg=>Ry.yl (cz (aI hg rfl) rfl rfl)) k
 |(with_reducible refine tQ (.binOp _ _ _ _ _) (some (_,false)) ?_);exact iE rfl rfl rfl (fun hg=>Ry.yl (cz (aI hg rfl) (aI hg rfl) rfl)) k
 |(with_reducible refine tQ (.call _) (some (_,false)) ?_);exact iE rfl rfl rfl (fun hg=>Ry.yl (kZ (aI hg rfl))) k
 |(with_reducible refine tQ (.move _) (some (_,true)) ?_);exact fF rfl rfl rfl (fun hg=>Ry.yl (aF rfl)) k
 |(with_reducible refine tQ (.fieldAddr _ _ _) (some (_,true)) ?_);exact fF rfl rfl rfl (fun hg=>Ry.yl (Ry.n rfl)) k
 |(with_reducible refine tQ (.load _ _) (some (_,true)) ?_);exact fF rfl rfl rfl (fun hg=>Ry.yl (bI (aI hg rfl))) k
 |(with_reducible refine tQ (.binOp _ _ _ _ _) (some (_,true)) ?_);exact fF rfl rfl rfl (fun hg=>Ry.yl (cz (aI hg rfl) rfl rfl)) k
 |(with_reducible refine tQ (.binOp _ _ _ _ _) (some (_,true)) ?_);exact fF rfl rfl rfl (fun hg=>Ry.yl (cz (aI hg rfl) (aI hg rfl) rfl)) k
 |(with_reducible refine tQ (.call _) (some (_,true)) ?_);exact fF rfl rfl rfl (fun hg=>Ry.yl (kZ (aI hg rfl))) k):G:=h k
theorem tR{P:Program}{N:cB}{w0:World}{Q:Exit→Act→World→Prop}{env:Env}{L:List aj}{id:Nat}{l:Array Oper}(h:Cw P N w0 Q (.region id l false) env L):Cw P N w0 Q (.region id l false) env L:=h
theorem Gc{G G':Prop}(k:G')(h:G'→G:=by
 intro k
 repeat (first
  |(with_reducible refine aP ?_)
  |(with_reducible refine aO ?_)
  |(with_reducible refine aY ?_)
  |(with_reducible refine fW ?_)
  |(with_reducible refine eu ?_)
  |(with_reducible refine fj ?_)
  |(with_reducible refine lK ?_)
  |(with_reducible refine lr ?_)
  |(with_reducible refine mh ?_)
  |(with_reducible refine rB ?_)
  |(with_reducible refine oI ?_)
  |(with_reducible refine rA ?_)
  |(with_reducible refine A4 ?_)
  |(with_reducible refine vQ ?_)
  |(with_reducible refine tR ?_);refine aZ ?_)
 exact k):G:=h k
theorem Gi{G G':Prop}(k:G')(h:G'→G:=by
 intro k
 first
  |(with_reducible refine aP ?_)
  |(with_reducible refine aO ?_)
  |(with_reducible refine aY ?_)
  |(with_reducible refine fW ?_)
  |(with_reducible refine eu ?_)
  |(with_reducible refine fj ?_)
  |(with_reducible refine lK ?_)
  |(with_reducible refine lr ?_)
  |(with_reducible refine mh ?_)
  |(with_reducible refine rB ?_)
  |(with_reducible refine oI ?_)
  |(with_reducible refine rA ?_)
  |(with_reducible refine A4 ?_)
  |(with_reducible refine vQ ?_)
  |(with_reducible refine tR ?_);refine aZ ?_
 exact k):G:=h k
theorem bz{p q:Prop}(h:p)(e:p=q:=by(try simp only[Z0,Z1,Z2,Z3,Z4,Z5,Z6,Z7,Z8,Z9]);exact rfl):q:=e▸h
open Go.RowKit
theorem wo{A X V:List Value}{o:Nat}(h:o=A.length):cQ (A++X).toArray o V.toArray=(A++(V++X.drop V.length)).toArray:=by
 subst h
 unfold cQ
 simp only[List.size_toArray,List.append_assoc]
 rw[List.take_left,List.drop_append]
 simp
section
variable {α:Type} {enc:α→Array Value} {c:Nat} {s:Sv} {xs:List α}
theorem uE(xs ys:List α):aK enc (xs++ys)=aK enc xs++aK enc ys:=by simp[aK]
theorem Rb[he:bx enc c](hc:0<c){cs:Array Value}{o:Nat}(fv:o+xs.length*c≤cs.size)(hr: ∀i x,xs[i]? =some x→ ∀j,j<c→cs[o+i*c+j]? =(enc x)[j]?):
  cs=(cs.toList.take o++(aK enc xs++cs.toList.drop (o+xs.length*c))).toArray:=by
 have key:(cs.toList.drop o).take (xs.length*c)=aK enc xs:=by
  refine List.ext_getElem? fun k=> ?_
  rcases Nat.lt_or_ge k (xs.length*c)with hk|hk
  ·
   rw[List.getElem?_take_of_lt hk,List.getElem?_drop,Array.getElem?_toList]
   have hd:k/c<xs.length:=Nat.div_lt_of_lt_mul (by rwa [Nat.mul_comm])
   have hm:=Nat.mod_lt k hc
   have e:k/c*c+k%c=k:=by rw[Nat.mul_comm];exact Nat.div_add_mod k c
   have h1:=hr (k/c) xs[k/c] (by simp[hd]) (k%c) hm
   have h2:=mo (enc:=enc) xs (k/c) xs[k/c] (by simp[hd]) (k%c) hm
   rw[e]at h2
   rw[h2,←h1];congr 1;omega
  ·
   rw[List.getElem?_eq_none (by simp;omega),List.getElem?_eq_none (by rw[gS];omega)]
 apply Array.ext'
 simp only
 rw[←key,←List.append_assoc,show o+xs.length*c=o+xs.length*c from rfl,←List.drop_drop,List.append_assoc,List.take_append_drop,List.take_append_drop]
theorem Er{a b:Nat}(h:a≤b):a=Nat.min a b:=(Nat.min_eq_left h).symm
theorem Rc{a b:Nat}(h:b≤a):b=Nat.min a b:=(Nat.min_eq_right h).symm
theorem Rd[he:bx enc c](hc:1<c){w0 w:World}{L:List aj}{i:Nat}(hw:Mem w0 L w)(hi:L[i]? =some (own enc c s xs))(hn:s.nil=false):
  ∃pre mid T,pre.length=s.o∧s.o+s.cap*c≤pre.length+(xs.length*c+mid.length)∧s.sp=none∧s.Ok∧s.len=xs.length∧Mem w0 (L.set i (ar s.b (pre++(aK enc xs++mid)).toArray T)) w:=by
 obtain⟨r,mq⟩:=hw.get hi
 obtain⟨gx,cs,T,fz,eP,fv,ly,lM⟩:=mq hn
 obtain rfl:=lM hc
 have hle:=r.ok.le
 have hlen:=r.len
 have hm:xs.length*c≤s.cap*c:=Nat.mul_le_mul_right _ (by omega)
 have e:=Rb (enc:=enc) (c:=c) (xs:=xs) (cs:=cs) (o:=s.o) (by omega) (by omega) fun i x hx j hj=>by
  rw[←r.row i x hx j hj];unfold mi;rw[eP]
 refine⟨cs.toList.take s.o,cs.toList.drop (s.o+xs.length*c),T,by simp;omega,by simp;omega,gx,r.ok,hlen,?_⟩
 rw[←e]
 exact hw.change hi (fun k (hk:k=s.b)=>⟨hn,hk⟩) (fun _ _=>rfl) rfl ⟨rfl,rfl,rfl⟩ eP
theorem Es[he:bx enc c]{w0 w:World}{L:List aj}{i b:Nat}{pre mid:List Value}{T:TypeId}(hw:Mem w0 L w)(hi:L[i]? =some (ar b (pre++(aK enc xs++mid)).toArray T))(s':Sv)(bM:s'.Ok)(hn:s'.nil=false)(hb:s'.b=b)(gx:s'.sp=none)(ho:s'.o=pre.length)(hl:s'.len=xs.length)
  (uk:s'.o+s'.cap*c≤pre.length+(xs.length*c+mid.length)):Mem w0 (L.set i (own enc c s' xs)) w:=by
 subst hb
 have eP:hp w s'.b=some (.cells (pre++(aK enc xs++mid)).toArray T (0,0)):=hw.block hi
 refine hw.change hi (fun k hk=>hk.2) (fun _ _=>rfl) rfl ⟨rfl,rfl,rfl⟩ ⟨sH bM hl eP fun k y hy j hj=> ?_,fun _=>⟨gx,_,_,_,eP,by simp[gS];omega,DP _,fun _=>rfl⟩⟩
 have bt:k*c+j<(aK enc xs).length:=by
  rw[gS]
  have h1:=(List.getElem?_eq_some_iff.1 hy).1
  calc k*c+j<k*c+c:=by omega
   _=(k+1)*c:=by rw[Nat.add_mul];omega
   _≤_:=Nat.mul_le_mul_right _ h1
 rw[List.getElem?_toArray,List.getElem?_append_right (by omega),List.getElem?_append_left (by omega),←mo (enc:=enc) xs k y hy j hj]
 congr 1;omega
theorem Sv.sQ{lo hi:Nat}(h:lo<s.cap):(s.sub c lo hi).o=s.o+lo*c:=by simp only[Sv.sub];rw[if_neg (by omega)]
theorem Sv.yM{hi:Nat}:(s.sub c 0 hi).o=s.o:=by simp only[Sv.sub];split<;>simp
theorem Sv.sub_eq{hi:Nat}(hn:s.nil=false)(gx:s.sp= .none):s.sub c 0 hi=⟨false,s.b,s.o,hi,s.cap, .none⟩:=by
 have h0:=Sv.yM (s:=s) (c:=c) (hi:=hi)
 obtain⟨sn,sb,so,sl,sc,ss⟩:=s
 simp only[Sv.sub]at h0 hn gx⊢
 subst hn gx
 rw[h0];rfl
end
section
variable {P:Program} {N:cB} {w0:World} {env:Env} {L:List aj} {Q:Exit→Act→World→Prop} {l rest:List Oper} {d:Option Tmp} {ty:TypeId} {ps:String} {af:Array Edge} {gd:Option (Nat×Bool)} {K:Value→List aj→Prop}
variable {α:Type} {enc:α→Array Value} {c:Nat} {s:Sv} {xs:List α}
theorem Re{w:World}{pre A mid:List Value}{T:TypeId}{b o:Nat}{L':List aj}(hw:Mem w0 (ar b (pre++(A++mid)).toArray T::L') w)(ho:pre.length=o){j:Nat}{u:Value}(hj:A[j]? =some u):w.cell? ⟨b,o+j,none⟩=some u:=by
 have jf:=(List.getElem?_eq_some_iff.1 hj).1
 have h0:(ar b (pre++(A++mid)).toArray T::L')[0]? =some (ar b (pre++(A++mid)).toArray T):=rfl
 rw[hw.cell h0,List.getElem?_toArray,List.getElem?_append_right (by omega),List.getElem?_append_left (by omega),←hj]
 congr 1;omega
theorem Jj{code:Code}[he:bx enc c]{i:Nat}(q:fG L s enc c xs i)(hc:1<c)(hn:0<xs.length){L':List Value→List Value→TypeId→List aj}[hu: ∀pre mid T,fw L i (ar s.b (pre++(aK enc xs++mid)).toArray T) (L' pre mid T)]
  (h: ∀pre mid T,pre.length=s.o→s.o+s.cap*c≤pre.length+(xs.length*c+mid.length)→s.nil=false→s.sp=none→s.Ok→s.len=xs.length→Cw P N w0 Q code env (L' pre mid T)):Cw P N w0 Q code env L:=fun a w ha hw=>by
 have mz:=(hw.get q.h).1.some hn
 obtain⟨pre,mid,T,h1,h2,h3,h4,h5,h6⟩:=Rd hc hw q.h mz
 rw[(hu pre mid T).h]at h6
 exact h pre mid T h1 h2 mz h3 h4 h5 a w ha h6
theorem A5{code:Code}{i:Nat}(q:fG L s enc c xs i)(hn:0<xs.length)(h:s.nil=false→s.sp=none→s.Ok→s.len=xs.length→Cw P N w0 Q code env L):Cw P N w0 Q code env L:=fun a w ha hw=>by
 obtain⟨r,mq⟩:=hw.get q.h
 have mz:=r.some hn
 exact h mz (mq mz).1 r.ok r.len a w ha hw
theorem Jk[he:bx enc c](hc:0<c){i:Nat}(q:fG L s enc c xs i){w:World}(hw:Mem w0 L w){j:Nat}{v:Value}(hj:(aK enc xs)[j]? =some v):w.cell? ⟨s.b,s.o+j,none⟩=some v:=by
 obtain⟨x,hx,hv⟩:=AE hc hj
 have r:=(hw.get q.h).1
 rw[qw,←hv,←r.row _ x hx (j%c) (Nat.mod_lt _ hc)]
 congr 1
 have:=Nat.div_add_mod j c
 rw[Nat.mul_comm]at this;omega
theorem Rf(w:World)(dT sT ty elem:TypeId)(b o Jl Rh:Nat)(a:Addr)(Jm Ri n:Nat)(cur:Array Value)(t:TypeId)(vs:List Value)
  (hu:P.underlying dT=some (.slice elem)) (hs:(P.info? elem).map (·.size)=some c) (hg:w.heap[b]? =some (.cells cur t (0,0))) (hn:n=Nat.min Jm Jl) (hv:vs.length=n*c)
  (lq: ∀j v,vs[j]? =some v→w.cell? (a.add j)=some v) (iG:o+vs.length≤cur.size) (h1: ∀v∈vs,v.oneCell'=true):
  (Builtin.copy_ #[dT,sT] ty #[.slice (some ⟨b,o,none⟩) Jl Rh, .slice (some a) Jm Ri]).run P w= .ok (goInt n) (w.setRow b (cQ cur o vs.toArray)):=by
 have hl:=run_loadCells_list (P:=P) w a vs lq
 have bG:=run_storeCells_at P b o t vs 0 cur w hg (by simpa using iG) h1
 rw[hv]at hl
 cases hq:P.info? elem with
 |none=>simp[hq]at hs
 |some i=>
  have hi:i.size=c:=by simpa[hq]using hs
  simp[Builtin.copy_,run_underlying hu,Builtin.lenOf,Builtin.firstCells,sizeOf,typeInfo,hq,hi,←hn,hl,bG,cQ]
theorem A6{D S:Sv}{x y:Operand}{tx fV e:TypeId}{i b o n:Nat}{cs:Array Value}{T:TypeId}{vs:List Value}(hx:ev env x=some D.val)(hy:ev env y=some S.val)
  (lB:D.nil=false) (mA:D.sp=none) (n0:D.b=b) (pQ:D.o=o) (yN:S.nil=false) (yO:S.sp=none) [ht:eW P tx e c] [hh:Has L b cs T i] (hn:n=Nat.min S.len D.len) (hv:vs.length=n*c)
  (lq: ∀w,Mem w0 L w→ ∀j v,vs[j]? =some v→w.cell? ⟨S.b,S.o+j,none⟩=some v) (h1: ∀v∈vs,v.oneCell'=true) (ho:o+vs.length≤cs.size) {cs':Array Value} {L':List aj} (gK:cQ cs o vs.toArray=cs') [hu:fw L i (ar b cs' T) L']
  (hk:Sq P N w0 l Q rest (cw env d (.int .i64 n)) L') (hd:dj N d=true:=by rfl):
  Sq P N w0 l Q (⟨d, .call {callee:= .builtin .copy,args:= #[x,y],argTypes:= #[tx,fV]},ty,ps,af,none⟩::rest) env L:=
 mg rfl hd fun aa w ha hw=>by
  rw[Sv.g9 lB,mA,n0,pQ]at hx
  rw[Sv.g9 yN,yO]at hy
  have hb:=hw.block hh.h
  have fT:=Rf (P:=P) w tx fV ty e b o D.len D.cap ⟨S.b,S.o,none⟩ S.len S.cap n cs T vs ht.et ht.size hb hn hv (fun j v hj=>by rw[Addr.gw];exact lq w hw j v hj) ho h1
  refine⟨_,_,_,?_,by rw[←hu.h,←gK];exact hw.setRow hh.h _,hk⟩
  simp[execOp,ha.ev hx,ha.ev hy,resolve,invoke,builtin,fT,Result.andThen,goInt]
theorem Rj{D S:Sv}{x y:Operand}{tx fV e e':TypeId}{cG i b o n:Nat}{cs:Array Value}{T:TypeId}{vs:List Value}(hx:ev env x=some D.val)(hy:ev env y=some S.val)
  (lB:D.nil=false) (mA:D.sp=none) (n0:D.b=b) (pQ:D.o+D.len*c=o) (yN:S.nil=false) (yO:S.sp=none) [ht:fk P tx e c cG] (Et:P.underlying fV=some (.slice e')) [hh:Has L b cs T i] (hn:S.len=n) (hv:vs.length=n*c) (ng:D.len+n≤D.cap)
  (lq: ∀w,Mem w0 L w→ ∀j v,vs[j]? =some v→w.cell? ⟨S.b,S.o+j,none⟩=some v) (h1: ∀v∈vs,v.oneCell'=true) (ho:o+vs.length≤cs.size) {cs':Array Value} {L':List aj} (gK:cQ cs o vs.toArray=cs') [hu:fw L i (ar b cs' T) L']
  {R:Sv} (hR:R=⟨false,b,D.o,D.len+n,D.cap,none⟩) (hk:Sq P N w0 l Q rest (cw env d R.val) L') (hd:dj N d=true:=by rfl):
  Sq P N w0 l Q (⟨d, .call {callee:= .builtin .append,args:= #[x,y],argTypes:= #[tx,fV]},ty,ps,af,none⟩::rest) env L:=
 mg rfl hd fun aa w ha hw=>by
  subst hR pQ n0
  rw[Sv.g9 lB,mA]at hx
  rw[Sv.g9 yN,yO,hn]at hy
  have hb:=hw.block hh.h
  obtain⟨i',z,bk,aG,bB,cV,lL⟩:=ht.info
  have hs:=Src.ofSlice (P:=P) (size:=c) w Et ⟨S.b,S.o,none⟩ n S.cap vs hv (fun j v hj=>by rw[Addr.gw];exact lq w hw j v hj) h1
  have bG:=run_storeCells_at P D.b (D.o+D.len*c) T vs 0 cs w hb (by simpa using ho) h1
  have fT:(Builtin.append_ #[tx,fV] ty #[.slice (some ⟨D.b,D.o,none⟩) D.len D.cap, .slice (some ⟨S.b,S.o,none⟩) n S.cap]).run P w= .ok (.slice (some ⟨D.b,D.o,none⟩) (D.len+n) D.cap) (w.setRow D.b (cQ cs (D.o+D.len*c) vs.toArray)):=by
   subst bB
   rcases hs.kind with⟨e',hk⟩|hk<;>simp[Builtin.append_,run_underlying ht.et,run_underlying hk,sizeOf,typeInfo,bk,hs.len,ng,hs.cells,Addr.gw,bG,cQ]
  refine⟨_,_,_,?_,by rw[←hu.h,←gK];exact hw.setRow hh.h _,hk⟩
  simp[execOp,ha.ev hx,ha.ev hy,resolve,invoke,builtin,fT,Result.andThen,Sv.val]
theorem Rk{D:Sv}{x y:Operand}{tx fV e:TypeId}{cG k:Nat}{z:Value}{olds:List Value}{kn kq:IntKind}{iy:Int}{p m:Nat}(hp:D.len=p)(hm:p+k=m)(hx:ev env x=some D.val)(hy:ev env y=some (.int kq iy))(rJ:iy=(k:Int))(h0:0<k)
  (lB:D.nil=false) (mA:D.sp=none) [ht:fk P tx e c cG] (hc:0<c) [hz:fh P e z] (Eu:P.underlying fV=some (.int kn)) (holds:olds.length=D.len*c) (lq: ∀w,Mem w0 L w→ ∀j v,olds[j]? =some v→w.cell? ⟨D.b,D.o+j,none⟩=some v)
  (hg:D.cap<D.len+k) (hb:(D.len+k)*cG≤140737488355328) (iO:D.len+k≤140737488355328)
  (hk: ∀(b C:Nat) (Z:List Value),m≤C→p*c+Z.length=C*c→Sq P N w0 l Q rest (cw env d (Sv.val ⟨false,b,0,m,C,none⟩)) (ar b (olds++Z).toArray e::L)) (hd:dj N d=true:=by rfl):
  Sq P N w0 l Q (⟨d, .call {callee:= .builtin .append,args:= #[x,y],argTypes:= #[tx,fV]},ty,ps,af,none⟩::rest) env L:=
 mg rfl hd fun aa w ha hw=>by
  subst rJ hp hm
  rw[Sv.g9 lB,mA]at hx
  obtain⟨i',z',bk,aG,bB,cV,lL⟩:=ht.info
  subst bB cV
  have uk:=nextslicecap_le hg
  have iG:Builtin.nextslicecap (D.len+k) D.cap*i'.bytes≤281474976710656:=by
   have h2:Builtin.nextslicecap (D.len+k) D.cap*i'.bytes≤2*(D.len+k)*i'.bytes:=Nat.mul_le_mul_right _ uk
   rw[Nat.mul_assoc]at h2
   omega
  have Ev:k*i'.bytes≤281474976710656:=by
   have:k*i'.bytes≤(D.len+k)*i'.bytes:=Nat.mul_le_mul_right _ (by omega)
   omega
  have hold:=run_firstCells_some (P:=P) w.drew i'.size D.len ⟨D.b,D.o,none⟩ D.len D.cap olds holds (fun j v hj=>by rw[Addr.gw];exact lq w hw j v hj)
  have fT:=Lib.run_append_grow_zeros (P:=P) w tx fV ty e i' z' kq kn ht.et Eu bk aG (some ⟨D.b,D.o,none⟩) D.len D.cap olds hold k h0 hc hg (by omega) Ev iG
  have qy:=grownCap_ge w (D.len+k) D.cap e
  generalize grownCap w (D.len+k) D.cap e=C at fT qy
  have yP:=size_zeroCells z'.cells k
  have A7:=size_zeroCells z'.cells (C -(D.len+k))
  rw[lL]at yP A7
  have hZ:D.len*i'.size+(Builtin.zeroCells z'.cells k++Builtin.zeroCells z'.cells (C -(D.len+k))).toList.length=C*i'.size:=by
   rw[Array.length_toList,Array.size_append,yP,A7,←Nat.add_mul,←Nat.add_mul];congr 1;omega
  have e1:olds.toArray++Builtin.zeroCells z'.cells k++Builtin.zeroCells z'.cells (C -(D.len+k))=(olds++(Builtin.zeroCells z'.cells k++Builtin.zeroCells z'.cells (C -(D.len+k))).toList).toArray:=by apply Array.ext';simp
  rw[e1]at fT
  refine⟨_,_,_,?_,hw.drew.alloc _ e,hk w.heap.size C _ qy hZ⟩
  simp[execOp,ha.ev hx,ha.ev hy,resolve,invoke,builtin,fT,Result.andThen,Sv.val]
theorem Rl{D:Sv}{x:Operand}{tx e:TypeId}{cG i b o n:Nat}{z:Value}{cs:Array Value}{T:TypeId}(hx:ev env x=some D.val)(lB:D.nil=false)(mA:D.sp=none)(n0:D.b=b)(pQ:D.o=o)(hn:D.len=n)(h0:0<n)[ht:fk P tx e c cG][hz:fh P e z](h1:z.cells.all (·.oneCell')=true)[hh:Has L b cs T i](ho:o+n*c≤cs.size)
  {L':List Value→List aj} [hu: ∀Z,fw L i (ar b (cQ cs o Z.toArray) T) (L' Z)] (hk: ∀Z:List Value,Z.length=n*c→Sq P N w0 l Q rest env (L' Z)):
  Sq P N w0 l Q (⟨none, .call {callee:= .builtin .clear,args:= #[x],argTypes:= #[tx]},ty,ps,af,none⟩::rest) env L:=
 mg rfl rfl fun aa w ha hw=>by
  rw[Sv.g9 lB,mA,n0,pQ,hn]at hx
  have hb:=hw.block hh.h
  obtain⟨i',z',bk,aG,bB,cV,lL⟩:=ht.info
  obtain rfl:z'=z:=by
   have:=hz.zero
   rw[bk,Option.map_some,aG]at this;exact Option.some.inj (Option.some.inj this)
  subst bB
  have hZ:=size_zeroCells z'.cells n
  rw[lL]at hZ
  have qD: ∀v∈(Builtin.zeroCells z'.cells n).toList,v.oneCell'=true:=fun v hv=>by
   simp only[Builtin.zeroCells,Array.toList_map,List.mem_map]at hv
   obtain⟨j,hj,rfl⟩:=hv
   have nt:0<z'.cells.size:=by
    rcases Nat.eq_zero_or_pos z'.cells.size with h|h
    ·
     rw[h]at hj;simp at hj
    ·
     exact h
   rw[getElem!_pos z'.cells _ (Nat.mod_lt _ nt)]
   exact(Array.all_eq_true_iff_forall_mem.1 h1) _ (Array.getElem_mem _)
  have bG:=run_storeCells_at P b o T (Builtin.zeroCells z'.cells n).toList 0 cs w hb (by simp[hZ];omega) qD
  have fT:(Builtin.clear_ #[tx] ty #[.slice (some ⟨b,o,none⟩) n D.cap]).run P w= .ok (.tuple #[]) (w.setRow b (cQ cs o (Builtin.zeroCells z'.cells n))):=by
   obtain⟨m,rfl⟩: ∃m,n=m+1:=⟨n -1,by omega⟩
   simp[Builtin.clear_,run_underlying ht.et,zeroValue,typeInfo,bk,aG,bG,cQ]
  refine⟨.tuple #[],w.setRow b (cQ cs o (Builtin.zeroCells z'.cells n)),L' (Builtin.zeroCells z'.cells n).toList,?_,?_,hk _ (by rw[Array.length_toList,hZ])⟩
  ·
   simp[execOp,ha.ev hx,resolve,invoke,builtin,fT,Result.andThen]
  ·
   have h9:=hw.setRow hh.h (cQ cs o (Builtin.zeroCells z'.cells n))
   rw[←(hu _).h]
   simpa using h9
def Sv.top(s:Sv)(m:Nat):Sv:=⟨s.nil,s.b,s.o,s.len,m,s.sp⟩
theorem Jn{t e:TypeId}{x lo hi mx:Operand}{l h m:Nat}{k k' Jo:IntKind}{il ih im:Int}[ht:eW P t e c](hx:ev env x=some s.val)[q:Hd w0 L s enc c xs](hl:ev env lo=some (.int k il))(hh:ev env hi=some (.int k' ih))(hm:ev env mx=some (.int Jo im))(el:il=(l:Int))(eh:ih=(h:Int))(em:im=(m:Int))(h1:l≤h)(h2:h≤m)(h3:m≤xs.length):
  Ry P N w0 env L ⟨d, .slice t x (some lo) (some hi) (some mx),ty,ps,af,gd⟩ ((s.top m).sub c l h).val:=fun a w ha hw=>by
 subst el eh em
 have r:=q.h w hw
 have hs:=r.ok
 have hlen:=r.len
 have hle:=hs.le
 have ee:=vW ht.et
 have hu:P.underlying t=some (.slice (P.elem t)):=by rw[ee];exact ht.et
 obtain⟨ad,len,cap,mj⟩:=s.ex
 have e3:len=s.len∧cap=s.cap∧sliced ad l h m c=((s.top m).sub c l h).val:=by
  cases hn:s.nil with
  |true=>
   rw[Sv.qv hn]at mj
   obtain⟨rfl,rfl,rfl⟩:=by simpa using mj
   have:=hs.nil hn
   have e2:((s.top m).sub c l h).nil=true:=hn
   rw[Sv.qv e2]
   have:l=0:=by omega
   have:h=0:=by omega
   have:m=0:=by omega
   subst l h m
   exact⟨by omega,by omega,by simp[sliced]⟩
  |false=>
   rw[Sv.g9 hn]at mj
   obtain⟨rfl,rfl,rfl⟩:=by simpa using mj
   have e2:((s.top m).sub c l h).nil=false:=hn
   rw[Sv.g9 e2]
   refine⟨rfl,rfl,?_⟩
   simp only[sliced,Sv.sub,Sv.top]
   by_cases hc:m=l
   ·
    simp[hc]
   ·
    have gx:=hs.sp (by omega)
    simp[hc,gx,Addr.gw]
 obtain⟨e1,e2,e3⟩:=e3
 have hr:=run_slice_lhm (P:=P) (w:=w) t ad len cap hu k k' Jo (l:Int) (h:Int) (m:Int) (by omega) (by omega) (by omega) (by omega)
 rw[ee,kF w ht.size]at hr
 simp only[Result.andThen,Int.toNat_natCast,e3]at hr
 simp only[execOp,ha.ev hx,ha.ev hl,ha.ev hh,ha.ev hm,mj,Option.map_some,run_sliceAt_slice (h:=hu),hr,Sem.run_bind,Result.andThen,Sem.run_pure]
theorem Rn{t e:TypeId}{x:Operand}{m n:Nat}[ht:eW P t e m](hx:ev env x=some s.val)(mz:s.nil=false)(hn:s.cap=n):
  Ry P N w0 env L ⟨d, .call {callee:= .builtin .cap,args:= #[x],argTypes:= #[t]},ty,ps,af,gd⟩ (.int .i64 n):=fun a w ha _=>by
 subst hn
 rw[Sv.g9 mz]at hx
 have hu:P.underlying t=some (.slice (P.elem t)):=by rw[vW ht.et];exact ht.et
 have:=run_cap_slice (P:=P) (w:=w) t ty (some ⟨s.b,s.o,s.sp⟩) s.len s.cap hu
 simp[execOp,ha.ev hx,resolve,invoke,builtin,this,Result.andThen,goInt]
class Jp(P:Program)(f:FuncId)(tS tR:outParam TypeId):Prop where
 fn: ∃fn,P.funcs[f]? =some fn∧(fn.name== "runtime.NumGoroutine")=false∧fn.body.isNone=true∧Extern.findNext fn=none∧Extern.find fn=some (Extern.SlicesOverlaps.overlaps #[tS,tS] #[tR])
theorem Mem.apart{w:World}{i j k:Nat}{e e':aj}(h:Mem w0 L w)(hi:L[i]? =some e)(hj:L[j]? =some e')(nN:i≠j)(hk:e.fp k): ¬e'.fp k:=by
 obtain⟨gi,rfl⟩:=List.getElem?_eq_some_iff.1 hi
 obtain⟨gj,rfl⟩:=List.getElem?_eq_some_iff.1 hj
 have hd:=List.pairwise_iff_getElem.1 h.na
 rcases Nat.lt_or_gt_of_ne nN with h1|h1
 ·
  exact hd i j gi gj h1 k hk
 ·
  exact fun h2=>hd j i gj gi h1 k h2 hk
theorem Ro{V D:Sv}{x y:Operand}{f:FuncId}{ts:Array TypeId}{tS tR e T:TypeId}{i j b:Nat}{cs:Array Value}(hx:ev env x=some V.val)(hy:ev env y=some D.val)[hf:Jp P f tS tR][ht:eW P tS e c](hc:1<c)[q:fG L V enc c xs i](hv:0<xs.length)[hh:Has L b cs T j](lB:D.nil=false)(mA:D.sp=none)(n0:D.b=b)(gK:0<cs.size)(nN:i≠j:=by decide):
  Ry P N w0 env L ⟨d, .call {callee:= .value (.func f),args:= #[x,y],argTypes:=ts},ty,ps,af,gd⟩ (.bool false):=fun a w ha hw=>by
 obtain⟨r,mq⟩:=hw.get q.h
 have Ew:=r.some hv
 obtain⟨Rp,cv,Tv,fz,eP,fv,ly,lM⟩:=mq Ew
 obtain rfl:=lM hc
 have hb:=hw.block hh.h
 have cF:V.b≠b:=fun e0=>hw.apart q.h hh.h nN (k:=V.b) ⟨Ew,rfl⟩ e0
 subst n0
 rw[Sv.g9 Ew,Rp]at hx
 rw[Sv.g9 lB,mA]at hy
 obtain⟨fn,h1,h2,h3,h4,h5⟩:=hf.fn
 have fT:=Lib.run_overlaps_apart (P:=P) w tS tR e ht.et c (fun w=>kF w ht.size) ⟨V.b,V.o,none⟩ ⟨D.b,D.o,none⟩ V.len V.cap D.len D.cap cF Tv T cv.size cs.size (by simp[World.shape?,eP]) (by simp[World.shape?,hb]) (by omega) (by simp[World.frozen?,eP]) (by simp[World.frozen?,eP])
 have Jq:=run_callFunc_extern (P:=P) h1 h2 h3 h4 h5 #[.slice (some ⟨V.b,V.o,none⟩) V.len V.cap, .slice (some ⟨D.b,D.o,none⟩) D.len D.cap] w
 rw[fT]at Jq
 have e1:a.eval (.func f)= .func (.func f) #[] #[]:=rfl
 simp[execOp,ha.ev hx,ha.ev hy,resolve,e1,Deferred.ofValue,invoke,Jq,Result.andThen]
end
end Go.ay
namespace Go.Kb
def Rq:Nat:=3988292384
def Ey(n:Nat):Nat:=(n/2)^^^(if n%2=1 then Rq else 0)
theorem Rr{n:Nat}(h:n<2^32):Ey n<2^32:=by
 refine Nat.xor_lt_two_pow (by omega) ?_
 split
 ·
  decide
 ·
  decide
def mB(n:Nat):Nat→Nat
 |0=>n
 |k+1=>Ey (mB n k)
theorem Ez{n:Nat}(h:n<2^32): ∀k,mB n k<2^32
 |0=>h
 |k+1=>Rr (Ez h k)
def EA(n:Nat)(b:UInt8):Nat:=mB (n^^^b.toNat) 8
theorem Rs{n:Nat}{b:UInt8}(h:n<2^32):EA n b<2^32:=Ez (Nat.xor_lt_two_pow h (by have:=b.toNat_lt;omega)) 8
def jX(n:Nat)(l:List UInt8):Nat:=l.foldl EA n
theorem A8{n:Nat}(h:n<2^32): ∀l,jX n l<2^32
 |[]=>h
 |b::l=>A8 (Rs h) l
theorem Ru{n:Nat}{l:List UInt8}{i:Nat}{b:UInt8}(h:l[i]? =some b):jX n (l.take (i+1))=EA (jX n (l.take i)) b:=by
 rw[List.take_add_one,h,jX,jX,List.foldl_append];rfl
def lP(l:List UInt8):Nat:=4294967295 -jX 4294967295 l
theorem EB(l:List UInt8):lP l<2^32:=by unfold lP;omega
end Go.Kb
namespace Go.ay
open Go.RowKit
section
variable {α:Type} {enc:α→Array Value} {c:Nat} {s:Sv} {xs:List α}
theorem Mem.Jr{w0 w:World}{L:List aj}{i k:Nat}(hw:Mem w0 L w)(hi:L[i]? =some (own enc c s xs))(hk:k≤xs.length):Mem w0 (L.set i (own enc c (s.sub c 0 k) (xs.take k))) w:=by
 obtain⟨r,mq⟩:=hw.get hi
 have r2:=r.sub (lo:=0) (hi:=k) (Nat.zero_le _) hk
 rw[List.drop_zero,Nat.sub_zero]at r2
 refine hw.change hi (fun k hk=>hk) (fun _ _=>rfl) rfl ⟨rfl,rfl,rfl⟩ ⟨r2,fun hn=> ?_⟩
 obtain⟨h1,cs,T,fz,h2,h3,h4,h5⟩:=mq hn
 refine⟨h1,cs,T,fz,h2,?_,h4,h5⟩
 rw[Sv.yM];exact h3
end
section
variable {P:Program} {N:cB} {w0:World} {env:Env} {L:List aj} {Q:Exit→Act→World→Prop} {l rest:List Oper} {d:Option Tmp} {ty:TypeId} {ps:String} {af:Array Edge} {gd:Option (Nat×Bool)}
variable {α:Type} {enc:α→Array Value} {c:Nat} {xs:List α}
theorem Js{x y:Operand}{tx fV e:TypeId}{cG k:Nat}{z:Value}{kn kq:IntKind}{iy:Int}(x0:α)(hx:ev env x=some (.slice none 0 0))(hy:ev env y=some (.int kq iy))(rJ:iy=(k:Int))(h0:0<k)
  [ht:fk P tx e c cG] [he:bx enc c] (hc:0<c) [hz:fh P e z] (Jt:enc x0=z.cells) (Eu:P.underlying fV=some (.int kn)) (hb:k*cG≤140737488355328) (iO:k≤140737488355328)
  (hk: ∀b C:Nat,k≤C→Sq P N w0 l Q rest (cw env d (Sv.val ⟨false,b,0,k,C,none⟩)) (own enc c ⟨false,b,0,k,C,none⟩ (List.replicate k x0)::L)) (hd:dj N d=true:=by rfl):
  Sq P N w0 l Q (⟨d, .call {callee:= .builtin .append,args:= #[x,y],argTypes:= #[tx,fV]},ty,ps,af,none⟩::rest) env L:=
 mg rfl hd fun aa w ha hw=>by
  subst rJ
  obtain⟨i',z',bk,aG,bB,cV,lL⟩:=ht.info
  obtain rfl:z'=z:=by
   have:=hz.zero
   rw[bk,Option.map_some,aG]at this;exact Option.some.inj (Option.some.inj this)
  subst bB cV
  have fT:=Lib.run_append_nil_zeros (P:=P) w tx fV ty e i' z' kq kn ht.et Eu bk aG k h0 hc (by omega) (by omega)
  have qy:=grownCap_ge w k 0 e
  generalize grownCap w k 0 e=C at fT qy
  have yP:=size_zeroCells z'.cells k
  have A7:=size_zeroCells z'.cells (C -k)
  have Rv: ∀m i j,i<m→j<i'.size→(Builtin.zeroCells z'.cells m)[i*i'.size+j]? =z'.cells[j]? :=fun m i j hi hj=>by
   have bt:i*i'.size+j<m*z'.cells.size:=by
    rw[lL]
    have:(i+1)*i'.size≤m*i'.size:=Nat.mul_le_mul_right _ hi
    rw[Nat.add_mul]at this;omega
   have e1:(i*i'.size+j)%z'.cells.size=j:=by rw[lL,Nat.mul_comm,Nat.mul_add_mod];exact Nat.mod_eq_of_lt hj
   have Rw:j<z'.cells.size:=by omega
   simp[Builtin.zeroCells,bt,e1,Rw]
  refine⟨_,_,_,?_,hw.drew.call (vY (enc:=enc) (c:=i'.size) (xs:=List.replicate k x0) (cs:=Builtin.zeroCells z'.cells k++Builtin.zeroCells z'.cells (C -k)) (e:=e) rfl k C (by simp) qy iO ?_ fun i x hx j hj=> ?_),hk _ C qy⟩
  ·
   simp[execOp,ha.ev hx,ha.ev hy,resolve,invoke,builtin,fT,Result.andThen,Sv.val]
  ·
   rw[Array.size_append,yP,A7,lL,←Nat.add_mul];exact Nat.mul_le_mul_right _ (by omega)
  ·
   have hi:i<k:=by
    have:=(List.getElem?_eq_some_iff.1 hx).1
    simpa using this
   obtain rfl:x0=x:=by rw[List.getElem?_replicate,if_pos hi]at hx;exact Option.some.inj hx
   rw[Jt,←Rv k i j hi hj,Array.getElem?_append_left]
   rw[yP,lL]
   have:(i+1)*i'.size≤k*i'.size:=Nat.mul_le_mul_right _ hi
   rw[Nat.add_mul]at this;omega
theorem A9{t e:TypeId}{x:Operand}{m:Nat}[ht:eW P t e m](hx:ev env x=some (.slice none 0 0)):
  Ry P N w0 env L ⟨d, .call {callee:= .builtin .cap,args:= #[x],argTypes:= #[t]},ty,ps,af,gd⟩ (.int .i64 (0:Nat)):=fun a w ha _=>by
 have hu:P.underlying t=some (.slice (P.elem t)):=by rw[vW ht.et];exact ht.et
 have:=run_cap_slice (P:=P) (w:=w) t ty none 0 0 hu
 simp[execOp,ha.ev hx,resolve,invoke,builtin,this,Result.andThen,goInt]
class sR(w0:World)(L:List aj){τ:Type}[Deep τ](xs:List τ):Prop where
 h: ∀w,Mem w0 L w→ ∀x∈xs,Deep.bh (hp w) x
instance sR.nil{τ:Type}[Deep τ]:sR w0 L ([]:List τ):=⟨fun _ _ _ h=>by cases h⟩
instance sR.cons{τ:Type}[Deep τ]{x:τ}{xs:List τ}[a:aW w0 L x][b:sR w0 L xs]:sR w0 L (x::xs):=⟨fun w hw y hy=>by
 rcases List.mem_cons.1 hy with rfl|hy
 ·
  exact a.h w hw
 ·
  exact b.h w hw y hy⟩
instance (priority:=low) aW.flat {τ:Type}[Deep τ][Plain τ]{enc:τ→Array Value}{c:Nat}[fO τ enc c]{s:Sv}{xs:List τ}[q:c6 w0 L enc c s xs]:aW w0 L (⟨s,xs⟩:Sl τ):=⟨fun w hw=>by
 have hl:=q.h w hw
 have e1:Deep.cells (τ:=τ)=enc:=funext (fO.h (c:=c))
 have e2:Deep.c τ=c:=fO.hc (enc:=enc)
 refine⟨?_,fun x _=>Deep.iP _ x (by rw[Plain.h x];exact trivial)⟩
 subst e1 e2
 exact hl⟩
instance (priority:=low) aW.rows {τ:Type}[Deep τ]{enc:τ→Array Value}{c:Nat}[fO τ enc c]{s:Sv}{xs:List τ}[q:c6 w0 L enc c s xs][g:sR w0 L xs]:aW w0 L (⟨s,xs⟩:Sl τ):=⟨fun w hw=>by
 have hl:=q.h w hw
 have e1:Deep.cells (τ:=τ)=enc:=funext (fO.h (c:=c))
 have e2:Deep.c τ=c:=fO.hc (enc:=enc)
 refine⟨?_,g.h w hw⟩
 subst e1 e2
 exact hl⟩
theorem Rx{τ:Type}[Deep τ]{s:Sv}{xs:List τ}[g:aW w0 L (⟨s,xs⟩:Sl τ)](h: ∀a:Sl τ,a=⟨s,xs⟩→aW w0 L a→Sq P N w0 l Q rest (cw env d a.sv.val) L):Sq P N w0 l Q rest (cw env d s.val) L:=h _ rfl g
def jH(l:List (Sl UInt8)):List UInt8:=(l.map Sl.xs).flatten
theorem Ba{l:List (Sl UInt8)}{i:Nat}{x:Sl UInt8}(h:l[i]? =some x):jH (l.take (i+1))=jH (l.take i)++x.xs:=by
 rw[jH,List.take_add_one,h];simp[jH]
theorem Rz(l:List (Sl UInt8))(i:Nat):(jH (l.take i)).length≤(jH l).length:=by
 have e:jH l=jH (l.take i)++jH (l.drop i):=by
  unfold jH
  rw[←List.flatten_append,←List.map_append,List.take_append_drop]
 rw[e,List.length_append];omega
end
theorem RA(l:List UInt8): ∀n,l.foldl (fun a b=>a*256+b.toNat) n=n*256^l.length+de l:=by
 induction l with
 |nil=>intro n;simp[de]
 |cons x l ih=>
  intro n
  rw[List.foldl_cons,ih,show de (x::l)=l.foldl (fun a b=>a*256+b.toNat) (0*256+x.toNat)from rfl,ih,List.length_cons,Nat.pow_succ]
  simp only[Nat.zero_mul,Nat.zero_add,Nat.add_mul]
  rw[Nat.mul_assoc n,Nat.mul_comm 256,Nat.add_assoc]
theorem RB(x:UInt8)(l:List UInt8):de (x::l)=x.toNat*256^l.length+de l:=by
 rw[show de (x::l)=l.foldl (fun a b=>a*256+b.toNat) (0*256+x.toNat)from rfl,RA];simp
theorem Ju(l:List UInt8):de l<256^l.length:=by
 have:=DX l l.length (Nat.le_refl _)
 rwa [List.take_length]at this
theorem RC(m n:Nat): ∀k,be (m*256^k+n) k=be n k
 |0=>rfl
 |k+1=>by
  have e:m*256^(k+1)+n=(m*256)*256^k+n:=by rw[Nat.pow_succ,Nat.mul_assoc,Nat.mul_comm 256]
  rw[be,be,e,RC (m*256) n k,Nat.add_comm,Nat.add_mul_div_right _ _ (Nat.pow_pos (by decide))]
  congr 1
  apply UInt8.toNat_inj.1
  rw[pI,pI];omega
theorem Bb(n:Nat): ∀k,de (be n k)=n%256^k
 |0=>by simp[be,de,Nat.mod_one]
 |k+1=>by
  rw[be,RB,hG,Bb n k,pI,Nat.pow_succ,Nat.mod_mul,Nat.mul_comm,Nat.add_comm]
open Go.RowKit
section
variable {w0:World} {L:List aj} {α:Type} {enc:α→Array Value} {c:Nat} {xs ys:List α} {s t:Sv} {g:Bool}
end
section
variable {P:Program} {N:cB} {w0:World} {env:Env} {L:List aj} {l:List Oper} {Q:Exit→Act→World→Prop} {rest:List Oper} {d:Option Tmp} {ty:TypeId} {ps:String} {af:Array Edge}
end
section
variable {w0:World} {L:List aj} {τ:Type} [Deep τ]
instance (priority:=low) sR.of {a:Sl τ}[q:aW w0 L a]:sR w0 L a.xs:=⟨fun w hw=>(q.h w hw).2⟩
end
section
variable {w0:World} {L:List aj} {τ:Type} [Deep τ]
end
open Go.RowKit
class eQ(τ:Type)[d:Deep τ] where
 reach:τ→Nat→Prop
 congr: ∀(h h':Nat→Option Obj) (x:τ),(∀k,reach x k→h' k=h k)→d.bh h x→d.bh h' x
theorem bV.congr{α:Type}{enc:α→Array Value}{c:Nat}{h h':Nat→Option Obj}{s:Sv}{xs:List α}(e:xs≠[]→h' s.b=h s.b)(r:bV enc c h s xs):bV enc c h' s xs:=
 ⟨r.ok,r.len,fun i x hi j hj=>by
  have cF:xs≠[]:=fun he=>by rw[he]at hi;simp at hi
  rw[←r.row i x hi j hj];unfold mi;rw[e cF]⟩
@[reducible] def eQ.flat {τ:Type}[d:Deep τ](hg: ∀h x,d.bh h x):eQ τ:=⟨fun _ _=>False,fun _ h' x _ _=>hg h' x⟩
instance eQ.slice{τ:Type}[d:Deep τ][r:eQ τ]:eQ (Sl τ) where
 reach a k:=(a.xs≠[]∧k=a.sv.b)∨ ∃x∈a.xs,r.reach x k
 congr h h' a e g:=⟨g.1.congr fun cF=>e _ (.inl ⟨cF,rfl⟩),fun x hx=>r.congr h h' x (fun k hk=>e k (.inr ⟨x,hx,hk⟩)) (g.2 x hx)⟩
instance:eQ UInt8:=eQ.flat fun _ _=>trivial
def fz{τ:Type}[d:Deep τ][r:eQ τ](x:τ):aj:=⟨r.reach x,fun h=>d.bh h x,fun h h' e s=>r.congr h h' x e s⟩
section
variable {w0:World} {L:List aj} {τ:Type} [d:Deep τ] [r:eQ τ]
instance (priority:=high) aW.frozen {a:τ}{i:Nat}[q:At L (fz a) i]:aW w0 L a:=⟨fun _ hw=>hw.get q.h⟩
theorem Mem.freeze{w:World}{es:List aj}(x:τ)(hg:d.bh (hp w) x)(hr: ∀k,r.reach x k→ ∃e∈es,e.fp k)(h:Mem w0 (es++L) w):Mem w0 (fz x::L) w:=by
 have hd:=List.pairwise_append.1 h.na
 refine⟨h.below,fun e he=> ?_,fun e he k hk=> ?_,List.pairwise_cons.2 ⟨fun y hy k hk jF=> ?_,hd.2.1⟩⟩
 ·
  rcases List.mem_cons.1 he with rfl|he
  ·
   exact hg
  ·
   exact h.sat e (List.mem_append.2 (.inr he))
 ·
  rcases List.mem_cons.1 he with rfl|he
  ·
   obtain⟨e',pH,jF⟩:=hr k hk
   exact h.je e' (List.mem_append.2 (.inl pH)) k jF
  ·
   exact h.je e (List.mem_append.2 (.inr he)) k hk
 ·
  obtain⟨e',pH,nS⟩:=hr k hk
  exact hd.2.2 e' pH y hy k nS jF
theorem Mem.RD{w:World}{e:aj}(x:τ)(hg:d.bh (hp w) x)(hr: ∀k,r.reach x k→e.fp k)(h:Mem w0 (e::L) w):Mem w0 (fz x::L) w:=
 Mem.freeze (es:=[e]) x hg (fun k hk=>⟨e,by simp,hr k hk⟩) h
end
open Go.RowKit Go.Kb
section
variable {w0:World} {L:List aj} {τ:Type} [Deep τ] {xs:List τ} {es:List aj}
theorem Mem.uF{w:World}(h:Mem w0 L w):Mem w0 (aj.all []::L) w:=Mem.yr.2 h
theorem Mem.RE{w:World}{e:aj}(h:Mem w0 (e::aj.all es::L) w):Mem w0 (aj.all (e::es)::L) w:=Mem.v8.2 h
theorem Mem.Jv{w:World}{s:Sv}{enc:τ→Array Value}{c:Nat}[f:fO τ enc c][Plain τ](h:Mem w0 (own enc c s xs::L) w):Mem w0 (Deep.ck (⟨s,xs⟩:Sl τ)::L) w:=Tr.D0.mem h
end
end Go.ay
namespace Go.Kb
structure RF where
 len:Int
 dG:UInt16
 deriving DecidableEq
structure Nd where
 RG:List RF
 RH:List Int
 hs:RG.length=16
 hn:RH.length=16
 deriving DecidableEq
def RI(k:Key)(n b:Nat):Key:=if n%2=0 then yA k (n/2) (16*b%256)else yA k (n/2) ((cH k (n/2)+b)%256)
def RJ(p:cR):Nat:=((p.len -1)/4).toNat
structure Wy where
 steps:Nat
 key:Key
 deriving DecidableEq
def root:Wy:=⟨0,0#128⟩
def pR(r:Rt)(bits:Int)(w:Wy)(b:Nat):Bool:=decide (r.p.bits=bits)&&decide (RJ r.p=w.steps)&&Qx r.p (RI w.key w.steps b)
section
variable {k:Key} {n b:Nat}
end
section
variable {bits:Int} {W:List Wy} {R:List Rt} {w:Wy} {node b:Nat}
end
section
variable {bits:Int} {W:List Wy} {R:List Rt} {r:Rt} {f:Nat}
end
theorem wq{t:List Rt}(h:dt t=true){r:Rt}(hr:r∈t):cY r.p=true:=by
 obtain⟨i,hi⟩:=List.mem_iff_getElem?.1 hr
 have bt:=(List.getElem?_eq_some_iff.1 hi).1
 cases hm:cY r.p with
 |true=>rfl
 |false=>rw[AQ bt (IV hi hm)]at h;cases h
theorem Bc{t:List Rt}(h:dt t=true):t.length≤256:=by
 rcases Nat.lt_or_ge 256 t.length with h1|h1
 ·
  rw[IT h1]at h;cases h
 ·
  exact h1
open Go.ay
def bP(x:Int):Array Value:= #[.int .i64 x]
instance:bx bP 1:=⟨fun _=>rfl,fun _=>by simp[bP,Value.oneCell']⟩
instance (x:Int):cn (bP x) 0 (.int .i64 x):=⟨rfl⟩
instance:Deep Int:=Deep.flat bP 1
instance:fO Int bP 1:=⟨rfl,fun _=>rfl⟩
instance:Plain Int:=⟨fun _=>rfl⟩
end Go.Kb
namespace Go.ay
open Go.Kb
section
variable {P:Program} {N:cB} {w0:World} {env:Env} {L:List aj} {d:Option Tmp} {ty:TypeId} {ps:String} {af:Array Edge} {gd:Option (Nat×Bool)}
theorem jG{x:Operand}{a:Addr}(hx:ev env x=some (.pointer (some a))):Ry P N w0 env L ⟨d, .nilCheck x,ty,ps,af,gd⟩ (.pointer (some a)):=fun _ w ha _=>by
 simp only[execOp,ha.ev hx,Sem.run_pure]
variable {s:Sv} {xs:List Nd} {a:Nd}
end
section
variable {P:Program} {N:cB} {w0:World} {env:Env} {L:List aj} {l:List Oper} {Q:Exit→Act→World→Prop} {rest:List Oper} {ty:TypeId} {ps:String} {af:Array Edge}
variable {s:Sv} {xs:List Nd} {a:Nd}
end
end Go.ay
namespace Go.Kb
open Go.ay
theorem qG(k:IntKind)(n:Int):(Value.int k n).oneCell'=true:=rfl
theorem qH(b:Bool):(Value.bool b).oneCell'=true:=rfl
instance:eQ Int:=eQ.flat fun _ _=>trivial
structure Ft where
 op:Int
 fail:Bool
 cut:Bool
 mask:UInt8
 deriving DecidableEq
def dh(x:Ft):Array Value:= #[.int .i64 x.op, .bool x.fail, .bool x.cut, .int .u8 x.mask.toNat]
instance:bx dh 4:=⟨fun _=>rfl,fun x=>by
 simp only[dh,List.all_toArray,List.all_cons,List.all_nil,Sv.one,qG,qH,Bool.and_self]⟩
instance (x:Ft):fZ (dh x) 4:=⟨rfl,bx.one x⟩
instance (x:Ft):cn (dh x) 0 (.int .i64 x.op):=⟨rfl⟩
instance (x:Ft):cn (dh x) 1 (.bool x.fail):=⟨rfl⟩
instance (x:Ft):cn (dh x) 2 (.bool x.cut):=⟨rfl⟩
instance (x:Ft):cn (dh x) 3 (.int .u8 x.mask.toNat):=⟨rfl⟩
instance:Deep Ft:=Deep.flat dh 4
instance:Plain Ft:=⟨fun _=>rfl⟩
instance:eQ Ft:=eQ.flat fun _ _=>trivial
instance:fO Ft dh 4:=⟨rfl,fun _=>rfl⟩
def wu:Ft:=⟨0,false,false,0⟩
structure Bk where
 ae:Sl (Sl UInt8)
 used:Int
 aT:Int
 bad:Bool
def bK(x:Bk):Array Value:= #[x.ae.sv.val, .int .i64 x.used, .int .i64 x.aT, .bool x.bad]
instance:bx bK 4:=⟨fun _=>rfl,fun x=>by
 simp only[bK,List.all_toArray,List.all_cons,List.all_nil,Sv.one,qG,qH,Bool.and_self]⟩
instance (x:Bk):fZ (bK x) 4:=⟨rfl,bx.one x⟩
instance (x:Bk):cn (bK x) 0 (x.ae.sv.val):=⟨rfl⟩
instance (x:Bk):cn (bK x) 1 (.int .i64 x.used):=⟨rfl⟩
instance (x:Bk):cn (bK x) 2 (.int .i64 x.aT):=⟨rfl⟩
instance (x:Bk):cn (bK x) 3 (.bool x.bad):=⟨rfl⟩
instance:Deep Bk where
 c:=4
 cells:=bK
 size:=bx.size
 one:=bx.one
 bh h x:=Deep.bh h x.ae
 ck x:=Deep.ck x.ae
 iP h x hs:=Deep.iP h x.ae hs
 mono w w' x hg hb:=Deep.mono w w' x.ae hg hb
instance:eQ Bk where
 reach x k:=eQ.reach x.ae k
 congr h h' x e hg:=eQ.congr h h' x.ae (fun k hk=>e k (hk)) hg
instance {w0:World}{L:List aj}{x:Bk}[q:aW w0 L x]:aW w0 L x.ae:=⟨fun w hw=>(q.h w hw)⟩
instance:fO Bk bK 4:=⟨rfl,fun _=>rfl⟩
def mC:Bk:=⟨⟨Sv.none,[]⟩,0,0,false⟩
structure Cp where
 ae:Int
 size:Int
 blocks:Sl Bk
 ops:Int
 off:Bool
 aX:Sl Ft
def aE(x:Cp):Array Value:= #[.int .i64 x.ae, .int .i64 x.size,x.blocks.sv.val, .int .i64 x.ops, .bool x.off,x.aX.sv.val]
instance:bx aE 6:=⟨fun _=>rfl,fun x=>by
 simp only[aE,List.all_toArray,List.all_cons,List.all_nil,Sv.one,qG,qH,Bool.and_self]⟩
instance (x:Cp):fZ (aE x) 6:=⟨rfl,bx.one x⟩
instance (x:Cp):cn (aE x) 0 (.int .i64 x.ae):=⟨rfl⟩
instance (x:Cp):cn (aE x) 1 (.int .i64 x.size):=⟨rfl⟩
instance (x:Cp):cn (aE x) 2 (x.blocks.sv.val):=⟨rfl⟩
instance (x:Cp):cn (aE x) 3 (.int .i64 x.ops):=⟨rfl⟩
instance (x:Cp):cn (aE x) 4 (.bool x.off):=⟨rfl⟩
instance (x:Cp):cn (aE x) 5 (x.aX.sv.val):=⟨rfl⟩
instance:Deep Cp where
 c:=6
 cells:=aE
 size:=bx.size
 one:=bx.one
 bh h x:=Deep.bh h x.blocks∧Deep.bh h x.aX
 ck x:= .two (Deep.ck x.blocks) (Deep.ck x.aX)
 iP h x hs:=⟨Deep.iP h x.blocks hs.1,Deep.iP h x.aX hs.2.1⟩
 mono w w' x hg hb:=⟨Deep.mono w w' x.blocks hg.1 hb,Deep.mono w w' x.aX hg.2 hb⟩
instance:eQ Cp where
 reach x k:=eQ.reach x.blocks k∨eQ.reach x.aX k
 congr h h' x e hg:=⟨eQ.congr h h' x.blocks (fun k hk=>e k (.inl hk)) hg.1,eQ.congr h h' x.aX (fun k hk=>e k (.inr hk)) hg.2⟩
instance {w0:World}{L:List aj}{x:Cp}[q:aW w0 L x]:aW w0 L x.blocks:=⟨fun w hw=>(q.h w hw).1⟩
instance {w0:World}{L:List aj}{x:Cp}[q:aW w0 L x]:aW w0 L x.aX:=⟨fun w hw=>(q.h w hw).2⟩
instance {w0:World}{L:List aj}{ae:Int}{size:Int}{blocks:Sl Bk}{ops:Int}{off:Bool}{aX:Sl Ft}[q0:aW w0 L blocks][q1:aW w0 L aX]:aW w0 L (Cp.mk ae size blocks ops off aX):=⟨fun w hw=>⟨q0.h w hw,q1.h w hw⟩⟩
def gf:Cp:=⟨0,0,⟨Sv.none,[]⟩,0,false,⟨Sv.none,[]⟩⟩
end Go.Kb
namespace Go.ay
theorem bV.cut{α:Type}{enc:α→Array Value}{c:Nat}{h:Nat→Option Obj}{s:Sv}{xs:List α}(r:bV enc c h s xs){lo hi:Nat}(h1:lo≤hi)(h2:hi≤xs.length):bV enc c h ⟨s.nil,s.b,if hi=lo then s.o else s.o+lo*c,hi -lo,hi -lo,s.sp⟩ ((xs.drop lo).take (hi -lo)):=by
  have hl:=r.len
  have hle:=r.ok.le
  have jn:=r.ok.bd
  refine⟨⟨fun hn=> ?_,Nat.le_refl _,?_,fun hc=> ?_⟩,?_,fun i x nc j hj=> ?_⟩
  ·have:=r.ok.nil hn
   simp only at this⊢;omega
  ·simp only;omega
  ·simp only at hc⊢;exact r.ok.sp (by omega)
  ·simp;omega
  ·have ft:=(List.getElem?_eq_some_iff.1 nc).1
   rw[List.length_take,List.length_drop]at ft
   have hx:xs[lo+i]? =Option.some x:=by rw[List.getElem?_take,if_pos (by omega),List.getElem?_drop]at nc;exact nc
   have:=r.row (lo+i) x hx j hj
   simp only
   rw[if_neg (by omega),show s.o+lo*c+i*c+j=s.o+(lo+i)*c+j by rw[Nat.add_mul];omega]
   exact this
end Go.ay
namespace Go.Kb
open Go.ay
structure BV where
  ae:List (List UInt8)
  used:Int
  aT:Int
  bad:Bool
  deriving DecidableEq
structure CV where
  ae:Int
  size:Int
  blocks:List BV
  ops:Int
  off:Bool
  aX:List Ft
  deriving DecidableEq
def aJ(l:List (Sl UInt8)):List (List UInt8):=l.map fun x=>x.xs
theorem jo(l:List (Sl UInt8)):(aJ l).length=l.length:=by simp[aJ]
theorem kL{l:List (Sl UInt8)}{i:Nat}{x:Sl UInt8}(h:l[i]? =some x):(aJ l)[i]? =some x.xs:=by simp[aJ,h]
def bv(b:Bk):BV:=⟨aJ b.ae.xs,b.used,b.aT,b.bad⟩
def gy(l:List Bk):List BV:=l.map bv
theorem gg(l:List Bk):(gy l).length=l.length:=by simp[gy]
theorem kx{l:List Bk}{i:Nat}{x:Bk}(h:l[i]? =some x):(gy l)[i]? =some (bv x):=by simp[gy,h]
def cv(c:Cp):CV:=⟨c.ae,c.size,gy c.blocks.xs,c.ops,c.off,c.aX.xs⟩
def fH(rm:Sv)(lo hi:Nat):Sv:=⟨rm.nil,rm.b,if hi=lo then rm.o else rm.o+lo,hi -lo,hi -lo,rm.sp⟩
def dk(rm:Sv):Nat→List (List UInt8)→List (Sl UInt8)
  |_,[]=>[]
  |o,p::r=>⟨fH rm o (o+p.length),p⟩::dk rm (o+p.length) r
theorem sS(rm:Sv): ∀(o:Nat) (l:List (List UInt8)),aJ (dk rm o l)=l
  |_,[]=>rfl
  |o,p::r=>by
   have:=sS rm (o+p.length) r
   simp only[aJ,dk,List.map_cons]at this⊢
   rw[this]
theorem EC(rm:Sv): ∀(o:Nat) (l:List (List UInt8)),(dk rm o l).length=l.length
  |_,[]=>rfl
  |o,p::r=>by rw[dk,List.length_cons,List.length_cons,EC]
theorem Bd(rm:Sv): ∀(o:Nat) (l:List (List UInt8)) (x:Sl UInt8),x∈dk rm o l→x.sv.b=rm.b
  |_,[],_,h=>by cases h
  |o,p::r,x,h=>by
   rcases List.mem_cons.1 h with rfl|h
   ·rfl
   ·exact Bd rm _ r x h
theorem Jw(rm:Sv): ∀(o:Nat) (l:List (List UInt8)) (p:List UInt8),dk rm o (l++[p])=dk rm o l++[⟨fH rm (o+l.flatten.length) (o+l.flatten.length+p.length),p⟩]
  |o,[],p=>by simp[dk]
  |o,q::r,p=>by
   rw[List.cons_append,dk,Jw,dk]
   simp only[List.flatten_cons,List.length_append,List.cons_append,Nat.add_assoc]
theorem Jx{rm:Sv}{h:Nat→Option Obj}{all:List UInt8}(hl:bV aN 1 h rm all): ∀(o:Nat) (l:List (List UInt8)),o+l.flatten.length≤all.length→(all.drop o).take l.flatten.length=l.flatten→ ∀x∈dk rm o l,bV aN 1 h x.sv x.xs
  |_,[],_,_,_,hx=>by cases hx
  |o,p::r,hb,he,x,hx=>by
   rw[List.flatten_cons,List.length_append]at hb
   rw[List.flatten_cons,List.length_append]at he
   have e1:(all.drop o).take p.length=p:=by
      have:=congrArg (List.take p.length) he
      rw[List.take_take,Nat.min_eq_left (by omega),List.take_left']at this
      ·exact this
      ·rfl
   have e2:(all.drop (o+p.length)).take r.flatten.length=r.flatten:=by
      have:=congrArg (List.drop p.length) he
      rw[List.drop_take,List.drop_drop,List.drop_left' rfl,show p.length+r.flatten.length -p.length=r.flatten.length by omega]at this
      exact this
   rcases List.mem_cons.1 hx with rfl|hx
   ·have:=hl.cut (lo:=o) (hi:=o+p.length) (by omega) (by omega)
    rw[Nat.mul_one,show o+p.length -o=p.length by omega,e1]at this
    simpa[fH]using this
   ·exact Jx hl (o+p.length) r (by omega) e2 x hx
def wx(a:Sl (Sl UInt8)):aj:=⟨fun k=> ∃x∈a.xs,k=x.sv.b,fun h=>a.xs=[]∨ ∃rm,rm.nil=false∧a.xs=dk rm 0 (aJ a.xs)∧(own aN 1 rm (aJ a.xs).flatten).sat h,fun h h' e s=>by
  rcases s with s|⟨rm,h1,h2,h3⟩
  ·exact .inl s
  ·rcases List.eq_nil_or_concat a.xs with hx|⟨l,x,hx⟩
   ·exact .inl hx
   ·have hm:x∈a.xs:=by rw[hx];simp
    have hb:x.sv.b=rm.b:=Bd rm 0 _ x (h2▸hm)
    exact .inr ⟨rm,h1,h2,(own aN 1 rm (aJ a.xs).flatten).loc h h' (fun k hk=>e k ⟨x,hm,by rw[hb];exact hk.2⟩) h3⟩⟩
def eR(a:Sl (Sl UInt8)):aj:= .two (own (cc (τ:=UInt8)) 1 a.sv a.xs) (wx a)
theorem RK{a:Sl (Sl UInt8)}{h:Nat→Option Obj}(s:(wx a).sat h): ∀x∈a.xs,bV aN 1 h x.sv x.xs:=fun x hx=>by
  rcases s with s|⟨rm,h1,h2,h3⟩
  ·rw[s]at hx;cases hx
  ·refine Jx h3.1 0 (aJ a.xs) (by omega) (by rw[List.drop_zero,List.take_length]) x (h2▸hx)
theorem yQ{α:Type}{enc:α→Array Value}{c:Nat}{s:Sv}{xs:List α}{h:Nat→Option Obj}(hl:bV enc c h s xs)(hx:xs≠[]):(own enc c s xs).fp s.b:=
  ⟨hl.ok.some (by have:=hl.len;have:=List.length_pos_iff.2 hx;omega),rfl⟩
theorem aj.Be{k:Nat}: ∀{es:List aj} {e:aj},e∈es→e.fp k→(aj.all es).fp k
  |_::_,_,he,hk=>(List.mem_cons.1 he).elim (fun h=> .inl (h▸hk)) fun h=> .inr (aj.Be h hk)
theorem Jy{α:Type}{e:α}: ∀{L:List α} {i:Nat},L[i]? =Option.some e→L.Perm (e::L.eraseIdx i)
  |[],i,h=>by simp at h
  |x::L,0,h=>by obtain rfl:x=e:=by simpa using h
                simp
  |x::L,i+1,h=>by
   have:=Jy (L:=L) (i:=i) (by simpa using h)
   rw[List.eraseIdx_cons_succ]
   exact(this.cons x).trans (.swap _ _ _)
theorem Mem.pick{τ:Type}{f:τ→aj}{w0 w:World}{L:List aj}{xs:List τ}{i:Nat}{x:τ}(hx:xs[i]? =some x):Mem w0 (aj.all (xs.map f)::L) w↔Mem w0 (f x::aj.all ((xs.eraseIdx i).map f)::L) w:=by
  have hp:(xs.map f).Perm (f x::(xs.eraseIdx i).map f):=by
    have:=Jy hx
    simpa using this.map f
  rw[Mem.yt]
  have e:Mem w0 (f x::aj.all ((xs.eraseIdx i).map f)::L) w↔Mem w0 (f x::((xs.eraseIdx i).map f++L)) w:=by
    have sw: ∀(a b:aj) (K:List aj),Mem w0 (a::b::K) w↔Mem w0 (b::a::K) w:=fun a b K=>⟨fun h=>h.perm (List.Perm.swap _ _ _),fun h=>h.perm (List.Perm.swap _ _ _)⟩
    rw[sw,Mem.yt]
    exact⟨fun h=>h.perm List.perm_middle,fun h=>h.perm List.perm_middle.symm⟩
  rw[e]
  exact⟨fun h=>h.perm (hp.append_right L),fun h=>h.perm (hp.append_right L).symm⟩
theorem RL{w0 w:World}{L:List aj}{a:Sl Bk}(h:Mem w0 (own bK 4 a.sv a.xs::aj.all (a.xs.map fun b:Bk=>eR b.ae)::L) w):Mem w0 (fz a::L) w:=by
  have hs:=h.sat (own bK 4 a.sv a.xs) (by simp)
  have ha:=h.sat (aj.all (a.xs.map fun b:Bk=>eR b.ae)) (by simp)
  have hb: ∀x∈a.xs,(eR x.ae).sat fun k=>w.heap[k]? :=fun x hx=>aj.yu ha _ (List.mem_map_of_mem hx)
  refine Mem.freeze (es:=[own bK 4 a.sv a.xs,aj.all (a.xs.map fun b:Bk=>eR b.ae)]) a ⟨hs.1,fun x hx=>⟨(hb x hx).1.1,fun y hy=>⟨RK (hb x hx).2.1 y hy,fun _ _=>trivial⟩⟩⟩ (fun k hk=> ?_) h
  rcases hk with⟨cF,rfl⟩|⟨x,hx,hk⟩
  ·exact⟨_,by simp,yQ hs.1 cF⟩
  ·refine⟨aj.all (a.xs.map fun b:Bk=>eR b.ae),by simp,aj.Be (List.mem_map_of_mem hx) ?_⟩
   rcases hk with⟨cF,rfl⟩|⟨y,hy,⟨_,rfl⟩|⟨_,_,hf⟩⟩
   ·exact .inl (yQ (hb x hx).1.1 cF)
   ·exact .inr ⟨y,hy,rfl⟩
   ·exact hf.elim
theorem Bf{τ:Type}[Deep τ][r:eQ τ][Plain τ]{enc:τ→Array Value}{c:Nat}[f:fO τ enc c](hr: ∀(x:τ) k,¬r.reach x k)(hg: ∀h (x:τ),Deep.bh h x){w0 w:World}{L:List aj}{a:Sl τ}(h:Mem w0 (own enc c a.sv a.xs::L) w):Mem w0 (fz a::L) w:=by
  have hs:=h.sat (own enc c a.sv a.xs) (by simp)
  have e1:Deep.cells (τ:=τ)=enc:=funext (fO.h (c:=c))
  have e2:Deep.c τ=c:=fO.hc (enc:=enc)
  refine Mem.RD a ⟨by rw[e1,e2];exact hs.1,fun x _=>hg _ x⟩ (fun k hk=> ?_) h
  rcases hk with⟨cF,rfl⟩|⟨x,_,hk⟩
  ·exact yQ hs.1 cF
  ·exact(hr x k hk).elim
theorem Bg{w0 w:World}{L:List aj}{d:Cp}(h:Mem w0 (fz d.blocks::fz d.aX::L) w):Mem w0 (fz d::L) w:=by
  refine Mem.freeze (es:=[fz d.blocks,fz d.aX]) d ⟨h.sat (fz d.blocks) (by simp),h.sat (fz d.aX) (by simp)⟩ (fun k hk=> ?_) h
  rcases hk with hk|hk
  ·exact⟨fz d.blocks,by simp,hk⟩
  ·exact⟨fz d.aX,by simp,hk⟩
theorem Jz{w0 w:World}{L:List aj}{a:Sl Ft}(h:Mem w0 (own dh 4 a.sv a.xs::L) w):Mem w0 (fz a::L) w:=Bf (fun _ _ h=>h) (fun _ _=>trivial) h
theorem uG{w0 w:World}{L:List aj}{a:Sl Int}(h:Mem w0 (own bP 1 a.sv a.xs::L) w):Mem w0 (fz a::L) w:=Bf (fun _ _ h=>h) (fun _ _=>trivial) h
theorem ED{w0 w:World}{L:List aj}{a:Sl UInt8}(h:Mem w0 (own aN 1 a.sv a.xs::L) w):Mem w0 (fz a::L) w:=Bf (fun _ _ h=>h) (fun _ _=>trivial) h
open Go.ay
def cK:Int:=1099511627776
def oP(b p s:Int):Bool:=decide (1≤b)&&decide (b≤32)&&decide (1≤p)&&decide (p≤16)&&decide (1≤s)&&decide (s≤256)
theorem jI{b p s:Int}:oP b p s=true↔1≤b∧b≤32∧1≤p∧p≤16∧1≤s∧s≤256:=by
 simp only[oP,Bool.and_eq_true,decide_eq_true_eq,and_assoc]
def JA(s:Int)(x:List UInt8):Bool:=decide ((x.length:Int)=s)
def lQ(p s:Int)(b:BV):Bool:=decide ((b.ae.length:Int)=p)&&decide (0≤b.used)&&decide (b.used≤p)&&decide (0≤b.aT)&&decide (b.aT≤cK)&&b.ae.all (JA s)
theorem eA{p s:Int}{b:BV}:lQ p s b=true↔(b.ae.length:Int)=p∧0≤b.used∧b.used≤p∧0≤b.aT∧b.aT≤cK∧ ∀x∈b.ae,(x.length:Int)=s:=by
 simp only[lQ,JA,Bool.and_eq_true,decide_eq_true_eq,and_assoc,List.all_eq_true]
def aS(c:CV):Bool:=oP c.blocks.length c.ae c.size&&decide (0≤c.ops)&&decide (c.ops≤cK)&&decide (c.aX.length≤64)&&c.blocks.all (lQ c.ae c.size)
theorem eC{c:CV}:aS c=true↔oP c.blocks.length c.ae c.size=true∧0≤c.ops∧c.ops≤cK∧c.aX.length≤64∧ ∀b∈c.blocks,lQ c.ae c.size b=true:=by
 simp only[aS,Bool.and_eq_true,decide_eq_true_eq,and_assoc,List.all_eq_true]
def fy(c:CV)(block:Int):Bool:=aS c&&decide (0≤block)&&decide (block<c.blocks.length)
theorem fA{c:CV}{block:Int}:fy c block=true↔aS c=true∧0≤block∧block<c.blocks.length:=by
 simp only[fy,Bool.and_eq_true,decide_eq_true_eq,and_assoc]
def RM:BV:=⟨[],0,0,false⟩
def ak(c:CV)(block:Int):BV:=c.blocks.getD block.toNat RM
def gz(n:Int):List UInt8:=List.replicate n.toNat 255
def nu(b p s:Int):CV×Int:=if oP b p s=true then(⟨p,s,List.replicate b.toNat ⟨List.replicate p.toNat (gz s),0,0,false⟩,0,false,[]⟩,0)else(⟨0,0,[],0,false,[]⟩,1)
def bp(c:CV):Ft×Bool:=match c.aX.find? fun f=>decide (f.op=c.ops)with
 |some f=>(f,f.cut||f.fail)
 |none=>(wu,false)
def jY(f:Ft):Int:=if f.cut=true then 7 else 9
def lC(c:CV)(block mD:Int)(p:List UInt8):Bool:=fy c block&&decide (0≤mD)&&decide (mD<c.ae)&&decide ((p.length:Int)=c.size)&&decide (c.ops<cK)
theorem iH{c:CV}{block mD:Int}{p:List UInt8}:lC c block mD p=true↔fy c block=true∧0≤mD∧mD<c.ae∧(p.length:Int)=c.size∧c.ops<cK:=by
 simp only[lC,Bool.and_eq_true,decide_eq_true_eq,and_assoc]
def cS(m:UInt8)(p:List UInt8):List UInt8:=p.map fun x=>x|||m
def mE(c:CV)(p:List UInt8):List UInt8:=if(bp c).2=true then cS (~~~(bp c).1.mask) p else p
def eS(c:CV)(block mD:Int)(p:List UInt8):CV:=
 {c with ops:=c.ops+1,off:=(bp c).2&&(bp c).1.cut,blocks:=c.blocks.set block.toNat {ak c block with used:=(ak c block).used+1,ae:=(ak c block).ae.set mD.toNat (mE c p)}}
def jq(c:CV)(block mD:Int)(p:List UInt8):Int:=
 if lC c block mD p=true then(if c.off=true then 7 else if(ak c block).bad=true∨mD≠(ak c block).used then 9 else if(bp c).2=true then jY (bp c).1 else 0)else 1
def dK(c:CV)(block mD:Int)(p:List UInt8):CV:=
 if lC c block mD p=true∧c.off=false∧(ak c block).bad=false∧mD=(ak c block).used then eS c block mD p else c
def lR(c:CV)(block:Int):Bool:=fy c block&&decide (c.ops<cK)&&decide ((ak c block).aT<cK)
theorem nv{c:CV}{block:Int}:lR c block=true↔fy c block=true∧c.ops<cK∧(ak c block).aT<cK:=by
 simp only[lR,Bool.and_eq_true,decide_eq_true_eq,and_assoc]
def pS(c:CV)(ps:List (List UInt8)):List (List UInt8):=if(bp c).2=true then ps.map (cS (bp c).1.mask)else ps.map fun _=>gz c.size
def gA(c:CV)(block:Int):CV:=
 {c with ops:=c.ops+1,off:=(bp c).2&&(bp c).1.cut,blocks:=c.blocks.set block.toNat {ak c block with used:=if(bp c).2=true then c.ae else 0,aT:=(ak c block).aT+1,ae:=pS c (ak c block).ae}}
def dL(c:CV)(block:Int):Int:=
 if lR c block=true then(if c.off=true then 7 else if(ak c block).bad=true then 9 else if(bp c).2=true then jY (bp c).1 else 0)else 1
def eF(c:CV)(block:Int):CV:=if lR c block=true∧c.off=false∧(ak c block).bad=false then gA c block else c
def jZ(c:CV)(block:Int):Int:=if fy c block=true then(if c.off=true then 7 else 0)else 1
def iS(c:CV)(block:Int):CV:=if jZ c block=0 then{c with blocks:=c.blocks.set block.toNat {ak c block with bad:=true}}else c
def n8(c:CV)(fs:List Ft):Int:=if aS c=true∧fs.length≤64 then 0 else 1
def oQ(c:CV)(fs:List Ft):CV:=if n8 c fs=0 then{c with off:=false,aX:=fs}else c
theorem Bh{c:CV}{block:Int}(h:fy c block=true):c.blocks[block.toNat]? =some (ak c block):=by
 obtain⟨_,h2,h3⟩:=fA.1 h
 exact nT (by omega)
theorem oR{c:CV}{block:Int}(h:fy c block=true):lQ c.ae c.size (ak c block)=true:=
 (eC.1 (fA.1 h).1).2.2.2.2 _ (List.mem_of_getElem? (Bh h))
end Go.Kb
namespace Go.ay
open Go.RowKit
section
variable {α:Type} {enc:α→Array Value} {c:Nat}
theorem RN{P:Program}{t tx ty e:TypeId}{cG:Nat}(ht:fk P t e c cG)[he:bx enc c]{w0 w:World}{L:List aj}{i:Nat}{s:Sv}{xs ys:List α}{x:Value}
  (hw:Mem w0 L w) (hi:L[i]? =some (own enc c s xs)) (hs:Src P c tx x ys.length (aK enc ys) w) (hn:s.nil=false) (ng:s.len+ys.length≤s.cap) (jn:s.len+ys.length≤140737488355328):
  ∃w',(Builtin.append_ #[t,tx] ty #[s.val,x]).run P w= .ok (Sv.val {s with len:=s.len+ys.length}) w'∧Mem w0 (L.set i (own enc c {s with len:=s.len+ys.length} (xs++ys))) w':=by
 obtain⟨r,mq⟩:=hw.get hi
 obtain⟨i',z,bk,aG,bB,cV,lL⟩:=ht.info
 subst bB cV
 have hlen:=r.len
 have hle:=r.ok.le
 obtain⟨gx,cs,T,fz,eP,fv,ly,lM⟩:=mq hn
 have hmul:(s.len+ys.length)*i'.size≤s.cap*i'.size:=Nat.mul_le_mul_right _ ng
 have ez:(aK enc ys).length=ys.length*i'.size:=gS ys
 have iG:s.o+s.len*i'.size+(aK enc ys).toArray.size≤cs.size:=by
  rw[List.size_toArray,ez];rw[Nat.add_mul]at hmul;omega
 have bG:=yn (P:=P) s.b (s.o+s.len*i'.size) T fz (aK enc ys) 0 cs w eP ly (by simpa using iG) hs.one
 have yo:(storeCells ⟨s.b,s.o+s.len*i'.size,none⟩ (aK enc ys)).run P w= .ok () (w.setRow s.b (cQ cs (s.o+s.len*i'.size) (aK enc ys).toArray)):=by
  simpa[cQ]using bG
 refine⟨w.setRow s.b (cQ cs (s.o+s.len*i'.size) (aK enc ys).toArray),?_,?_⟩
 ·
  have kH:({s with len:=s.len+ys.length}:Sv).val= .slice (some ⟨s.b,s.o,s.sp⟩) (s.len+ys.length) s.cap:=Sv.g9 (s:={s with len:=s.len+ys.length}) hn
  rw[Sv.g9 hn,kH,gx]
  rcases hs.kind with⟨e',hk⟩|hk<;>simp[Builtin.append_,run_underlying ht.et,run_underlying hk,sizeOf,typeInfo,bk,hs.len,ng,hs.cells,Addr.gw,yo]
 ·
  have mr:hp (w.setRow s.b (cQ cs (s.o+s.len*i'.size) (aK enc ys).toArray)) s.b=some (.cells (cQ cs (s.o+s.len*i'.size) (aK enc ys).toArray) T fz):=setRow_heap w s.b cs _ T fz eP
  refine hw.change hi (fun k hk=>hk) (fun k hk=> ?_) (by simp[World.setRow]) ⟨rfl,rfl,rfl⟩ ⟨sH ⟨(fun h=>by rw[hn]at h;cases h),ng,by simp only;omega,r.ok.sp⟩ (by simp[hlen]) mr fun k y hy j hj=> ?_,fun _=>⟨gx,_,_,_,mr,?_,by rw[mn iG];exact ly,lM⟩⟩
  ·
   exact setRow_other w s.b k _ (fun e=>hk ⟨hn,e⟩)
  ·
   rw[uj iG]
   by_cases hk:k<xs.length
   ·
    rw[if_neg,←r.row k y (by rw[List.getElem?_append_left hk]at hy;exact hy) j hj]
    ·
     unfold mi;rw[eP]
    ·
     have:(k+1)*i'.size≤s.len*i'.size:=Nat.mul_le_mul_right _ (by omega)
     rw[Nat.add_mul]at this
     intro h;have:=h.1;simp only at this;omega
   ·
    rw[List.getElem?_append_right (by omega)]at hy
    have um:=mo (enc:=enc) ys (k -xs.length) y hy j hj
    have nS:s.len*i'.size+(k -xs.length)*i'.size=k*i'.size:=by rw[←Nat.add_mul];congr 1;omega
    have bt:(k -xs.length+1)*i'.size≤ys.length*i'.size:=Nat.mul_le_mul_right _ (by have:=(List.getElem?_eq_some_iff.1 hy).1;omega)
    rw[Nat.add_mul]at bt
    rw[if_pos ⟨by simp only;omega,by rw[List.size_toArray,ez];simp only;omega⟩,←um]
    simp only[List.getElem?_toArray]
    congr 1;omega
  ·
   rw[mn iG];exact fv
theorem RO{P:Program}{w0 w:World}{L:List aj}{i:Nat}{s:Sv}{xs ys:List α}[he:bx enc c]{k:Nat}(hw:Mem w0 L w)(hi:L[i]? =some (own enc c s xs))(hn:s.nil=false)(hk:k+ys.length≤xs.length):
  ∃w',(storeCells ⟨s.b,s.o+k*c,none⟩ (aK enc ys)).run P w= .ok () w'∧Mem w0 (L.set i (own enc c s (xs.take k++(ys++xs.drop (k+ys.length))))) w':=by
 obtain⟨r,mq⟩:=hw.get hi
 have hlen:=r.len
 have hle:=r.ok.le
 obtain⟨gx,cs,T,fz,eP,fv,ly,lM⟩:=mq hn
 have hmul:(k+ys.length)*c≤s.cap*c:=Nat.mul_le_mul_right _ (by omega)
 have ez:(aK enc ys).length=ys.length*c:=gS ys
 have iG:s.o+k*c+(aK enc ys).toArray.size≤cs.size:=by
  rw[List.size_toArray,ez];rw[Nat.add_mul]at hmul;omega
 have qD: ∀v∈aK enc ys,v.oneCell'=true:=sG ys
 have bG:=yn (P:=P) s.b (s.o+k*c) T fz (aK enc ys) 0 cs w eP ly (by simpa using iG) qD
 have yo:(storeCells ⟨s.b,s.o+k*c,none⟩ (aK enc ys)).run P w= .ok () (w.setRow s.b (cQ cs (s.o+k*c) (aK enc ys).toArray)):=by
  simpa[cQ]using bG
 refine⟨_,yo,?_⟩
 have mr:hp (w.setRow s.b (cQ cs (s.o+k*c) (aK enc ys).toArray)) s.b=some (.cells (cQ cs (s.o+k*c) (aK enc ys).toArray) T fz):=setRow_heap w s.b cs _ T fz eP
 have nw:(xs.take k++(ys++xs.drop (k+ys.length))).length=xs.length:=by simp only[List.length_append,List.length_take,List.length_drop];omega
 refine hw.change hi (fun k hk=>hk) (fun k hk=> ?_) (by simp[World.setRow]) ⟨rfl,rfl,rfl⟩ ⟨sH r.ok (by rw[nw];exact hlen) mr fun m y hy j hj=> ?_,fun _=>⟨gx,_,_,_,mr,?_,by rw[mn iG];exact ly,lM⟩⟩
 ·
  exact setRow_other w s.b k _ (fun e=>hk ⟨hn,e⟩)
 ·
  rw[uj iG]
  rcases Nat.lt_or_ge m k with h1|h1
  ·
   have yR:xs[m]? =some y:=by
    rw[List.getElem?_append_left (by rw[List.length_take];omega),List.getElem?_take,if_pos h1]at hy;exact hy
   rw[if_neg,←r.row m y yR j hj]
   ·
    unfold mi;rw[eP]
   ·
    have:(m+1)*c≤k*c:=Nat.mul_le_mul_right _ (by omega)
    rw[Nat.add_mul]at this
    intro h;have:=h.1;omega
  ·
   rcases Nat.lt_or_ge m (k+ys.length)with h2|h2
   ·
    have yR:ys[m -k]? =some y:=by
     rw[List.getElem?_append_right (by rw[List.length_take];omega),List.length_take,Nat.min_eq_left (by omega),List.getElem?_append_left (by omega)]at hy;exact hy
    have um:=mo (enc:=enc) ys (m -k) y yR j hj
    have nS:k*c+(m -k)*c=m*c:=by rw[←Nat.add_mul];congr 1;omega
    have bt:(m -k+1)*c≤ys.length*c:=Nat.mul_le_mul_right _ (by omega)
    rw[Nat.add_mul]at bt
    rw[if_pos ⟨by omega,by rw[List.size_toArray,ez];omega⟩,←um]
    simp only[List.getElem?_toArray]
    congr 1;omega
   ·
    have yR:xs[m]? =some y:=by
     rw[List.getElem?_append_right (by rw[List.length_take];omega),List.length_take,Nat.min_eq_left (by omega),List.getElem?_append_right (by omega),List.getElem?_drop]at hy
     rw[←hy];congr 1;omega
    rw[if_neg,←r.row m y yR j hj]
    ·
     unfold mi;rw[eP]
    ·
     have:(k+ys.length)*c≤m*c:=Nat.mul_le_mul_right _ h2
     rw[Nat.add_mul]at this
     intro h;have:=h.2;rw[List.size_toArray,ez]at this;omega
 ·
  rw[mn iG];exact fv
end
section
variable {P:Program} {N:cB} {w0:World} {env:Env} {L:List aj} {l:List Oper} {Q:Exit→Act→World→Prop} {rest:List Oper} {d:Option Tmp} {ty:TypeId} {ps:String} {af:Array Edge} {gd:Option (Nat×Bool)} {K:Value→List aj→Prop}
variable {α:Type} {enc:α→Array Value} {c:Nat} {s:Sv} {xs ys:List α}
theorem RP{t tx e:TypeId}{x y:Operand}{yv:Value}{cG i:Nat}[ht:fk P t e c cG][he:bx enc c](hx:ev env x=some s.val)(hy:ev env y=some yv)[q:fG L s enc c xs i]
  (hs: ∀w,Mem w0 L w→Src P c tx yv ys.length (aK enc ys) w) (hn:s.nil=false) (ng:s.len+ys.length≤s.cap) (jn:s.len+ys.length≤140737488355328) {L':List aj} [hu:fw L i (own enc c {s with len:=s.len+ys.length} (xs++ys)) L']
  (hk:K (Sv.val {s with len:=s.len+ys.length}) L'):
  hO P N w0 env L ⟨d, .call {callee:= .builtin .append,args:= #[x,y],argTypes:= #[t,tx]},ty,ps,af,gd⟩ K:=
 sP fun a w ha hw=>by
  obtain⟨w',h1,h4⟩:=RN (ty:=ty) ht hw q.h (hs w hw) hn ng jn
  refine⟨_,w',L',?_,by rw[←hu.h];exact h4,hk⟩
  simp[execOp,ha.ev hx,ha.ev hy,resolve,invoke,builtin,h1,Result.andThen]
theorem RQ{t tx e:TypeId}{x y:Operand}{yv:Value}{cG i:Nat}[ht:fk P t e c cG][he:bx enc c](hx:ev env x=some s.val)(hy:ev env y=some yv)[q:fG L s enc c xs i]
  (hs: ∀w,Mem w0 L w→Src P c tx yv ys.length (aK enc ys) w) (hn:s.nil=false) (ng:s.len+ys.length≤s.cap) (jn:s.len+ys.length≤140737488355328) {L':List aj} [hu:fw L i (own enc c {s with len:=s.len+ys.length} (xs++ys)) L']
  (hk:Sq P N w0 l Q rest (cw env d (Sv.val {s with len:=s.len+ys.length})) L') (hd:dj N d=true:=by rfl):
  Sq P N w0 l Q (⟨d, .call {callee:= .builtin .append,args:= #[x,y],argTypes:= #[t,tx]},ty,ps,af,none⟩::rest) env L:=
 Jf rfl hd (RP hx hy hs hn ng jn hk)
theorem JB{D S rm:Sv}{x y:Operand}{tx fV e:TypeId}{i k:Nat}{ys:List α}[he:bx enc c](hx:ev env x=some D.val)(lB:D.nil=false)(mA:D.sp=none)(n0:D.b=rm.b)(pQ:D.o=rm.o+k*c)(hy:ev env y=some S.val)[ht:eW P tx e c][q:fG L rm enc c xs i][hS:Hd w0 L S enc c ys](hc:0<c)(hn:rm.nil=false)(h0:0<ys.length)(hl:ys.length≤D.len)(jF:k+ys.length≤xs.length)
  {L':List aj} [hu:fw L i (own enc c rm (xs.take k++(ys++xs.drop (k+ys.length)))) L'] (hk:K (.int .i64 ys.length) L'):
  hO P N w0 env L ⟨d, .call {callee:= .builtin .copy,args:= #[x,y],argTypes:= #[tx,fV]},ty,ps,af,gd⟩ K:=
 sP fun a w ha hw=>by
  have hs:=hS.h w hw
  have yN:=hs.some h0
  have nq:=hs.len
  have yO:=hs.ok.sp (by have:=hs.ok.le;omega)
  rw[Sv.g9 lB,mA,n0,pQ]at hx
  rw[Sv.g9 yN,yO]at hy
  obtain⟨w',h1,h2⟩:=RO (P:=P) hw q.h hn jF
  rw[hu.h]at h2
  refine⟨_,w',L',?_,h2,hk⟩
  have yS:=run_loadCells_list (P:=P) w ⟨S.b,S.o,none⟩ (aK enc ys) (fun j v hj=>by
   obtain⟨z,hz,hv⟩:=AE hc hj
   rw[Addr.gw,qw,←hv,←hs.row _ z hz (j%c) (Nat.mod_lt _ hc)]
   congr 1
   have:=Nat.div_add_mod j c
   rw[Nat.mul_comm]at this;omega)
  rw[gS]at yS
  cases hq:P.info? e with
  |none=>have:=ht.size;simp[hq]at this
  |some i'=>
   have hi:i'.size=c:=by have:=ht.size;simpa[hq]using this
   have xZ:Nat.min S.len D.len=ys.length:=by rw[nq];exact Nat.min_eq_left hl
   have fT:(Builtin.copy_ #[tx,fV] ty #[.slice (some ⟨rm.b,rm.o+k*c,none⟩) D.len D.cap, .slice (some ⟨S.b,S.o,none⟩) S.len S.cap]).run P w= .ok (goInt ys.length) w':=by
    simp[Builtin.copy_,run_underlying ht.et,Builtin.lenOf,Builtin.firstCells,sizeOf,typeInfo,hq,hi,xZ,yS,h1]
   simp[execOp,ha.ev hx,ha.ev hy,resolve,invoke,builtin,fT,Result.andThen,goInt]
theorem RR{D S rm:Sv}{x y:Operand}{tx fV e:TypeId}{i k:Nat}{ys:List α}[he:bx enc c](hx:ev env x=some D.val)(lB:D.nil=false)(mA:D.sp=none)(n0:D.b=rm.b)(pQ:D.o=rm.o+k*c)(hy:ev env y=some S.val)[ht:eW P tx e c][q:fG L rm enc c xs i][hS:Hd w0 L S enc c ys](hc:0<c)(hn:rm.nil=false)(h0:0<ys.length)(hl:ys.length≤D.len)(jF:k+ys.length≤xs.length)
  {L':List aj} [hu:fw L i (own enc c rm (xs.take k++(ys++xs.drop (k+ys.length)))) L'] (hk:Sq P N w0 l Q rest (cw env d (.int .i64 ys.length)) L') (hd:dj N d=true:=by rfl):
  Sq P N w0 l Q (⟨d, .call {callee:= .builtin .copy,args:= #[x,y],argTypes:= #[tx,fV]},ty,ps,af,none⟩::rest) env L:=
 Jf rfl hd (JB hx lB mA n0 pQ hy hc hn h0 hl jF hk)
end
theorem Mem.wy{w0 w:World}{L:List aj}{e:aj}{es:List aj}(h:Mem w0 (e::aj.all es::L) w):Mem w0 (aj.all (es++[e])::L) w:=by
 have h1:Mem w0 (aj.all (e::es)::L) w:=Mem.RE h
 rw[Mem.yt]at h1⊢
 exact h1.perm ((List.perm_append_singleton e es).symm.append_right L)
theorem Mem.Bi{w0 w:World}{L:List aj}{e e':aj}(hf: ∀k,e'.fp k→e.fp k)(hs:(e.sat fun k=>w.heap[k]?)→e'.sat fun k=>w.heap[k]?)(h:Mem w0 (e::L) w):Mem w0 (e'::L) w:=by
 have hd:=List.pairwise_cons.1 h.na
 refine⟨h.below,fun x he=> ?_,fun x he k hk=> ?_,List.pairwise_cons.2 ⟨fun y hy k hk=>hd.1 y hy k (hf k hk),hd.2⟩⟩
 ·
  rcases List.mem_cons.1 he with rfl|he
  ·
   exact hs (h.sat e (by simp))
  ·
   exact h.sat x (by simp[he])
 ·
  rcases List.mem_cons.1 he with rfl|he
  ·
   exact h.je e (by simp) k (hf k hk)
  ·
   exact h.je x (by simp[he]) k hk
end Go.ay
namespace Go.Kb
open Go.ay
theorem JC{w0 w:World}{L:List aj}{s rm:Sv}{l:List (List UInt8)}{xs:List (Sl UInt8)}(hx:xs=dk rm 0 l)(hn:rm.nil=false)(h:Mem w0 (own (cc (τ:=UInt8)) 1 s xs::own aN 1 rm l.flatten::L) w):Mem w0 (eR ⟨s,xs⟩::L) w:=by
 have ht:aJ xs=l:=by rw[hx,sS]
 have h1:=h.perm (List.Perm.swap _ _ _)
 have h2:Mem w0 (wx ⟨s,xs⟩::own (cc (τ:=UInt8)) 1 s xs::L) w:=Mem.Bi (fun k hk=>by
  obtain⟨x,yI,rfl⟩:=hk
  exact⟨hn,Bd rm 0 l x (hx▸yI)⟩) (fun hs=> .inr ⟨rm,hn,by simp only[ht];exact hx,by simp only[ht];exact hs⟩) h1
 exact Mem.v8.2 (h2.perm (List.Perm.swap _ _ _))
theorem RS{w0 w:World}{L:List aj}{s:Sv}(h:Mem w0 (own (cc (τ:=UInt8)) 1 s []::L) w):Mem w0 (eR ⟨s,[]⟩::L) w:=by
 refine Mem.v8.2 (Mem.perm (Mem.Bi (e:= .emp) (e':=wx ⟨s,[]⟩) (fun k hk=> ?_) (fun _=> .inl rfl) (Mem.yr.2 h)) (List.Perm.swap _ _ _))
 obtain⟨x,hx,_⟩:=hk
 cases hx
theorem RT{w0 w:World}{L:List aj}{a:Sl (Sl UInt8)}(cF:a.xs≠[])(h:Mem w0 (eR a::L) w): ∃rm:Sv,(rm.nil=false∧rm.sp=none∧a.xs=dk rm 0 (aJ a.xs))∧Mem w0 (own (cc (τ:=UInt8)) 1 a.sv a.xs::own aN 1 rm (aJ a.xs).flatten::L) w:=by
 have h1:=Mem.v8.1 h
 have hr:=h1.sat (wx a) (by simp)
 rcases hr with hr|⟨rm,g1,g2,g3⟩
 ·
  exact absurd hr cF
 ·
  refine⟨rm,⟨g1,(g3.2 g1).1,g2⟩,?_⟩
  have h2:=h1.perm (List.Perm.swap _ _ _)
  obtain⟨x,l,EE⟩:=List.exists_cons_of_ne_nil cF
  have hm:x∈a.xs:=by rw[EE];simp
  have hb:x.sv.b=rm.b:=Bd rm 0 _ x (g2▸hm)
  exact(Mem.Bi (e:=wx a) (e':=own aN 1 rm (aJ a.xs).flatten) (fun k hk=>⟨x,hm,by rw[hb];exact hk.2⟩) (fun _=>g3) h2).perm (List.Perm.swap _ _ _)
theorem Bj: ∀{l:List (List UInt8)} {i:Nat} {q r:List UInt8},l[i]? =some q→r.length=q.length→(l.set i r).flatten=l.flatten.take (l.take i).flatten.length++(r++l.flatten.drop ((l.take i).flatten.length+r.length))
 |y::l,0,q,r,h,hr=>by
  obtain rfl:y=q:=by simpa using h
  simp[hr]
 |y::l,i+1,q,r,h,hr=>by
  have:=Bj (l:=l) (i:=i) (q:=q) (r:=r) (by simpa using h) hr
  simp only[List.set_cons_succ,List.flatten_cons,this,List.take_succ_cons,List.length_append]
  rw[List.take_length_add_append,Nat.add_assoc,List.drop_length_add_append,List.append_assoc]
theorem Bm{rm:Sv}: ∀{o:Nat} {l:List (List UInt8)} {i:Nat} {q:List UInt8},l[i]? =some q→(dk rm o l)[i]? =some ⟨fH rm (o+(l.take i).flatten.length) (o+(l.take i).flatten.length+q.length),q⟩
 |o,y::l,0,q,h=>by
  obtain rfl:y=q:=by simpa using h
  simp[dk]
 |o,y::l,i+1,q,h=>by
  have:=Bm (rm:=rm) (o:=o+y.length) (l:=l) (i:=i) (q:=q) (by simpa using h)
  simp only[dk,List.getElem?_cons_succ,this,List.take_succ_cons,List.flatten_cons,List.length_append,Nat.add_assoc]
def EF(l:List (List UInt8)):Prop:=l.length≤1000000∧l.flatten.length≤1000000
theorem yT{l:List (List UInt8)}{i:Nat}{q:List UInt8}(h:l[i]? =some q):(l.take (i+1)).flatten.length=(l.take i).flatten.length+q.length:=by
 rw[List.take_add_one,h];simp
theorem yU(l:List (List UInt8))(i:Nat):(l.take i).flatten.length≤l.flatten.length:=by
 have:l.flatten=(l.take i).flatten++(l.drop i).flatten:=by rw[←List.flatten_append,List.take_append_drop]
 rw[this,List.length_append];omega
theorem RU{rm:Sv}{l:List (List UInt8)}{n i:Nat}{r q:List UInt8}(hn:n=l.length)(hr:r=(l.take i).flatten)(h:l[i]? =some q):(dk rm 0 (l.take i)++List.replicate (n -i) (⟨Sv.none,[]⟩:Sl UInt8)).set i ⟨fH rm r.length (r.length+q.length),q⟩=dk rm 0 (l.take (i+1))++List.replicate (n -(i+1)) (⟨Sv.none,[]⟩:Sl UInt8):=by
 have hi:=(List.getElem?_eq_some_iff.1 h).1
 have hl:(dk rm 0 (l.take i)).length=i:=by rw[EC,List.length_take];omega
 rw[List.set_append_right _ _ (by omega),hl,Nat.sub_self,List.take_add_one,h,show n -i=n -(i+1)+1 by omega,List.replicate_succ,List.set_cons_zero]
 simp only[Option.toList_some]
 rw[Jw,hr,Nat.zero_add,List.append_assoc,List.singleton_append]
theorem mF{w0 w:World}{L:List aj}(d:Cp)(h:Mem w0 (own bK 4 d.blocks.sv d.blocks.xs::aj.all (d.blocks.xs.map fun b:Bk=>eR b.ae)::own dh 4 d.aX.sv d.aX.xs::L) w):Mem w0 (fz d::L) w:=
 Bg ((Jz (a:=d.aX) ((RL h).perm (List.Perm.swap _ _ _))).perm (List.Perm.swap _ _ _))
theorem EG{α:Type}{enc:α→Array Value}{c:Nat}{s:Sv}{xs ys:List α}{w0 w:World}{L:List aj}(e:xs.map enc=ys.map enc)(h:Mem w0 (own enc c s xs::L) w):Mem w0 (own enc c s ys::L) w:=
 Mem.Bi (e:=own enc c s xs) (fun _ hk=>hk) (fun hs=>⟨⟨hs.1.ok,by have:=congrArg List.length e;simp only[List.length_map]at this;rw[←this];exact hs.1.len,fun i y hy j hj=>by
  have h1:(xs.map enc)[i]? =(ys.map enc)[i]? :=by rw[e]
  rw[List.getElem?_map,List.getElem?_map,hy]at h1
  cases hx:xs[i]?with
  |none=>rw[hx]at h1;cases h1
  |some x=>
   rw[hx]at h1
   have h2:enc x=enc y:=by simpa using h1
   have:=hs.1.row i x hx j hj
   rw[h2]at this
   exact this⟩,hs.2⟩) h
theorem Bn{w0 w:World}{L:List aj}{s sp rm:Sv}{xs:List Bk}{i:Nat}{B B':Bk}{ps:List (Sl UInt8)}{l:List (List UInt8)}(hi:i<xs.length)(hp:ps.map (fun x=>x.sv)=(dk rm 0 l).map (fun x=>x.sv))(hn:rm.nil=false)(hc:bK B=bK B')(hB:B'.ae=⟨sp,dk rm 0 l⟩)
  (h:Mem w0 (own (cc (τ:=UInt8)) 1 sp ps::own aN 1 rm l.flatten::own bK 4 s (xs.set i B)::aj.all ((xs.eraseIdx i).map fun b:Bk=>eR b.ae)::L) w):Mem w0 (own bK 4 s (xs.set i B')::aj.all ((xs.set i B').map fun b:Bk=>eR b.ae)::L) w:=by
 have h1:Mem w0 (own (cc (τ:=UInt8)) 1 sp (dk rm 0 l)::own aN 1 rm l.flatten::own bK 4 s (xs.set i B)::aj.all ((xs.eraseIdx i).map fun b:Bk=>eR b.ae)::L) w:=EG (by
  have:=congrArg (List.map fun v:Sv=>(#[v.val]:Array Value)) hp
  rw[List.map_map,List.map_map]at this
  exact this) h
 have h2:=JC (xs:=dk rm 0 l) rfl hn h1
 rw[←hB]at h2
 have h3:=EG (ys:=xs.set i B') (by rw[List.map_set,List.map_set,hc]) (h2.perm (List.Perm.swap _ _ _))
 have h4:Mem w0 (eR B'.ae::aj.all (((xs.set i B').eraseIdx i).map fun b:Bk=>eR b.ae)::own bK 4 s (xs.set i B')::L) w:=by
  rw[List.eraseIdx_set_eq]
  exact h3.perm ((List.Perm.swap _ _ _).trans (List.Perm.cons _ (List.Perm.swap _ _ _)))
 have h5:=(Mem.pick (f:=fun b:Bk=>eR b.ae) (xs:=xs.set i B') (i:=i) (x:=B') (by rw[List.getElem?_set_self hi])).2 h4
 exact h5.perm (List.Perm.swap _ _ _)
theorem JD{w0 w:World}{L:List aj}{s:Sv}{xs:List Bk}{i:Nat}{B:Bk}(hB:xs[i]? =some B)(cF:B.ae.xs≠[])(h:Mem w0 (own bK 4 s xs::aj.all (xs.map fun b:Bk=>eR b.ae)::L) w):
  ∃rm:Sv,(rm.nil=false∧rm.sp=none∧B.ae.xs=dk rm 0 (aJ B.ae.xs))∧Mem w0 (own (cc (τ:=UInt8)) 1 B.ae.sv B.ae.xs::own aN 1 rm (aJ B.ae.xs).flatten::own bK 4 s xs::aj.all ((xs.eraseIdx i).map fun b:Bk=>eR b.ae)::L) w:=by
 have h1:=(Mem.pick (f:=fun b:Bk=>eR b.ae) hB).1 (h.perm (List.Perm.swap _ _ _))
 obtain⟨rm,hr,h2⟩:=RT cF h1
 refine⟨rm,hr,h2.perm (List.Perm.cons _ (List.Perm.cons _ (List.Perm.swap _ _ _)))⟩
end Go.Kb
namespace Go.ay
section
variable {P:Program} {N:cB} {w0:World} {env:Env} {L:List aj} {d:Option Tmp} {ty:TypeId} {ps:String} {af:Array Edge} {gd:Option (Nat×Bool)} {x y:Operand} {t u:TypeId}
theorem JE{a b:UInt8}(hx:ev env x=some (.int .u8 a.toNat))(hy:ev env y=some (.int .u8 b.toNat)):
  Ry P N w0 env L ⟨d, .binOp .or t x y u,ty,ps,af,gd⟩ (.int .u8 (a|||b).toNat):=by
 have ha:=a.toNat_lt;have hb:=b.toNat_lt
 rw[UInt8.toNat_or]
 exact Av hx hy rfl rfl (by simp only[nb];omega) (by simp only[nb];omega)
theorem RW: ∀n,n<256→(255^^^n:Nat)=255 -n:=by decide+kernel
theorem RX{p q:Nat}(hp:p<2^nb .u8)(hq:q<2^nb .u8):Op.intBits .xor .u8 (p:Int) (q:Int)=(pure (.int .u8 ((p^^^q:Nat):Int)):Sem Value):=by
 simp only[Op.intBits,vP,BitVec.toNat_xor,BitVec.toNat_ofNat,Nat.mod_eq_of_lt (oG hp),Nat.mod_eq_of_lt (oG hq)]
 rw[oF (Nat.xor_lt_two_pow hp hq)]
theorem RY{a:UInt8}(hx:ev env x=some (.int .u8 a.toNat)):
  Ry P N w0 env L ⟨d, .unOp .xor t x,ty,ps,af,gd⟩ (.int .u8 (~~~a).toNat):=fun aa w ha _=>by
 have e:(Op.intBits .xor .u8 255 (a.toNat:Int))=(pure (.int .u8 ((~~~a).toNat:Int)):Sem Value):=by
  have h3:=a.toNat_lt
  have h4:(~~~a).toNat=255 -a.toNat:=UInt8.toNat_not a
  have h5:(255^^^a.toNat:Nat)=255 -a.toNat:=RW a.toNat h3
  have hp:(255:Nat)<2^nb .u8:=by decide
  have hq:a.toNat<2^nb .u8:=h3
  have hx:=RX hp hq
  rw[h5]at hx
  rw[h4]
  exact hx
 simp only[execOp,ha.ev hx,Op.unary,Sem.run_bind,Result.andThen]
 rw[show(if IntKind.u8.signed=true then(-1:Int)else IntKind.u8.max)=255 by decide,e]
 rfl
end
open Go.RowKit
section
variable {P:Program} {N:cB} {w0:World} {env:Env} {L:List aj} {l:List Oper} {Q:Exit→Act→World→Prop} {rest:List Oper} {d:Option Tmp} {ty:TypeId} {ps:String} {af:Array Edge} {gd:Option (Nat×Bool)} {K:Value→List aj→Prop}
variable {α:Type} {enc:α→Array Value} {c:Nat}
theorem RZ{β:Type}{l:List β}{i:Nat}{z:β}(h:l[i]? =some z):l.set i z=l:=by
 obtain⟨hi,rfl⟩:=List.getElem?_eq_some_iff.1 h
 exact List.set_getElem_self hi
theorem R0{D S:Sv}{x y:Operand}{tx fV e:TypeId}(hx:ev env x=some D.val)(hy:ev env y=some S.val)[ht:eW P tx e c][hS:Hd w0 L S enc c []](hk:K (.int .i64 0) L):
  hO P N w0 env L ⟨d, .call {callee:= .builtin .copy,args:= #[x,y],argTypes:= #[tx,fV]},ty,ps,af,gd⟩ K:=
 sP fun a w ha hw=>by
  have hs:=hS.h w hw
  have nq:S.len=0:=hs.len
  obtain⟨ad,len,cap,e1⟩:=S.ex
  have el:len=S.len:=by
   cases hn:S.nil with
   |true=>rw[Sv.qv hn]at e1;have:=hs.ok.nil hn;cases e1;omega
   |false=>rw[Sv.g9 hn]at e1;cases e1;rfl
  obtain⟨JF,R5,R6,e2⟩:=D.ex
  refine⟨_,w,L,?_,hw,hk⟩
  cases hq:P.info? e with
  |none=>have:=ht.size;simp[hq]at this
  |some i'=>
   rw[e1]at hy
   rw[e2]at hx
   have pT:len=0:=by omega
   have fT:(Builtin.copy_ #[tx,fV] ty #[.slice JF R5 R6, .slice ad len cap]).run P w= .ok (goInt 0) w:=by
    have yS: ∀v:Addr,(loadCells v 0).run P w= .ok #[] w:=fun v=>by
     have:=run_loadCells_list (P:=P) w v [] (fun j v hj=>by simp at hj)
     simpa using this
    have bG: ∀v:Addr,(storeCells v []).run P w= .ok () w:=fun v=>rfl
    cases JF<;>cases ad<;>simp[Builtin.copy_,run_underlying ht.et,Builtin.lenOf,Builtin.firstCells,sizeOf,typeInfo,hq,pT,yS,bG]
   simp[execOp,ha.ev hx,ha.ev hy,resolve,invoke,builtin,fT,Result.andThen,goInt]
theorem EH{D S rm:Sv}{x y:Operand}{tx fV e:TypeId}{i k:Nat}{xs ys:List α}[he:bx enc c](hx:ev env x=some D.val)(lB:D.nil=false)(mA:D.sp=none)(n0:D.b=rm.b)(pQ:D.o=rm.o+k*c)(hy:ev env y=some S.val)[ht:eW P tx e c][q:fG L rm enc c xs i][hS:Hd w0 L S enc c ys](hc:0<c)(hn:rm.nil=false)(hl:ys.length≤D.len)(jF:k+ys.length≤xs.length)
  {L':List aj} [hu:fw L i (own enc c rm (xs.take k++(ys++xs.drop (k+ys.length)))) L'] (hk:K (.int .i64 ys.length) L'):
  hO P N w0 env L ⟨d, .call {callee:= .builtin .copy,args:= #[x,y],argTypes:= #[tx,fV]},ty,ps,af,gd⟩ K:=by
 by_cases h0:ys=[]
 ·
  subst h0
  have e1:xs.take k++([]++xs.drop (k+([]:List α).length))=xs:=by simp
  have e2:L'=L:=by
   rw[←hu.h,e1]
   exact RZ q.h
  exact R0 (c:=c) (enc:=enc) hx hy (by rw[e2]at hk;exact hk)
 ·
  exact JB hx lB mA n0 pQ hy hc hn (List.length_pos_iff.2 h0) hl jF hk
end
end Go.ay
namespace Go.Kb
open Go.ay
def dM(c:Cp):Prop:=c.blocks.xs.length≤1000000∧c.aX.xs.length≤1000000∧ ∀b∈c.blocks.xs,EF (aJ b.ae.xs)
theorem sU{α:Type}{l:List α}{i:Nat}{z:α}(h:l[i]? =some z):l.set i z=l:=by
 obtain⟨hi,rfl⟩:=List.getElem?_eq_some_iff.1 h
 exact List.set_getElem_self hi
theorem uH(l:List Bk)(i:Nat)(b:Bk):gy (l.set i b)=(gy l).set i (bv b):=by simp[gy,List.map_set]
theorem R7{zs:List Bk}{i:Nat}{z z':Bk}(h:zs[i]? =some z):((zs.take i).map fun b:Bk=>eR b.ae)++[eR z'.ae]=((zs.set i z').take (i+1)).map fun b:Bk=>eR b.ae:=by
 have hi:=(List.getElem?_eq_some_iff.1 h).1
 rw[List.take_add_one,List.getElem?_set_self hi,List.take_set_of_le (Nat.le_refl _),List.map_append]
 rfl
theorem R8{c:CV}(h: ∀f∈c.aX,f.op≠c.ops):bp c=(wu,false):=by
 have:c.aX.find? (fun f=>decide (f.op=c.ops))=none:=List.find?_eq_none.2 fun f hf=>by simpa using h f hf
 rw[bp,this]
theorem R9{c:CV}{i:Nat}{f:Ft}(hf:c.aX[i]? =some f)(h: ∀j g,j<i→c.aX[j]? =some g→g.op≠c.ops)(he:f.op=c.ops):bp c=(f,f.cut||f.fail):=by
 have:c.aX.find? (fun f=>decide (f.op=c.ops))=some f:=by
  rw[List.find?_eq_some_iff_getElem]
  obtain⟨hi,rfl⟩:=List.getElem?_eq_some_iff.1 hf
  exact⟨by simpa using he,i,hi,rfl,fun j hj=>by
   simpa using h j (c.aX[j]'(by omega)) hj (List.getElem?_eq_getElem (by omega))⟩
 rw[bp,this]
theorem JG: ∀l:List (List UInt8),(∀x∈l,x.length≤256)→(l.map List.length).sum≤l.length*256
 |[],_=>by simp
 |x::l,hl=>by
  have h1:=JG l fun y hy=>hl y (List.mem_cons_of_mem _ hy)
  have h2:=hl x List.mem_cons_self
  simp only[List.map_cons,List.sum_cons,List.length_cons]
  omega
theorem oS{c:Cp}(h:aS (cv c)=true):dM c:=by
 obtain⟨h1,h2,h3,h4,h5⟩:=eC.1 h
 obtain⟨s1,s2,s3,s4,s5,s6⟩:=jI.1 h1
 simp only[cv,gg]at*
 refine⟨by omega,by omega,fun b hb=> ?_⟩
 have g:=eA.1 (h5 (bv b) (List.mem_map_of_mem hb))
 simp only[bv]at g
 have hf:(aJ b.ae.xs).flatten.length≤(aJ b.ae.xs).length*256:=by
  rw[List.length_flatten]
  exact JG _ fun x hx=>by have:=g.2.2.2.2.2 x hx;omega
 exact⟨by omega,by omega⟩
theorem EI{rm:Sv}: ∀{o:Nat} {l l':List (List UInt8)},l.map List.length=l'.map List.length→(dk rm o l).map (fun x=>x.sv)=(dk rm o l').map (fun x=>x.sv)
 |_,[],[],_=>rfl
 |_,[],_::_,h=>by simp at h
 |_,_::_,[],h=>by simp at h
 |o,p::l,p'::l',h=>by
  simp only[List.map_cons,List.cons.injEq]at h
  have:=EI (rm:=rm) (o:=o+p'.length) h.2
  simp only[dk,List.map_cons,h.1,this]
theorem Sb{rm:Sv}{l:List (List UInt8)}{i:Nat}{q r:List UInt8}(h:l[i]? =some q)(hr:r.length=q.length):(dk rm 0 l).map (fun x=>x.sv)=(dk rm 0 (l.set i r)).map (fun x=>x.sv):=EI (by
 rw[List.map_set,hr,sU]
 rw[List.getElem?_map,h];rfl)
theorem wz: ∀{l:List (List UInt8)} {i j:Nat} {q:List UInt8},l[i]? =some q→j<q.length→l.flatten[(l.take i).flatten.length+j]? =q[j]?
 |y::l,0,j,q,h,hj=>by
  obtain rfl:y=q:=by simpa using h
  simp only[List.take_zero,List.flatten_nil,List.length_nil,Nat.zero_add,List.flatten_cons]
  rw[List.getElem?_append_left hj]
 |y::l,i+1,j,q,h,hj=>by
  have:=wz (l:=l) (i:=i) (j:=j) (q:=q) (by simpa using h) hj
  simp only[List.take_succ_cons,List.flatten_cons,List.length_append]
  rw[Nat.add_assoc,List.getElem?_append_right (by omega),Nat.add_sub_cancel_left,this]
theorem JH: ∀{l:List (List UInt8)} {i j:Nat} {q:List UInt8} {v:UInt8},l[i]? =some q→j<q.length→l.flatten.set ((l.take i).flatten.length+j) v=(l.set i (q.set j v)).flatten
 |y::l,0,j,q,v,h,hj=>by
  obtain rfl:y=q:=by simpa using h
  simp only[List.take_zero,List.flatten_nil,List.length_nil,Nat.zero_add,List.flatten_cons,List.set_cons_zero]
  rw[List.set_append_left _ _ hj]
 |y::l,i+1,j,q,v,h,hj=>by
  have:=JH (l:=l) (i:=i) (j:=j) (q:=q) (v:=v) (by simpa using h) hj
  simp only[List.take_succ_cons,List.flatten_cons,List.length_append,List.set_cons_succ]
  rw[Nat.add_assoc,List.set_append_right _ _ (by omega),Nat.add_sub_cancel_left,this]
theorem EJ{l:List (List UInt8)}{i:Nat}{r:List UInt8}:(l.set i r).take i=l.take i:=List.take_set_of_le (Nat.le_refl _)
theorem wA{rm:Sv}{lo n:Nat}(h:0<n):(fH rm lo (lo+n)).o=rm.o+lo:=by
 simp only[fH];rw[if_neg (by omega)]
theorem Bp{rm:Sv}{lo n:Nat}(hn:rm.nil=false)(hs:rm.sp=none)(hb:n≤1000000):(fH rm lo (lo+n)).Ok:=
 ⟨fun h=>absurd (hn.symm.trans h) (by decide),Nat.le_refl _,by simp only[fH];omega,fun _=>hs⟩
theorem JI{c:CV}{x:Cp}{B:Bk}{b g:Int}{q:List UInt8}{rm:Sv}{off:Bool}(hx:cv x=c)(hB:bv B=ak c b):
  cv ⟨x.ae,x.size,⟨x.blocks.sv,x.blocks.xs.set b.toNat ⟨⟨B.ae.sv,dk rm 0 ((aJ B.ae.xs).set g.toNat q)⟩,B.used+1,B.aT,B.bad⟩⟩,x.ops+1,off,x.aX⟩={c with ops:=c.ops+1,off:=off,blocks:=c.blocks.set b.toNat {ak c b with used:=(ak c b).used+1,ae:=(ak c b).ae.set g.toNat q}}:=by
 subst hx
 rw[←hB]
 simp only[cv,uH,bv,sS]
theorem Sc{m:UInt8}{xs:List UInt8}{i:Nat}{z:UInt8}(h:xs[i]? =some z):(cS m (xs.take i)++xs.drop i).set i (z|||m)=cS m (xs.take (i+1))++xs.drop (i+1):=by
 have hi:=(List.getElem?_eq_some_iff.1 h).1
 have hl:(cS m (xs.take i)).length=i:=by rw[cS,List.length_map,List.length_take];omega
 rw[List.set_append_right _ _ (by omega),hl,Nat.sub_self,List.drop_eq_getElem_cons hi,List.set_cons_zero,List.take_add_one,h,cS,cS,List.map_append,List.append_assoc]
 rfl
theorem JJ{m:UInt8}{xs:List UInt8}{i:Nat}(h:i<xs.length):(cS m (xs.take i)++xs.drop i)[i]? =xs[i]? :=by
 have hl:(cS m (xs.take i)).length=i:=by rw[cS,List.length_map,List.length_take];omega
 rw[List.getElem?_append_right (by omega),hl,Nat.sub_self,List.getElem?_drop,Nat.add_zero]
theorem EK{m:UInt8}{xs:List UInt8}{i:Nat}(h:i≤xs.length):(cS m (xs.take i)++xs.drop i).length=xs.length:=by
 rw[cS,List.length_append,List.length_map,List.length_take,List.length_drop];omega
theorem JK{T:List (List UInt8)}{g i:Nat}{q xs:List UInt8}{m z:UInt8}(hq:T[g]? =some q)(hz:xs[i]? =some z):(T.set g (cS m (xs.take (i+1))++xs.drop (i+1))).flatten=(T.set g (cS m (xs.take i)++xs.drop i)).flatten.set ((T.take g).flatten.length+i) (z|||m):=by
 have hg:=(List.getElem?_eq_some_iff.1 hq).1
 have hi:=(List.getElem?_eq_some_iff.1 hz).1
 have h1:=JH (l:=T.set g (cS m (xs.take i)++xs.drop i)) (i:=g) (j:=i) (v:=z|||m) (List.getElem?_set_self hg) (by rw[EK (by omega)];exact hi)
 rw[EJ]at h1
 rw[h1,List.set_set,Sc hz]
def mixed(f:List UInt8→List UInt8)(T:List (List UInt8))(k:Nat):List (List UInt8):=(T.take k).map f++T.drop k
theorem JL{f:List UInt8→List UInt8}{T:List (List UInt8)}:mixed f T 0=T:=by simp[mixed]
theorem JM{f:List UInt8→List UInt8}{T:List (List UInt8)}{k:Nat}(h:T.length≤k):mixed f T k=T.map f:=by
 rw[mixed,List.take_of_length_le h,List.drop_eq_nil_of_le h,List.append_nil]
theorem yV{f:List UInt8→List UInt8}{T:List (List UInt8)}{k:Nat}{q:List UInt8}(h:T[k]? =some q):(mixed f T k)[k]? =some q:=by
 have hk:=(List.getElem?_eq_some_iff.1 h).1
 have hl:((T.take k).map f).length=k:=by rw[List.length_map,List.length_take];omega
 rw[mixed,List.getElem?_append_right (by omega),hl,Nat.sub_self,List.getElem?_drop,Nat.add_zero,h]
theorem EL{f:List UInt8→List UInt8}{T:List (List UInt8)}{k:Nat}{q:List UInt8}(h:T[k]? =some q):(mixed f T k).set k (f q)=mixed f T (k+1):=by
 have hk:=(List.getElem?_eq_some_iff.1 h).1
 have hl:((T.take k).map f).length=k:=by rw[List.length_map,List.length_take];omega
 obtain⟨_,rfl⟩:=List.getElem?_eq_some_iff.1 h
 rw[mixed,List.set_append_right _ _ (by omega),hl,Nat.sub_self,List.drop_eq_getElem_cons hk,List.set_cons_zero,mixed,List.take_add_one,List.getElem?_eq_getElem hk,List.map_append,List.append_assoc]
 rfl
theorem Bq{f:List UInt8→List UInt8}{T:List (List UInt8)}{k:Nat}(hf: ∀x∈T,(f x).length=x.length)(hk:k≤T.length):((mixed f T k).take k).flatten.length=(T.take k).flatten.length:=by
 have hl:((T.take k).map f).length=k:=by rw[List.length_map,List.length_take];omega
 rw[mixed,List.take_append_of_le_length (by omega),List.take_of_length_le (by omega),List.length_flatten,List.length_flatten,List.map_map]
 congr 1
 exact List.map_congr_left fun x hx=>hf x (List.mem_of_mem_take hx)
theorem Sd{f:List UInt8→List UInt8}{T:List (List UInt8)}{k n:Nat}{q:List UInt8}(hq:T[k]? =some q)(hf: ∀x∈T,(f x).length=x.length)(he:f q=List.replicate n 255)(hn:n=q.length):(mixed f T (k+1)).flatten=(mixed f T k).flatten.take (T.take k).flatten.length++(List.replicate n 255++(mixed f T k).flatten.drop ((T.take k).flatten.length+n)):=by
 have hk:=(List.getElem?_eq_some_iff.1 hq).1
 rw[←EL hq,Bj (yV hq) (by rw[he,List.length_replicate,hn]),Bq hf (by omega),he,List.length_replicate]
theorem Se{rm:Sv}{f:List UInt8→List UInt8}{T:List (List UInt8)}(hf: ∀x∈T,(f x).length=x.length):(dk rm 0 T).map (fun x=>x.sv)=(dk rm 0 (T.map f)).map (fun x=>x.sv):=EI (by
 rw[List.map_map]
 exact(List.map_congr_left fun x hx=>(hf x hx)).symm)
theorem Sg{rm:Sv}{lo n:Nat}(hn:rm.nil=false)(hs:rm.sp=none)(h:0<n):(fH rm lo (lo+n)).val= .slice (some ⟨rm.b,rm.o+lo,none⟩) n n:=by
 rw[Sv.g9 (s:=fH rm lo (lo+n)) hn,show(fH rm lo (lo+n)).sp=rm.sp from rfl,hs,wA h,show(fH rm lo (lo+n)).len=n from Nat.add_sub_cancel_left ..,show(fH rm lo (lo+n)).cap=n from Nat.add_sub_cancel_left ..]
 rfl
theorem uI{c:Cp}{b:Int}:bv (c.blocks.xs.getD b.toNat mC)=ak (cv c) b:=by
 simp only[ak,cv,gy,List.getD_eq_getElem?_getD,List.getElem?_map]
 cases c.blocks.xs[b.toNat]? <;>rfl
theorem Br{c:Cp}{b:Int}(h:fy (cv c) b=true):0≤b∧b.toNat<c.blocks.xs.length:=by
 obtain⟨_,h2,h3⟩:=fA.1 h
 simp only[cv,gg]at h3
 exact⟨h2,by omega⟩
theorem JN{c:CV}{x:Cp}{B:Bk}{b u:Int}{l:List (List UInt8)}{rm:Sv}{off:Bool}(hx:cv x=c)(hB:bv B=ak c b):
  cv ⟨x.ae,x.size,⟨x.blocks.sv,x.blocks.xs.set b.toNat ⟨⟨B.ae.sv,dk rm 0 l⟩,u,B.aT+1,B.bad⟩⟩,x.ops+1,off,x.aX⟩={c with ops:=c.ops+1,off:=off,blocks:=c.blocks.set b.toNat {ak c b with used:=u,aT:=(ak c b).aT+1,ae:=l}}:=by
 subst hx
 rw[←hB]
 simp only[cv,uH,bv,sS]
theorem Sh{xs:List Bk}{i:Nat}{B B':Bk}(h:xs[i]? =some B)(hp:B'.ae=B.ae):((xs.set i B').map fun b:Bk=>eR b.ae)=xs.map fun b:Bk=>eR b.ae:=by
 rw[List.map_set,hp]
 refine sU ?_
 rw[List.getElem?_map,h];rfl
theorem Si{c:CV}{x:Cp}{B:Bk}{b:Int}(hx:cv x=c)(hB:bv B=ak c b):
  cv ⟨x.ae,x.size,⟨x.blocks.sv,x.blocks.xs.set b.toNat ⟨B.ae,B.used,B.aT,true⟩⟩,x.ops,x.off,x.aX⟩={c with blocks:=c.blocks.set b.toNat {ak c b with bad:=true}}:=by
 subst hx
 rw[←hB]
 simp only[cv,uH,bv]
theorem EM{w0 w:World}{L:List aj}{s:Sv}{xs:List (Sl UInt8)}(h:Mem w0 (own (cc (τ:=UInt8)) 1 s xs::aj.all (xs.map fun p:Sl UInt8=>fz p)::L) w):Mem w0 (fz (⟨s,xs⟩:Sl (Sl UInt8))::L) w:=by
 have hs:=h.sat (own (cc (τ:=UInt8)) 1 s xs) (by simp)
 have ha:=h.sat (aj.all (xs.map fun p:Sl UInt8=>fz p)) (by simp)
 refine Mem.freeze (es:=[own (cc (τ:=UInt8)) 1 s xs,aj.all (xs.map fun p:Sl UInt8=>fz p)]) _ ⟨hs.1,fun x hx=>aj.yu ha (fz x) (List.mem_map_of_mem hx)⟩ (fun k hk=> ?_) h
 rcases hk with⟨cF,rfl⟩|⟨x,hx,hk⟩
 ·
  exact⟨_,by simp,yQ hs.1 cF⟩
 ·
  exact⟨aj.all (xs.map fun p:Sl UInt8=>fz p),by simp,aj.Be (List.mem_map_of_mem (f:=fun p:Sl UInt8=>fz p) hx) hk⟩
theorem JO{w0 w:World}{L:List aj}{s:Sv}{xs:List Bk}(h:Mem w0 (own bK 4 s xs::aj.all (xs.map fun b:Bk=>fz b.ae)::L) w):Mem w0 (fz (⟨s,xs⟩:Sl Bk)::L) w:=by
 have hs:=h.sat (own bK 4 s xs) (by simp)
 have ha:=h.sat (aj.all (xs.map fun b:Bk=>fz b.ae)) (by simp)
 refine Mem.freeze (es:=[own bK 4 s xs,aj.all (xs.map fun b:Bk=>fz b.ae)]) _ ⟨hs.1,fun x hx=>aj.yu ha (fz x.ae) (List.mem_map_of_mem (f:=fun b:Bk=>fz b.ae) hx)⟩ (fun k hk=> ?_) h
 rcases hk with⟨cF,rfl⟩|⟨x,hx,hk⟩
 ·
  exact⟨_,by simp,yQ hs.1 cF⟩
 ·
  exact⟨aj.all (xs.map fun b:Bk=>fz b.ae),by simp,aj.Be (List.mem_map_of_mem (f:=fun b:Bk=>fz b.ae) hx) hk⟩
theorem JP{w0 w:World}{L:List aj}{s:Sv}(hs:s.Ok)(hl:s.len=0)(h:Mem w0 L w):Mem w0 (fz (⟨s,[]⟩:Sl Ft)::L) w:=
 Mem.freeze (es:=[]) _ ⟨⟨hs,hl,fun i x hx=>by cases hx⟩,fun x hx=>by cases hx⟩ (fun k hk=>by
  rcases hk with⟨cF,_⟩|⟨x,hx,_⟩
  ·
   exact absurd rfl cF
  ·
   cases hx) h
theorem JQ{w0 w:World}{L:List aj}{d:Cp}(hf:d.aX=⟨Sv.none,[]⟩)(h:Mem w0 (own bK 4 d.blocks.sv d.blocks.xs::aj.all (d.blocks.xs.map fun b:Bk=>fz b.ae)::L) w):Mem w0 (fz d::L) w:=by
 have h1:=JP (s:=Sv.none) Sv.vV rfl (JO h)
 rw[←hf]at h1
 exact Bg (h1.perm (List.Perm.swap _ _ _))
theorem JR{zs:List Bk}{i:Nat}{z z':Bk}(h:zs[i]? =some z):((zs.take i).map fun b:Bk=>fz b.ae)++[fz z'.ae]=((zs.set i z').take (i+1)).map fun b:Bk=>fz b.ae:=by
 have hi:=(List.getElem?_eq_some_iff.1 h).1
 rw[List.take_add_one,List.getElem?_set_self hi,List.take_set_of_le (Nat.le_refl _),List.map_append]
 rfl
theorem EN{zs:List (Sl UInt8)}{i:Nat}{z z':Sl UInt8}(h:zs[i]? =some z):((zs.take i).map fun b:Sl UInt8=>fz b)++[fz z']=((zs.set i z').take (i+1)).map fun b:Sl UInt8=>fz b:=by
 have hi:=(List.getElem?_eq_some_iff.1 h).1
 rw[List.take_add_one,List.getElem?_set_self hi,List.take_set_of_le (Nat.le_refl _),List.map_append]
 rfl
theorem Bs{α β:Type}{f:α→β}{zs:List α}{i:Nat}{z z':α}(h:zs[i]? =some z):((zs.set i z').take (i+1)).map f=(zs.take i).map f++[f z']:=by
 have hi:=(List.getElem?_eq_some_iff.1 h).1
 rw[List.take_add_one,List.getElem?_set_self hi,List.take_set_of_le (Nat.le_refl _),List.map_append]
 rfl
theorem Bt{b n:Nat}(h:n≤1000000):(⟨false,b,0,n,n,none⟩:Sv).Ok:=⟨fun h=>(by cases h),Nat.le_refl _,by simp only;omega,fun _=>rfl⟩
end Go.Kb
namespace Go.ay
theorem JS{P:Program}{N:cB}{w0:World}{env:Env}{L:List aj}{Q:Exit→Act→World→Prop}{c:Code}{X:Type}{pr:X→Prop}(Lx:X→List aj)(h: ∀w,Mem w0 L w→ ∃x,pr x∧Mem w0 (Lx x) w)(hk: ∀x,pr x→Cw P N w0 Q c env (Lx x)):Cw P N w0 Q c env L:=fun a w ha hw=>by
 obtain⟨x,h1,h2⟩:=h w hw
 exact hk x h1 a w ha h2
end Go.ay
namespace Go.Kb
open Go.ay
structure dY where
 kind:Int
 id:Int
 gen:UInt64
 body:Sl UInt8
def cI(x:dY):Array Value:= #[.int .i64 x.kind, .int .i64 x.id, .int .u64 x.gen.toNat,x.body.sv.val]
instance:bx cI 4:=⟨fun _=>rfl,fun x=>by
 simp only[cI,List.all_toArray,List.all_cons,List.all_nil,Sv.one,qG,qH,Bool.and_self]⟩
instance (x:dY):fZ (cI x) 4:=⟨rfl,bx.one x⟩
instance (x:dY):cn (cI x) 0 (.int .i64 x.kind):=⟨rfl⟩
instance (x:dY):cn (cI x) 1 (.int .i64 x.id):=⟨rfl⟩
instance (x:dY):cn (cI x) 2 (.int .u64 x.gen.toNat):=⟨rfl⟩
instance (x:dY):cn (cI x) 3 (x.body.sv.val):=⟨rfl⟩
instance:Deep dY where
 c:=4
 cells:=cI
 size:=bx.size
 one:=bx.one
 bh h x:=Deep.bh h x.body
 ck x:=Deep.ck x.body
 iP h x hs:=Deep.iP h x.body hs
 mono w w' x hg hb:=Deep.mono w w' x.body hg hb
instance {w0:World}{L:List aj}{x:dY}[q:aW w0 L x]:aW w0 L x.body:=⟨fun w hw=>(q.h w hw)⟩
instance {w0:World}{L:List aj}{kind:Int}{id:Int}{gen:UInt64}{body:Sl UInt8}[q0:aW w0 L body]:aW w0 L (dY.mk kind id gen body):=⟨fun w hw=>q0.h w hw⟩
def mG:dY:=⟨0,0,0,⟨Sv.none,[]⟩⟩
structure db where
 gen:UInt64
 at_:Sl Int
def dA(x:db):Array Value:= #[.int .u64 x.gen.toNat,x.at_.sv.val]
instance:bx dA 2:=⟨fun _=>rfl,fun x=>by
 simp only[dA,List.all_toArray,List.all_cons,List.all_nil,Sv.one,qG,qH,Bool.and_self]⟩
instance (x:db):fZ (dA x) 2:=⟨rfl,bx.one x⟩
instance (x:db):cn (dA x) 0 (.int .u64 x.gen.toNat):=⟨rfl⟩
instance (x:db):cn (dA x) 1 (x.at_.sv.val):=⟨rfl⟩
instance:Deep db where
 c:=2
 cells:=dA
 size:=bx.size
 one:=bx.one
 bh h x:=Deep.bh h x.at_
 ck x:=Deep.ck x.at_
 iP h x hs:=Deep.iP h x.at_ hs
 mono w w' x hg hb:=Deep.mono w w' x.at_ hg hb
instance {w0:World}{L:List aj}{x:db}[q:aW w0 L x]:aW w0 L x.at_:=⟨fun w hw=>(q.h w hw)⟩
instance {w0:World}{L:List aj}{gen:UInt64}{at_:Sl Int}[q0:aW w0 L at_]:aW w0 L (db.mk gen at_):=⟨fun w hw=>q0.h w hw⟩
def kM:db:=⟨0,⟨Sv.none,[]⟩⟩
structure aA where
 live:Int
 used:Int
 aT:Int
 bad:Bool
 deriving DecidableEq
def bu(x:aA):Array Value:= #[.int .i64 x.live, .int .i64 x.used, .int .i64 x.aT, .bool x.bad]
instance:bx bu 4:=⟨fun _=>rfl,fun x=>by
 simp only[bu,List.all_toArray,List.all_cons,List.all_nil,Sv.one,qG,qH,Bool.and_self]⟩
instance (x:aA):fZ (bu x) 4:=⟨rfl,bx.one x⟩
instance (x:aA):cn (bu x) 0 (.int .i64 x.live):=⟨rfl⟩
instance (x:aA):cn (bu x) 1 (.int .i64 x.used):=⟨rfl⟩
instance (x:aA):cn (bu x) 2 (.int .i64 x.aT):=⟨rfl⟩
instance (x:aA):cn (bu x) 3 (.bool x.bad):=⟨rfl⟩
def dm:aA:=⟨0,0,0,false⟩
structure bT where
 ag:Cp
 at_:Sl Int
 gen:UInt64
 last:Int
def bL(x:bT):Array Value:= #[.int .i64 x.ag.ae, .int .i64 x.ag.size,x.ag.blocks.sv.val, .int .i64 x.ag.ops, .bool x.ag.off,x.ag.aX.sv.val,x.at_.sv.val, .int .u64 x.gen.toNat, .int .i64 x.last]
instance:bx bL 9:=⟨fun _=>rfl,fun x=>by
 simp only[bL,List.all_toArray,List.all_cons,List.all_nil,Sv.one,qG,qH,Bool.and_self]⟩
instance (x:bT):fZ (bL x) 9:=⟨rfl,bx.one x⟩
instance (x:bT):cn (bL x) 0 (.int .i64 x.ag.ae):=⟨rfl⟩
instance (x:bT):cn (bL x) 1 (.int .i64 x.ag.size):=⟨rfl⟩
instance (x:bT):cn (bL x) 2 (x.ag.blocks.sv.val):=⟨rfl⟩
instance (x:bT):cn (bL x) 4 (.bool x.ag.off):=⟨rfl⟩
instance (x:bT):cn (bL x) 6 (x.at_.sv.val):=⟨rfl⟩
instance (x:bT):cn (bL x) 7 (.int .u64 x.gen.toNat):=⟨rfl⟩
instance (x:bT):cn (bL x) 8 (.int .i64 x.last):=⟨rfl⟩
instance (x:bT):nQ (bL x) 0 6 (aE x.ag):=⟨rfl,fun j hj=>by
 match j,hj with
 |0,_=>rfl
 |1,_=>rfl
 |2,_=>rfl
 |3,_=>rfl
 |4,_=>rfl
 |5,_=>rfl⟩
instance:Deep bT where
 c:=9
 cells:=bL
 size:=bx.size
 one:=bx.one
 bh h x:=Deep.bh h x.ag∧Deep.bh h x.at_
 ck x:= .two (Deep.ck x.ag) (Deep.ck x.at_)
 iP h x hs:=⟨Deep.iP h x.ag hs.1,Deep.iP h x.at_ hs.2.1⟩
 mono w w' x hg hb:=⟨Deep.mono w w' x.ag hg.1 hb,Deep.mono w w' x.at_ hg.2 hb⟩
instance:eQ bT where
 reach x k:=eQ.reach x.ag k∨eQ.reach x.at_ k
 congr h h' x e hg:=⟨eQ.congr h h' x.ag (fun k hk=>e k (.inl hk)) hg.1,eQ.congr h h' x.at_ (fun k hk=>e k (.inr hk)) hg.2⟩
instance {w0:World}{L:List aj}{x:bT}[q:aW w0 L x]:aW w0 L x.ag:=⟨fun w hw=>(q.h w hw).1⟩
instance {w0:World}{L:List aj}{x:bT}[q:aW w0 L x]:aW w0 L x.at_:=⟨fun w hw=>(q.h w hw).2⟩
instance {w0:World}{L:List aj}{ag:Cp}{at_:Sl Int}{gen:UInt64}{last:Int}[q0:aW w0 L ag][q1:aW w0 L at_]:aW w0 L (bT.mk ag at_ gen last):=⟨fun w hw=>⟨q0.h w hw,q1.h w hw⟩⟩
def kN:bT:=⟨gf,⟨Sv.none,[]⟩,0,0⟩
structure aQ where
 al:bT
 beyond:Bool
def aL(x:aQ):Array Value:= #[.int .i64 x.al.ag.ae, .int .i64 x.al.ag.size,x.al.ag.blocks.sv.val, .int .i64 x.al.ag.ops, .bool x.al.ag.off,x.al.ag.aX.sv.val,x.al.at_.sv.val, .int .u64 x.al.gen.toNat, .int .i64 x.al.last, .bool x.beyond]
instance (x:aQ):cn (aL x) 0 (.int .i64 x.al.ag.ae):=⟨rfl⟩
instance (x:aQ):cn (aL x) 1 (.int .i64 x.al.ag.size):=⟨rfl⟩
instance (x:aQ):cn (aL x) 2 (x.al.ag.blocks.sv.val):=⟨rfl⟩
instance (x:aQ):cn (aL x) 6 (x.al.at_.sv.val):=⟨rfl⟩
instance (x:aQ):cn (aL x) 7 (.int .u64 x.al.gen.toNat):=⟨rfl⟩
instance (x:aQ):cn (aL x) 8 (.int .i64 x.al.last):=⟨rfl⟩
instance (x:aQ):cn (aL x) 9 (.bool x.beyond):=⟨rfl⟩
instance (x:aQ):nQ (aL x) 0 9 (bL x.al):=⟨rfl,fun j hj=>by
 match j,hj with
 |0,_=>rfl
 |1,_=>rfl
 |2,_=>rfl
 |3,_=>rfl
 |4,_=>rfl
 |5,_=>rfl
 |6,_=>rfl
 |7,_=>rfl
 |8,_=>rfl⟩
instance (x:aQ):nQ (aL x) 0 6 (aE x.al.ag):=⟨rfl,fun j hj=>by
 match j,hj with
 |0,_=>rfl
 |1,_=>rfl
 |2,_=>rfl
 |3,_=>rfl
 |4,_=>rfl
 |5,_=>rfl⟩
structure hQ where
 w:aA
 ae:Int
 deriving DecidableEq
def dn(x:hQ):Array Value:= #[.int .i64 x.w.live, .int .i64 x.w.used, .int .i64 x.w.aT, .bool x.w.bad, .int .i64 x.ae]
instance:bx dn 5:=⟨fun _=>rfl,fun x=>by
 simp only[dn,List.all_toArray,List.all_cons,List.all_nil,Sv.one,qG,qH,Bool.and_self]⟩
instance (x:hQ):fZ (dn x) 5:=⟨rfl,bx.one x⟩
instance (x:hQ):cn (dn x) 0 (.int .i64 x.w.live):=⟨rfl⟩
instance (x:hQ):cn (dn x) 1 (.int .i64 x.w.used):=⟨rfl⟩
instance (x:hQ):cn (dn x) 2 (.int .i64 x.w.aT):=⟨rfl⟩
instance (x:hQ):cn (dn x) 3 (.bool x.w.bad):=⟨rfl⟩
instance (x:hQ):cn (dn x) 4 (.int .i64 x.ae):=⟨rfl⟩
def Sj:hQ:=⟨dm,0⟩
end Go.Kb
namespace Go.ay
open Go.Kb
section
variable {P:Program} {N:cB} {w0:World} {env:Env} {L:List aj} {d:Option Tmp} {ty:TypeId} {ps:String} {af:Array Edge} {gd:Option (Nat×Bool)}
theorem Sk{p:Nat}(h:p<2^32):4294967295^^^p=4294967295 -p:=by
 have e:(BitVec.allOnes 32^^^BitVec.ofNat 32 p).toNat=(~~~(BitVec.ofNat 32 p)).toNat:=by rw[BitVec.allOnes_xor]
 rw[BitVec.toNat_xor,BitVec.toNat_not,BitVec.toNat_allOnes,BitVec.toNat_ofNat,Nat.mod_eq_of_lt h]at e
 simpa using e
theorem JT{x:Operand}{a:Int}{p:Nat}{t:TypeId}(hx:ev env x=some (.int .u32 a))(ea:a=(p:Int))(hp:p<2^32):
  Ry P N w0 env L ⟨d, .unOp .xor t x,ty,ps,af,gd⟩ (.int .u32 ((4294967295 -p:Nat):Int)):=fun a w ha _=>by
 subst ea
 have h1:(Op.intBits .xor .u32 4294967295 (p:Int)).run P w= .ok (.int .u32 ((4294967295 -p:Nat):Int)) w:=by
  have e2:(BitVec.ofInt 32 4294967295^^^BitVec.ofInt 32 (p:Int)).toNat=4294967295 -p:=by
   rw[vP,BitVec.toNat_xor,BitVec.toNat_ofNat,Nat.mod_eq_of_lt hp,←Sk hp];rfl
  show Sem.run P (pure (Value.int .u32 (IntKind.u32.wrap ((BitVec.ofInt 32 4294967295^^^BitVec.ofInt 32 (p:Int)).toNat:Int)))) w=_
  rw[e2,oF (k:= .u32) (by show 4294967295 -p<4294967296;omega)];rfl
 have h2:Op.unary .xor (.int .u32 (p:Int))=Op.intBits .xor .u32 4294967295 (p:Int):=rfl
 simp only[execOp,ha.ev hx,h2,Sem.run_bind,h1,Sem.run_pure,Result.andThen]
theorem Sm{x y:Operand}{p:Nat}{a:Int}{k':IntKind}{t u:TypeId}(hx:ev env x=some (.int .u64 a))(hy:ev env y=some (.int k' 8))(ea:a=(p:Int))(hp:p*256<2^64):
  Ry P N w0 env L ⟨d, .binOp .shl t x y u,ty,ps,af,gd⟩ (.int .u64 ((p*256:Nat):Int)):=by
 subst ea
 have h:=Ie (P:=P) (N:=N) (w0:=w0) (L:=L) (d:=d) (ty:=ty) (ps:=ps) (af:=af) (gd:=gd) (t:=t) (u:=u) hx hy (by decide)
 have e:IntKind.u64.wrap ((p:Int)*2^min (Int.toNat 8) IntKind.u64.bits)=((p*256:Nat):Int):=by
  have e1:(p:Int)*2^min (Int.toNat 8) IntKind.u64.bits=((p*256:Nat):Int):=by
   rw[show(2:Int)^min (Int.toNat 8) IntKind.u64.bits=256 from by decide];omega
  rw[e1];exact oF hp
 rw[e]at h;exact h
theorem Sn{n many i:Nat}(h:i<many):(List.replicate (many -i) (0:UInt8)++be n i).set (many -1 -i) (b8 (n/256^i))=List.replicate (many -(i+1)) 0++be n (i+1):=by
 rw[List.set_append_left _ _ (by simp;omega)]
 have e:List.replicate (many -i) (0:UInt8)=List.replicate (many -(i+1)) 0++[0]:=by
  rw[show many -i=many -(i+1)+1 by omega,List.replicate_succ',]
 rw[e,List.set_append_right _ _ (by simp;omega)]
 simp only[List.length_replicate,show many -1 -i -(many -(i+1))=0 by omega,List.set_cons_zero,List.append_assoc]
 rfl
end
end Go.ay
namespace Go.Kb
open Go.ay
def cP(n:Int):UInt8:=b8 (n%256).toNat
theorem So(n:Nat):cP (n:Int)=b8 n:=by
 unfold cP
 rw[show((n:Int)%256).toNat=n%256 by omega,Iq]
theorem wB(n:Int):IntKind.u8.wrap n=((cP n).toNat:Int):=by
 unfold cP
 rw[pI];simp[IntKind.wrap,IntKind.bits,IntKind.signed];omega
def eG(r:Rt):List UInt8:=
 [if r.p.bits=128 then 1 else 0,cP r.p.len]++(List.range 16).map (fun i=>b8 (cH r.p.key i))++[b8 (r.dG.toNat/256),b8 r.dG.toNat]
theorem n9(r:Rt):(eG r).length=20:=by simp[eG]
theorem JU(r:Rt):(eG r)[0]? =some (if r.p.bits=128 then 1 else 0):=by simp[eG]
theorem JV(r:Rt):(eG r)[1]? =some (cP r.p.len):=by simp[eG]
theorem JW(r:Rt)(i:Nat)(h:i<16):(eG r)[2+i]? =some (b8 (cH r.p.key i)):=by
 unfold eG
 rw[List.append_assoc,List.getElem?_append_right (by simp),List.getElem?_append_left (by simp;omega)]
 simp[h]
theorem JX(r:Rt):(eG r)[18]? =some (b8 (r.dG.toNat/256)):=by simp[eG]
theorem JY(r:Rt):(eG r)[19]? =some (b8 r.dG.toNat):=by simp[eG]
theorem JZ(r:Rt){wC:Array Value}(h0:wC.size=20)(hz:wC[0]? =some (.int .u8 (if r.p.bits=128 then 1 else 0:Nat))):
  (((cQ (wC.setIfInBounds 1 (.int .u8 (cP r.p.len).toNat)) 2 (cW r.p.key)).setIfInBounds 18 (.int .u8 (b8 (r.dG.toNat/256)).toNat)).setIfInBounds 19 (.int .u8 (b8 r.dG.toNat).toNat))=(aK aN (eG r)).toArray:=by
 have hs:(cQ (wC.setIfInBounds 1 (.int .u8 (cP r.p.len).toNat)) 2 (cW r.p.key)).size=20:=by rw[mn (by simp[gL,h0])];simpa using h0
 refine Array.ext_getElem? fun j=> ?_
 have hf: ∀b,(eG r)[j]? =some b→(aK aN (eG r)).toArray[j]? =some (.int .u8 b.toNat):=fun b hb=>by
  have:=mo (enc:=aN) (eG r) j b hb 0 (by decide)
  simp only[Nat.mul_one,Nat.add_zero]at this
  simpa[aN]using this
 have hk:2+(cW r.p.key).size≤(wC.setIfInBounds 1 (.int .u8 (cP r.p.len).toNat)).size:=by simp[gL,h0]
 rw[Array.getElem?_setIfInBounds,Array.getElem?_setIfInBounds]
 by_cases J0:19=j
 ·
  subst J0;rw[hf _ (JY r)];simp[hs]
 by_cases yW:18=j
 ·
  subst yW;rw[hf _ (JX r)];simp[hs]
 rw[if_neg J0,if_neg yW,uj hk,gL]
 by_cases h2:2≤j∧j<2+16
 ·
  rw[if_pos h2,lz _ _ (by omega)]
  have:=JW r (j -2) (by omega)
  rw[show 2+(j -2)=j by omega]at this
  rw[hf _ this,pI]
  have:=nU r.p.key (j -2)
  rw[Nat.mod_eq_of_lt this]
 rw[if_neg h2,Array.getElem?_setIfInBounds]
 by_cases h1:1=j
 ·
  subst h1;rw[hf _ (JV r)];simp[h0]
 rw[if_neg h1]
 by_cases hj:j=0
 ·
  subst hj
  rw[hz,hf _ (JU r)]
  split<;>rfl
 ·
  have e1:wC[j]? =none:=by simp;omega
  rw[e1]
  have:(aK aN (eG r)).length=20:=by rw[gS,n9]
  simp;omega
open Go.ay
structure PV where
 kind:Int
 id:Int
 gen:Nat
 body:List UInt8
 deriving DecidableEq
def jr:PV:=⟨0,0,0,[]⟩
def cD(p:dY):PV:=⟨p.kind,p.id,p.gen.toNat,p.body.xs⟩
def nx(n:Int):Bool:=decide (24≤n)&&decide (n≤256)
theorem uJ{n:Int}:nx n=true↔24≤n∧n≤256:=by simp only[nx,Bool.and_eq_true,decide_eq_true_eq]
def dR(n:Int):Int:=if nx n=true then n -16 else 0
def mH(p:PV)(n:Int):Bool:=nx n&&(decide (p.kind=1)||decide (p.kind=2))&&decide (0≤p.id)&&decide (p.id<64)&&decide (p.gen<281474976710656)&&decide ((p.body.length:Int)≤dR n)
theorem wD{p:PV}{n:Int}:mH p n=true↔nx n=true∧(p.kind=1∨p.kind=2)∧0≤p.id∧p.id<64∧p.gen<281474976710656∧(p.body.length:Int)≤dR n:=by
 simp only[mH,Bool.and_eq_true,Bool.or_eq_true,decide_eq_true_eq,and_assoc]
def jt(b:List UInt8):Bool:=b.all fun x=>decide (x=255)
theorem yX{b:List UInt8}:jt b=true↔ ∀x∈b,x=255:=by simp only[jt,List.all_eq_true,decide_eq_true_eq]
def iT(p:PV)(n:Nat):List UInt8:=[cP p.kind,cP p.id]++be p.gen 6++be p.body.length 2++p.body++List.replicate (n -4 -10 -p.body.length) 0
def dq(p:PV)(n:Int):List UInt8×Int:=if mH p n=true then(iT p n.toNat++be (lP (iT p n.toNat)) 4,0)else([],1)
def rK(b:List UInt8):PV:=⟨(b.getD 0 0).toNat,(b.getD 1 0).toNat,de ((b.drop 2).take (8 -2)),[]⟩
def iv(b:List UInt8):Nat:=de ((b.drop 8).take (10 -8))
def k7(b:List UInt8):List UInt8:=(b.drop 0).take (b.length -4 -0)
def wE(b:List UInt8):List UInt8:=(b.drop (b.length -4)).take (b.length -(b.length -4))
def mI(b:List UInt8):List UInt8:=((k7 b).drop (10+iv b)).take ((k7 b).length -(10+iv b))
def uK(b:List UInt8):Bool:=b.all fun x=>decide (x=0)
theorem EO{b:List UInt8}:uK b=true↔ ∀x∈b,x=0:=by simp only[uK,List.all_eq_true,decide_eq_true_eq]
def oT(b:List UInt8):Bool:=decide ((iv b:Int)≤dR b.length)&&mH (rK b) b.length
def cN(b:List UInt8):PV×Int:=
 if nx b.length=false then(jr,3)
 else if jt b=true then(jr,0)
 else if de (wE b)≠lP (k7 b)then(jr,4)
 else if oT b=false then(jr,2)
 else if uK (mI b)=false then(jr,2)
 else({rK b with body:=(b.drop 10).take (10+iv b -10)},0)
theorem J1(b:List UInt8):iv b<65536:=by
 have h:=Ju ((b.drop 8).take (10 -8))
 have h2:((b.drop 8).take (10 -8)).length≤2:=by rw[List.length_take];omega
 have h3:=Nat.pow_le_pow_right (show 0<256 by decide) h2
 rw[iv];omega
theorem EP(b:List UInt8):de ((b.drop 2).take (8 -2))<281474976710656:=by
 have h:=Ju ((b.drop 2).take (8 -2))
 have h2:((b.drop 2).take (8 -2)).length≤6:=by rw[List.length_take];omega
 have h3:=Nat.pow_le_pow_right (show 0<256 by decide) h2
 omega
def rL(b:List UInt8):dY:=⟨(b.getD 0 0).toNat,(b.getD 1 0).toNat,UInt64.ofNat (de ((b.drop 2).take (8 -2))),⟨Sv.none,[]⟩⟩
theorem J2(b:List UInt8):(UInt64.ofNat (de ((b.drop 2).take (8 -2)))).toNat=de ((b.drop 2).take (8 -2)):=by
 have:=EP b
 rw[UInt64.toNat_ofNat'];omega
theorem J3(b:List UInt8)(s:Sv)(l:List UInt8):cD {rL b with body:=⟨s,l⟩}={rK b with body:=l}:=by
 simp only[cD,rL,J2];rfl
theorem ER(b:List UInt8):cD (rL b)=rK b:=J3 b Sv.none []
theorem Sp(b:List UInt8):(k7 b).length=b.length -4:=by rw[k7,List.length_take,List.length_drop];omega
theorem Sr{M:Nat}{k d:UInt8}(h:2≤M):((List.replicate M (0:UInt8)).set 0 k).set 1 d=[k,d]++List.replicate (M -2) 0:=by
 obtain⟨m,rfl⟩: ∃m,M=m+2:=⟨M -2,by omega⟩
 simp[List.replicate_succ]
theorem ES{A Y:List UInt8}{k N:Nat}(hk:k=A.length):(A++List.replicate N 0).take k++(Y++(A++List.replicate N 0).drop (k+Y.length))=A++Y++List.replicate (N -Y.length) 0:=by
 subst hk
 rw[List.take_left',List.drop_append,List.drop_eq_nil_of_le (by omega),Nat.add_sub_cancel_left,List.drop_replicate,List.nil_append,List.append_assoc]
 rfl
theorem Ss{p:PV}{n:Nat}(h:p.body.length+14≤n):(iT p n).length=n -4:=by
 simp only[iT,List.length_append,hG,List.length_replicate,List.length_cons,List.length_nil];omega
theorem ET(b:List UInt8):(cN b).1.body.length≤65536:=by
 have h:=J1 b
 rw[cN]
 split
 ·
  simp[jr]
 ·
  split
  ·
   simp[jr]
  ·
   split
   ·
    simp[jr]
   ·
    split
    ·
     simp[jr]
    ·
     split
     ·
      simp[jr]
     ·
      simp only[List.length_take];omega
open Go.ay
structure RV where
 gen:Nat
 at_:List Int
 deriving DecidableEq
def gB:RV:=⟨0,[]⟩
def dd(r:db):RV:=⟨r.gen.toNat,r.at_.xs⟩
def jJ(n:Int):Int:=min 64 (dR n/2)
def uL(x:Int):Bool:=decide (0≤x)&&decide (x≤65535)
theorem Bu{x:Int}:uL x=true↔0≤x∧x≤65535:=by simp only[uL,Bool.and_eq_true,decide_eq_true_eq]
def mJ(r:RV)(n:Int):Bool:= !decide (dR n=0)&&decide (r.gen<281474976710656)&&decide ((r.at_.length:Int)≤jJ n)&&r.at_.all uL
theorem uM{r:RV}{n:Int}:mJ r n=true↔dR n≠0∧r.gen<281474976710656∧(r.at_.length:Int)≤jJ n∧ ∀x∈r.at_,uL x=true:=by
 simp only[mJ,Bool.and_eq_true,Bool.not_eq_true',decide_eq_true_eq,decide_eq_false_iff_not,and_assoc,List.all_eq_true,ne_eq]
def oU(b:List UInt8)(i:Nat):Int:=((qA (b.getD (2*i) 0) (b.getD (2*i+1) 0)).toNat:Int)
def ny(b:List UInt8):List Int:=(List.range (b.length/2)).map (oU b)
def rM(p:PV):Bool:=decide (p.kind=2)&&decide (p.body.length%2=0)&&decide (p.id=max 0 ((p.body.length/2:Nat) -1:Int))
def bE(b:List UInt8):RV×Int:=
 if(cN b).2≠0 then(gB,(cN b).2)
 else if(cN b).1.kind=0 then(gB,6)
 else if rM (cN b).1=false then(gB,2)
 else(⟨(cN b).1.gen,ny (cN b).1.body⟩,0)
def Bv(x:Int):List UInt8:=[cP (x/256),cP x]
def gh(l:List Int):List UInt8:=(l.map Bv).flatten
def cZ(r:RV)(n:Int):List UInt8×Int:=if mJ r n=true then dq ⟨2,max 0 ((r.at_.length:Int) -1),r.gen,gh r.at_⟩ n else([],1)
theorem St{b:List UInt8}{i:Nat}(h:i<b.length/2):(ny b).take (i+1)=(ny b).take i++[oU b i]:=by
 rw[List.take_add_one,ny,List.getElem?_map,List.getElem?_range h];rfl
theorem Bw(b:List UInt8):(ny b).length=b.length/2:=by simp[ny]
theorem Su{l:List Int}{i:Nat}{x:Int}(h:l[i]? =some x):gh (l.take (i+1))=gh (l.take i)++Bv x:=by
 simp[gh,List.take_add_one,h]
theorem wF(l:List Int):(gh l).length=2*l.length:=by
 induction l with
 |nil=>rfl
 |cons x l ih=>
  have:gh (x::l)=Bv x++gh l:=by simp[gh]
  rw[this,List.length_append,ih]
  simp only[Bv,List.length_cons,List.length_nil];omega
structure NS where
 at_:Int
 new:RV
 found:Bool
 blank:Bool
 deriving DecidableEq
def uN(s:NS)(i:Nat)(b:List UInt8):NS:=
 if(bE b).2=0∧(s.found=false∨s.new.gen≤(bE b).1.gen)then⟨i,(bE b).1,true,s.blank&&jt b⟩else{s with blank:=s.blank&&jt b}
def di(l:List (List UInt8)):Nat→NS
 |0=>⟨0,gB,false,true⟩
 |k+1=>uN (di l k) k (l.getD k [])
def fm(l:List (List UInt8)):Int×RV×Int:=
 if(di l l.length).found=true then((di l l.length).at_,(di l l.length).new,0)else if(di l l.length).blank=true then(0,gB,6)else(0,gB,2)
theorem J4{l:List (List UInt8)}{i:Nat}{b:List UInt8}(hb:l[i]? =some b)(h:(bE b).2=0∧((di l i).found=false∨(di l i).new.gen≤(bE b).1.gen)):di l (i+1)=⟨i,(bE b).1,true,(di l i).blank&&jt b⟩:=by
 rw[di,show l.getD i []=b by simp[List.getD,hb],uN,if_pos h]
theorem J5{l:List (List UInt8)}{i:Nat}{b:List UInt8}(hb:l[i]? =some b)(h: ¬((bE b).2=0∧((di l i).found=false∨(di l i).new.gen≤(bE b).1.gen))):di l (i+1)={di l i with blank:=(di l i).blank&&jt b}:=by
 rw[di,show l.getD i []=b by simp[List.getD,hb],uN,if_neg h]
open Go.ay
structure VV where
 ag:CV
 at_:List Int
 gen:Nat
 last:Int
 deriving DecidableEq
def Sw:CV:=⟨0,0,[],0,false,[]⟩
def j6:VV:=⟨Sw,[],0,0⟩
def vv(v:bT):VV:=⟨cv v.ag,v.at_.xs,v.gen.toNat,v.last⟩
def gC(c:CV):Bool:=aS c&&decide (4≤(c.blocks.length:Int))&&decide (2≤c.ae)&&decide (24≤c.size)
theorem gk{c:CV}:gC c=true↔aS c=true∧4≤(c.blocks.length:Int)∧2≤c.ae∧24≤c.size:=by simp only[gC,Bool.and_eq_true,decide_eq_true_eq,and_assoc]
def bR(c:CV)(k:Int):List UInt8:=(ak c (k/c.ae)).ae.getD (k%c.ae).toNat []
def jK(c:CV)(k:Int):Bool:=decide (2≤k/c.ae)&&decide (k/c.ae<(c.blocks.length:Int))&&decide (k%c.ae<(ak c (k/c.ae)).used)
theorem mK{c:CV}{k:Int}:jK c k=true↔2≤k/c.ae∧k/c.ae<(c.blocks.length:Int)∧k%c.ae<(ak c (k/c.ae)).used:=by simp only[jK,Bool.and_eq_true,decide_eq_true_eq,and_assoc]
def Bx(p:PV×Int)(id:Int):Bool:=decide (p.2=0)&&decide (p.1.kind=1)&&decide (p.1.id=id)
def lS(c:CV)(id n:Int):Bool:=jK c (n -1)&&Bx (cN (bR c (n -1))) id
theorem Sx(c:CV):{oQ c c.aX with off:=c.off}=c:=by
 rw[oQ];split<;>rfl
open Go.ay
def pU(c:CV)(l:List Int)(i:Nat):Bool:=decide (l.getD i 0=0)||(!(l.take i).contains (l.getD i 0)&&lS c (i:Int) (l.getD i 0))
def qI(c:CV)(l:List Int):Bool:=(List.range l.length).all (pU c l)
theorem By{c:CV}{l:List Int}:qI c l=true↔ ∀i,i<l.length→pU c l i=true:=by simp only[qI,List.all_eq_true,List.mem_range]
def jL(l:List Int)(i:Nat):Int→Option Unit:=fun x=>if x≠0∧x∈l.take i then some ()else none
theorem yY{l:List Int}{i:Nat}{x:Int}:(jL l i x).isSome=decide (x≠0∧x∈l.take i):=by
 unfold jL;split<;>simp_all
theorem J6{l:List Int}:(fun _=>none)=jL l 0:=by
 funext x;simp[jL]
theorem J7{l:List Int}{i:Nat}(h:l[i]? =some 0):jL l (i+1)=jL l i:=by
 funext x
 unfold jL
 rw[List.take_add_one,h]
 by_cases hx:x=0
 ·
  simp[hx]
 ·
  simp[hx]
theorem J8{l:List Int}{i:Nat}{y:Int}(h:l[i]? =some y)(hy:y≠0):(fun z=>if z=y then some ()else jL l i z)=jL l (i+1):=by
 funext x
 unfold jL
 rw[List.take_add_one,h]
 by_cases hx:x=y
 ·
  subst hx;simp[hy]
 ·
  simp[hx]
theorem ob{l:List Int}{i:Nat}{y:Int}(h:l[i]? =some y):l.getD i 0=y:=by simp[List.getD,h]
def eY(l:List (Sl (Sl UInt8))):List (Sl UInt8):=(l.map Sl.xs).flatten
theorem Bz{l:List (Sl (Sl UInt8))}{i:Nat}{x:Sl (Sl UInt8)}(h:l[i]? =some x):eY (l.take (i+1))=eY (l.take i)++x.xs:=by
 rw[eY,List.take_add_one,h];simp[eY]
theorem Sy(l:List (Sl (Sl UInt8)))(i:Nat):(eY (l.take i)).length≤(eY l).length:=by
 have e:eY l=eY (l.take i)++eY (l.drop i):=by
  unfold eY
  rw[←List.flatten_append,←List.map_append,List.take_append_drop]
 rw[e,List.length_append];omega
class J9(w0:World)(l:List (Sl UInt8)):Prop where
 h: ∀y∈l,Deep.bh (hp w0) y
instance aW.row{w0:World}{L:List aj}{x:Sv}{l:List (Sl UInt8)}{i:Nat}[q:fG L x (cc (τ:=UInt8)) 1 l i][m:J9 w0 l]:aW w0 L (⟨x,l⟩:Sl (Sl UInt8)):=
 ⟨fun w hw=>⟨(hw.get q.h).1,fun y hy=>Deep.mono w0 w y (m.h y hy) hw.below⟩⟩
open Go.ay
def bQ(c:CV):Int×RV×Int:=fm ((ak c 0).ae++(ak c 1).ae)
def k8(c:CV):Bool:=decide ((bQ c).1%c.ae<(ak c ((bQ c).1/c.ae)).used)&&qI c (bQ c).2.1.at_
def bC(c:CV):VV×Int:=
 if gC c=false then(j6,1)
 else if c.off=true then(j6,7)
 else if(bQ c).2.2≠0 then(j6,(bQ c).2.2)
 else if k8 c=false then(j6,2)
 else(⟨c,(bQ c).2.1.at_,(bQ c).2.1.gen,(bQ c).1/c.ae⟩,0)
theorem Ka(l:List (List UInt8)): ∀k,k≤l.length→(di l k).at_=0∨(0≤(di l k).at_∧(di l k).at_<k)
 |0,_=> .inl rfl
 |k+1,h=>by
  have:=Ka l k (by omega)
  rw[di,uN]
  split
  ·
   exact .inr ⟨by simp only;omega,by simp only;omega⟩
  ·
   simp only;omega
theorem EU{l:List (List UInt8)}(h:0<l.length):0≤(fm l).1∧(fm l).1<l.length:=by
 have:=Ka l l.length (Nat.le_refl _)
 rw[fm]
 split
 ·
  simp only;omega
 ·
  split<;>(simp only;omega)
theorem Sz(b:List UInt8): ∀x∈ny b,0≤x∧x≤65535:=by
 intro x hx
 obtain⟨i,_,rfl⟩:=List.mem_map.1 hx
 have:=(qA (b.getD (2*i) 0) (b.getD (2*i+1) 0)).toNat_lt
 simp only[oU];omega
theorem SA(b:List UInt8): ∀x∈(bE b).1.at_,0≤x∧x≤65535:=by
 rw[bE]
 split
 ·
  simp[gB]
 ·
  split
  ·
   simp[gB]
  ·
   split
   ·
    simp[gB]
   ·
    exact Sz _
theorem Kc(l:List (List UInt8)): ∀k,∀x∈(di l k).new.at_,0≤x∧x≤65535
 |0=>by simp[di,gB]
 |k+1=>by
  have:=Kc l k
  rw[di,uN]
  split
  ·
   exact SA _
  ·
   exact this
theorem Ke(l:List (List UInt8)): ∀x∈(fm l).2.1.at_,0≤x∧x≤65535:=by
 rw[fm]
 split
 ·
  exact Kc _ _
 ·
  split<;>simp[gB]
theorem EV(a b:Sl (Sl UInt8)):aJ (eY [a,b])=aJ a.xs++aJ b.xs:=by simp[aJ,eY]
theorem EW{c:Cp}{i:Nat}{B:Bk}(h:c.blocks.xs[i]? =some B):ak (cv c) (i:Int)=bv B:=by
 rw[←uI];simp[List.getD,h]
theorem SB(b:List UInt8):(bE b).1.at_.length≤65536:=by
 have h:=ET b
 rw[bE]
 split
 ·
  simp[gB]
 ·
  split
  ·
   simp[gB]
  ·
   split
   ·
    simp[gB]
   ·
    simp only[Bw];omega
theorem Kf(l:List (List UInt8)): ∀k,(di l k).new.at_.length≤65536
 |0=>by simp[di,gB]
 |k+1=>by
  have:=Kf l k
  rw[di,uN]
  split
  ·
   exact SB _
  ·
   exact this
theorem SC(l:List (List UInt8)):(fm l).2.1.at_.length≤65536:=by
 rw[fm]
 split
 ·
  exact Kf _ _
 ·
  split<;>simp[gB]
theorem Kg(c:CV):(bC c).1.at_.length≤65536:=by
 have h:=SC ((ak c 0).ae++(ak c 1).ae)
 rw[bC]
 split
 ·
  simp[j6]
 ·
  split
  ·
   simp[j6]
  ·
   split
   ·
    simp[j6]
   ·
    split
    ·
     simp[j6]
    ·
     exact h
theorem EX{c:CV}(h:(bC c).2=0):gC c=true:=by
 cases hb:gC c with
 |true=>rfl
 |false=>rw[bC,if_pos hb]at h;cases h
def kO(x:VV):Bool:=decide ((bC {x.ag with off:=false}).2=0)&&decide ((bC {x.ag with off:=false}).1.gen=x.gen)&&decide ((bC {x.ag with off:=false}).1.last=x.last)&&decide ((bC {x.ag with off:=false}).1.at_=x.at_)
theorem SD{w0 w:World}{L:List aj}(h:Mem w0 L w):Mem w0 (fz gf::L) w:=
 Bg (d:=gf) (Mem.freeze (es:=[]) _ ⟨bV.nil _ _ _,fun x hx=>by cases hx⟩ (fun k hk=>by
  rcases hk with⟨cF,_⟩|⟨x,hx,_⟩
  ·
   exact absurd rfl cF
  ·
   cases hx) (JP (s:=Sv.none) Sv.vV rfl h))
class Kh(a:Cp)(b:outParam Cp):Prop where
 h:a=b
instance aW.abA{w0:World}{L:List aj}{v:bT}{c:Cp}[e:Kh v.ag c][q1:aW w0 L c][q2:aW w0 L v.at_]:aW w0 L v:=
 ⟨fun w hw=>⟨by rw[e.h];exact q1.h w hw,q2.h w hw⟩⟩
def ju(c:CV)(n:Int):List UInt8:=if(cN (bR c (n -1))).2=0 then(cN (bR c (n -1))).1.body else[]
open Go.ay
theorem EY{c:CV}(h:(bC c).2=0):gC c=true∧k8 c=true∧bC c=(⟨c,(bQ c).2.1.at_,(bQ c).2.1.gen,(bQ c).1/c.ae⟩,0):=by
 have hb:=EX h
 by_cases h1:c.off=true
 ·
  rw[bC,if_neg (by rw[hb];simp),if_pos h1]at h;cases h
 ·
  by_cases h2:(bQ c).2.2≠0
  ·
   rw[bC,if_neg (by rw[hb];simp),if_neg h1,if_pos h2]at h;exact absurd h h2
  ·
   cases h3:k8 c with
   |false=>rw[bC,if_neg (by rw[hb];simp),if_neg h1,if_neg h2,if_pos h3]at h;cases h
   |true=>exact⟨hb,rfl,by rw[bC,if_neg (by rw[hb];simp),if_neg h1,if_neg h2,if_neg (by rw[h3];simp)]⟩
theorem BA{x:VV}(h:kO x=true):aS x.ag=true∧qI x.ag x.at_=true∧ ∀y∈x.at_,0≤y∧y≤65535:=by
 simp only[kO,Bool.and_eq_true,decide_eq_true_eq]at h
 obtain⟨⟨⟨h1,h2⟩,h3⟩,h4⟩:=h
 obtain⟨hb,hl,hf⟩:=EY h1
 rw[hf]at h4
 simp only at h4
 simp only[k8,Bool.and_eq_true,decide_eq_true_eq]at hl
 rw[h4]at hl
 refine⟨(gk.1 hb).1,hl.2,?_⟩
 rw[←h4]
 exact Ke _
theorem Ki{x:VV}(h:kO x=true){i:Nat}{y:Int}(hy:x.at_[i]? =some y)(h0:y≠0):1≤y∧y≤1000000∧jK x.ag (y -1)=true:=by
 obtain⟨h1,h2,h3⟩:=BA h
 have hr:=h3 y (List.mem_of_getElem? hy)
 have hp:=By.1 h2 i (List.getElem?_eq_some_iff.1 hy).1
 rw[pU,ob hy]at hp
 simp only[Bool.or_eq_true,decide_eq_true_eq,Bool.and_eq_true]at hp
 rcases hp with hp|hp
 ·
  exact absurd hp h0
 ·
  have hn:=hp.2
  rw[lS,Bool.and_eq_true]at hn
  exact⟨by omega,by omega,hn.1⟩
open Go.ay
def oc(l:List Int)(j:Nat):Bool:=decide (l.getD j 0≠0)&& !(l.take j).contains (l.getD j 0)
def mL(ae:Int)(l:List Int)(k i:Nat):Nat:=((List.range k).filter fun j=>oc l j&&decide ((l.getD j 0 -1)/ae=(i:Int)+2)).length
def qJ(b:BV)(live:Nat):aA:=⟨live,b.used,b.aT,b.bad⟩
def jv(c:CV)(l:List Int)(k:Nat):List aA:=(List.range (c.blocks.length -2)).map fun i:Nat=>qJ (ak c ((i:Int)+2)) (mL c.ae l k i)
def iw(c:CV)(l:List Int):List aA:=jv c l l.length
theorem wG(c:CV)(l:List Int)(k:Nat):(jv c l k).length=c.blocks.length -2:=by simp[jv]
theorem BB(ae:Int)(l:List Int)(k i:Nat):mL ae l (k+1) i=mL ae l k i+(if oc l k&&decide ((l.getD k 0 -1)/ae=(i:Int)+2)then 1 else 0):=by
 rw[mL,List.range_succ,List.filter_append,List.length_append,mL]
 congr 1
 simp only[List.filter_cons,List.filter_nil]
 split<;>rfl
theorem SE{c:CV}{l:List Int}{k:Nat}(h:oc l k=false):jv c l (k+1)=jv c l k:=by
 refine List.map_congr_left fun i _=> ?_
 rw[BB,h];simp
theorem SF{l:List Int}{i:Nat}{y:Int}(h:l[i]? =some y)(hy:y≠0∧y∈l.take i):jL l (i+1)=jL l i:=by
 funext x
 unfold jL
 rw[List.take_add_one,h]
 by_cases hx:x=y
 ·
  subst hx;simp[hy.1,hy.2]
 ·
  simp[hx]
theorem SG{c:CV}{l:List Int}{k i:Nat}{x:aA}(h:oc l k=true)(hi:(l.getD k 0 -1)/c.ae=(i:Int)+2)(hx:(jv c l k)[i]? =some x):jv c l (k+1)=(jv c l k).set i {x with live:=x.live+1}:=by
 have ft:i<c.blocks.length -2:=by have:=(List.getElem?_eq_some_iff.1 hx).1;rwa [wG]at this
 have jM:x=qJ (ak c ((i:Int)+2)) (mL c.ae l k i):=by
  rw[jv,List.getElem?_map,List.getElem?_range ft]at hx
  exact(Option.some.inj hx).symm
 refine List.ext_getElem? fun j=> ?_
 rw[List.getElem?_set]
 by_cases hj:i=j
 ·
  subst hj
  rw[if_pos rfl,if_pos (by rw[wG];exact ft),jv,List.getElem?_map,List.getElem?_range ft,Option.map_some,BB,h,hi,jM]
  simp[qJ]
 ·
  rw[if_neg hj,jv,jv,List.getElem?_map,List.getElem?_map]
  rcases Nat.lt_or_ge j (c.blocks.length -2)with jf|jf
  ·
   rw[List.getElem?_range jf,Option.map_some,Option.map_some,BB,h,hi]
   simp only[Bool.true_and]
   rw[decide_eq_false (by omega)];simp
  ·
   rw[List.getElem?_eq_none (by simpa using jf)];rfl
def aw(l:List (Sl Int)):List Int:=(l.map Sl.xs).flatten
theorem Kj{l:List (Sl Int)}{i:Nat}{x:Sl Int}(h:l[i]? =some x):aw (l.take (i+1))=aw (l.take i)++x.xs:=by
 rw[aw,List.take_add_one,h];simp[aw]
theorem SH{l:List (Sl Int)}{i j:Nat}{x:Sl Int}{y:Int}(h:l[i]? =some x)(hy:x.xs[j]? =some y):(aw l)[(aw (l.take i)).length+j]? =some y:=by
 have hj:=(List.getElem?_eq_some_iff.1 hy).1
 have e:aw l=aw (l.take (i+1))++aw (l.drop (i+1)):=by
  unfold aw
  rw[←List.flatten_append,←List.map_append,List.take_append_drop]
 rw[e,Kj h,List.getElem?_append_left (by rw[List.length_append];omega),List.getElem?_append_right (by omega),Nat.add_sub_cancel_left,hy]
def pV(c:CV)(l:List Int):Prop:=(aS c=true∧l.length≤1000000)∧2≤c.blocks.length∧ ∀n∈l,n=0∨(1≤n∧n≤1000000∧2≤(n -1)/c.ae∧(n -1)/c.ae<(c.blocks.length:Int))
theorem SI(c:CV)(l:List Int):jv c l 0=(List.range (c.blocks.length -2)).map fun i:Nat=>qJ (ak c ((i:Int)+2)) 0:=by
 refine List.map_congr_left fun i _=> ?_
 simp[mL]
theorem Kk(ae:Int)(l:List Int)(k i:Nat):mL ae l k i≤k:=by
 rw[mL]
 exact Nat.le_trans (List.length_filter_le _ _) (by simp)
theorem SJ{c:CV}{l:List Int}{k i:Nat}{z:aA}(h:(jv c l k)[i]? =some z):0≤z.live∧z.live≤k:=by
 rw[jv,List.getElem?_map,Option.map_eq_some_iff]at h
 obtain⟨j,_,rfl⟩:=h
 have:=Kk c.ae l k j
 simp only[qJ];omega
open Go.ay
def sV(a b:Int):Int:=if a<b then -1 else if b<a then 1 else 0
def nz(p:Int)(x:aA):Bool:= !x.bad&&decide (x.used<p)
def lT(x:aA):Bool:= !x.bad&&decide (x.live=0)&&decide (0<x.used)
def uO(p:Int)(x:aA):Bool:=if x.bad=true then decide (0<x.live)else decide (x.used=p)&&decide (0<x.live)&&decide (x.live<p)
def BC(a b:aA):Int:=sV b.used a.used
def rN(a b:aA):Int:=sV a.aT b.aT
def EZ(a b:aA):Int:=sV a.live b.live
def wH(a b:aA):Int:=if a.bad=b.bad then 0 else if a.bad=true then -1 else 1
def sW(p:Int)(x:aA):Bool:=decide (0≤x.live)&&decide (x.live≤x.used)&&decide (x.used≤p)&&decide (0≤x.aT)&&decide (x.aT≤cK)
theorem oV{p:Int}{x:aA}:sW p x=true↔0≤x.live∧x.live≤x.used∧x.used≤p∧0≤x.aT∧x.aT≤cK:=by
 simp only[sW,Bool.and_eq_true,decide_eq_true_eq,and_assoc]
def ky(l:List aA)(p:Int):Bool:=decide (1≤(l.length:Int))&&decide ((l.length:Int)≤32)&&decide (1≤p)&&decide (p≤16)&&l.all (sW p)
theorem pW{l:List aA}{p:Int}:ky l p=true↔1≤(l.length:Int)∧(l.length:Int)≤32∧1≤p∧p≤16∧ ∀x∈l,sW p x=true:=by
 simp only[ky,Bool.and_eq_true,decide_eq_true_eq,and_assoc,List.all_eq_true]
def pX(a b:aA):List (aA→aA→Int)→Bool
 |[]=>false
 |o::r=>if o a b≠0 then decide (o a b<0)else pX a b r
def wI(l:List aA)(dN:aA→Bool)(os:List (aA→aA→Int))(i:Nat)(s:Int×Bool):Int×Bool:=
 if dN (l.getD i dm)=true∧(s.2=false∨pX (l.getD i dm) (l.getD s.1.toNat dm) os=true)then((i:Int),true)else s
def gT(l:List aA)(dN:aA→Bool)(os:List (aA→aA→Int)):Nat→Int×Bool
 |0=>(0,false)
 |k+1=>wI l dN os k (gT l dN os k)
def fB(l:List aA)(p:Int)(dN:aA→Bool)(os:List (aA→aA→Int)):Int×Bool:=
 if ky l p=true then gT l dN os l.length else(0,false)
def eU(l:List aA)(p:Int):Int×Bool:=fB l p (nz p) [BC,rN]
def eV(l:List aA)(p:Int):Int×Bool:=fB l p lT [rN]
def kz(l:List aA)(p:Int):Int×Bool:=fB l p (uO p) [wH,EZ,rN]
def lU(p:Int)(x:aA):Int:=if lT x=true then p else if nz p x=true then p -x.used else 0
def lV:List Int→Int
 |[]=>0
 |x::r=>x+lV r
def yZ(l:List aA)(p:Int):Int:=if ky l p=true then lV (l.map (lU p))else 0
theorem SK(a b:List Int):lV (a++b)=lV a+lV b:=by
 induction a with
 |nil=>simp[lV]
 |cons x r ih=>simp only[List.cons_append,lV,ih];omega
theorem E3(l:List aA)(dN:aA→Bool)(os:List (aA→aA→Int)): ∀k,0≤(gT l dN os k).1∧(gT l dN os k).1≤k∧((gT l dN os k).2=true→(gT l dN os k).1<k∧dN (l.getD (gT l dN os k).1.toNat dm)=true)
 |0=>⟨by simp[gT],by simp[gT],fun h=>by simp[gT]at h⟩
 |k+1=>by
  obtain⟨h1,h2,h3⟩:=E3 l dN os k
  rw[gT,wI]
  split
  ·
   rename_i h
   exact⟨by simp only;omega,by simp only;omega,fun _=>⟨by simp only;omega,by simpa using h.1⟩⟩
  ·
   exact⟨h1,by omega,fun h=>⟨by have:=(h3 h).1;omega,(h3 h).2⟩⟩
theorem Kl{l:List aA}{dN:aA→Bool}{os:List (aA→aA→Int)}: ∀{k},(gT l dN os k).2=false→ ∀i,i<k→dN (l.getD i dm)=false
 |0,_,i,hi=>by omega
 |k+1,h,i,hi=>by
  rw[gT,wI]at h
  split at h
  ·
   cases h
  ·
   rename_i hn
   by_cases e:i=k
   ·
    subst e
    cases hr:dN (l.getD i dm)with
    |false=>rfl
    |true=>exact absurd ⟨hr, .inl h⟩ hn
   ·
    exact Kl h i (by omega)
theorem wJ{l:List aA}{p:Int}{dN:aA→Bool}{os:List (aA→aA→Int)}(h:(fB l p dN os).2=true):ky l p=true∧0≤(fB l p dN os).1∧(fB l p dN os).1<l.length∧dN (l.getD (fB l p dN os).1.toNat dm)=true:=by
 unfold fB at h⊢
 split at h
 ·
  rename_i hw
  rw[if_pos hw]
  obtain⟨h1,h2,h3⟩:=E3 l dN os l.length
  exact⟨hw,h1,(h3 h).1,(h3 h).2⟩
 ·
  cases h
theorem wK{l:List aA}{p:Int}{dN:aA→Bool}{os:List (aA→aA→Int)}(hw:ky l p=true)(h:(fB l p dN os).2=false): ∀x∈l,dN x=false:=fun x hx=>by
 unfold fB at h
 rw[if_pos hw]at h
 obtain⟨i,hi⟩:=List.getElem?_of_mem hx
 have ft:=(List.getElem?_eq_some_iff.1 hi).1
 have:=Kl h i ft
 rwa [show l.getD i dm=x by simp[List.getD,hi]]at this
theorem wL{α:Type}{l:List α}{i:Nat}{e:α}(he:l[i]? =some e):l.drop i=e::l.drop (i+1):=by
 obtain⟨hi,rfl⟩:=List.getElem?_eq_some_iff.1 he
 rw[List.getElem_cons_drop]
theorem SL{p:Int}{x:aA}(h:sW p x=true)(hp:1≤p):0≤lU p x∧lU p x≤p:=by
 obtain⟨h1,h2,h3,_⟩:=oV.1 h
 rw[lU]
 split
 ·
  omega
 ·
  split<;>omega
theorem Km(p:Int): ∀l:List aA,(∀x∈l,sW p x=true)→1≤p→0≤lV (l.map (lU p))∧lV (l.map (lU p))≤(l.length:Int)*p
 |[],_,_=>by simp[lV]
 |x::r,h,hp=>by
  have h1:=Km p r (fun y hy=>h y (List.mem_cons_of_mem _ hy)) hp
  have h2:=SL (h x List.mem_cons_self) hp
  rw[List.map_cons,lV,List.length_cons,Int.natCast_add,Int.add_mul]
  omega
theorem room_le{n:Nat}{p:Int}(h:n≤32)(h1:1≤p)(h2:p≤16):(n:Int)*p≤512:=by
 have:(n:Int)*p≤32*16:=Int.mul_le_mul (by omega) h2 (by omega) (by omega)
 omega
open Go.ay
structure dB(c d:CV):Prop where
 ae:d.ae=c.ae
 size:d.size=c.size
 len:d.blocks.length=c.blocks.length
theorem dB.bW(c:CV):dB c c:=⟨rfl,rfl,rfl⟩
theorem dB.trans{c d e:CV}(h:dB c d)(g:dB d e):dB c e:=⟨g.ae.trans h.ae,g.size.trans h.size,g.len.trans h.len⟩
theorem SM(c:CV)(b g:Int)(p:List UInt8):dB c (dK c b g p):=by
 rw[dK];split
 ·
  exact⟨rfl,rfl,by simp[eS]⟩
 ·
  exact .bW c
theorem SN(c:CV)(b:Int):dB c (eF c b):=by
 rw[eF];split
 ·
  exact⟨rfl,rfl,by simp[gA]⟩
 ·
  exact .bW c
theorem SO(c:CV)(b:Int):dB c (iS c b):=by
 rw[iS];split
 ·
  exact⟨rfl,rfl,by simp⟩
 ·
  exact .bW c
theorem E4{c:CV}(h:aS c=true){o:Int}{f:Bool}(h0:0≤o)(h1:o≤cK){i:Nat}{B:BV}(hB:lQ c.ae c.size B=true):aS {c with ops:=o,off:=f,blocks:=c.blocks.set i B}=true:=by
 obtain⟨k1,k2,k3,k4,k5⟩:=eC.1 h
 refine eC.2 ⟨by simpa using k1,h0,h1,k4,fun b hb=> ?_⟩
 rcases List.mem_or_eq_of_mem_set hb with hb|rfl
 ·
  exact k5 b hb
 ·
  exact hB
theorem BD{c:CV}(h:aS c=true)(b g:Int)(p:List UInt8):aS (dK c b g p)=true:=by
 rw[dK];split
 ·
  rename_i hk
  obtain⟨k1,k2,k3,k4⟩:=hk
  obtain⟨j1,j2,j3,j4,j5⟩:=iH.1 k1
  obtain⟨o1,o2,o3,o4,o5,o6⟩:=eA.1 (oR j1)
  have:=(eC.1 h).2.1
  refine E4 h (by omega) (by omega) (eA.2 ⟨by simpa using o1,by simp only;omega,by simp only;omega,o4,o5,fun x hx=> ?_⟩)
  rcases List.mem_or_eq_of_mem_set hx with hx|rfl
  ·
   exact o6 x hx
  ·
   rw[mE];split
   ·
    simpa[cS]using j4
   ·
    exact j4
 ·
  exact h
theorem BE{c:CV}(h:aS c=true)(b:Int):aS (eF c b)=true:=by
 rw[eF];split
 ·
  rename_i hk
  obtain⟨k1,k2,k3⟩:=hk
  obtain⟨j1,j2,j3⟩:=nv.1 k1
  obtain⟨o1,o2,o3,o4,o5,o6⟩:=eA.1 (oR j1)
  have:=(eC.1 h).2.1
  have hs:=jI.1 (eC.1 h).1
  have hl:(pS c (ak c b).ae).length=(ak c b).ae.length:=by rw[pS];split<;>simp
  refine E4 h (by omega) (by omega) (eA.2 ⟨by rw[hl];exact o1,?_,?_,by simp only;omega,by simp only;omega,fun x hx=> ?_⟩)
  ·
   simp only;split<;>omega
  ·
   simp only;split<;>omega
  ·
   rw[pS]at hx
   split at hx
   ·
    obtain⟨y,hy,rfl⟩:=List.mem_map.1 hx
    simpa[cS]using o6 y hy
   ·
    obtain⟨y,hy,rfl⟩:=List.mem_map.1 hx
    simp only[gz,List.length_replicate];omega
 ·
  exact h
theorem Kn{c:CV}(h:aS c=true)(b:Int):aS (iS c b)=true:=by
 rw[iS];split
 ·
  rename_i hk
  have hh:fy c b=true:=by
   rw[jZ]at hk
   split at hk
   ·
    assumption
   ·
    cases hk
  obtain⟨o1,o2,o3,o4,o5,o6⟩:=eA.1 (oR hh)
  have k:=eC.1 h
  exact E4 (o:=c.ops) (f:=c.off) h k.2.1 k.2.2.1 (eA.2 ⟨o1,o2,o3,o4,o5,o6⟩)
 ·
  exact h
def eH(c:CV)(b:Int):Int:=if(ak c b).bad=true then 0 else c.ae -(ak c b).used
def gm(c:CV)(b e:Int):CV:=if e=9 then iS c b else c
def bw(c:CV)(b:Int)(p:List UInt8):Int:=jq c b (ak c b).used p
def bH(c:CV)(b:Int)(p:List UInt8):CV:=gm (dK c b (ak c b).used p) b (bw c b p)
def df(c:CV)(b:Int):CV:=gm (eF c b) b (dL c b)
def gU(c:CV):List UInt8:=(dq ⟨1,0,0,[]⟩ c.size).1
def eZ:Nat→CV→Int→CV×Int
 |0,c,b=>(df c b,dL c b)
 |n+1,c,b=>if bw c b (gU c)≠0 then(bH c b (gU c),bw c b (gU c))else eZ n (bH c b (gU c)) b
def cE(c:CV)(b:Int):CV×Int:=eZ (eH c b).toNat c b
theorem Ko{c:CV}(h:aS c=true)(b e:Int):aS (gm c b e)=true:=by
 rw[gm];split
 ·
  exact Kn h b
 ·
  exact h
theorem BF(c:CV)(b e:Int):dB c (gm c b e):=by
 rw[gm];split
 ·
  exact SO c b
 ·
  exact .bW c
theorem iU{c:CV}(h:aS c=true)(b:Int)(p:List UInt8):aS (bH c b p)=true:=Ko (BD h _ _ _) _ _
theorem gD(c:CV)(b:Int)(p:List UInt8):dB c (bH c b p):=(SM _ _ _ _).trans (BF _ _ _)
theorem BG{c:CV}(h:aS c=true)(b:Int):aS (df c b)=true:=Ko (BE h _) _ _
theorem uP(c:CV)(b:Int):dB c (df c b):=(SN _ _).trans (BF _ _ _)
theorem Kq: ∀(n:Nat) {c:CV} (b:Int),aS c=true→aS (eZ n c b).1=true∧dB c (eZ n c b).1
 |0,c,b,h=>⟨BG h b,uP c b⟩
 |n+1,c,b,h=>by
  rw[eZ];split
  ·
   exact⟨iU h _ _,gD _ _ _⟩
  ·
   have:=Kq n b (iU h b (gU c))
   exact⟨this.1,(gD _ _ _).trans this.2⟩
theorem uQ{c:CV}(b:Int)(h:aS c=true):aS (cE c b).1=true∧dB c (cE c b).1:=Kq _ b h
theorem od{c:CV}{b:Int}{p:List UInt8}(h:bw c b p=0):lC c b (ak c b).used p=true∧c.off=false∧(ak c b).bad=false∧(bp c).2=false∧bH c b p=eS c b (ak c b).used p:=by
 have h0:=h
 rw[bw,jq]at h
 by_cases h1:lC c b (ak c b).used p=true
 ·
  rw[if_pos h1]at h
  by_cases h2:c.off=true
  ·
   rw[if_pos h2]at h;cases h
  ·
   rw[if_neg h2]at h
   by_cases h3:(ak c b).bad=true∨(ak c b).used≠(ak c b).used
   ·
    rw[if_pos h3]at h;cases h
   ·
    rw[if_neg h3]at h
    have vN:(ak c b).bad=false:=by
     cases hb:(ak c b).bad with
     |false=>rfl
     |true=>exact absurd (.inl hb) h3
    by_cases h4:(bp c).2=true
    ·
     rw[if_pos h4,jY]at h
     split at h<;>cases h
    ·
     refine⟨h1,by simpa using h2,vN,by simpa using h4,?_⟩
     rw[bH,gm,h0,if_neg (by decide),dK,if_pos ⟨h1,by simpa using h2,vN,rfl⟩]
 ·
  rw[if_neg h1]at h;cases h
theorem oW{c:CV}{b:Int}(h:fy c b=true){o:Int}{f:Bool}{B:BV}:ak {c with ops:=o,off:=f,blocks:=c.blocks.set b.toNat B} b=B:=by
 obtain⟨_,h2,h3⟩:=fA.1 h
 simp only[ak,List.getD,List.getElem?_set_self (show b.toNat<c.blocks.length by omega),Option.getD_some]
theorem Kr{c:CV}{b:Int}{p:List UInt8}(h:bw c b p=0):eH (bH c b p) b=eH c b -1:=by
 obtain⟨h1,h2,h3,h4,h5⟩:=od h
 have hh:=(iH.1 h1).1
 rw[h5,eH,eH,eS,oW hh]
 simp only[h3]
 simp only[Bool.false_eq_true,if_false];omega
theorem SP{c:CV}{b:Int}(h:0<eH c b):cE c b=if bw c b (gU c)≠0 then(bH c b (gU c),bw c b (gU c))else cE (bH c b (gU c)) b:=by
 obtain⟨n,hn⟩: ∃n,(eH c b).toNat=n+1:=⟨(eH c b).toNat -1,by omega⟩
 rw[cE,hn,eZ]
 split
 ·
  rfl
 ·
  rename_i h0
  have nt:bw c b (gU c)=0:=by simpa using h0
  rw[cE,Kr nt,show(eH c b -1).toNat=n by omega]
theorem SQ{c:CV}{b:Int}(h: ¬0<eH c b):cE c b=(df c b,dL c b):=by
 rw[cE,show(eH c b).toNat=0 by omega];rfl
theorem rO(c:CV)(b e:Int):(gm c b e).ops=c.ops:=by
 rw[gm];split
 ·
  rw[iS];split<;>rfl
 ·
  rfl
theorem Ks(c:CV)(b g:Int)(p:List UInt8):c.ops≤(dK c b g p).ops:=by
 rw[dK];split
 ·
  simp only[eS];omega
 ·
  omega
theorem SR(c:CV)(b:Int):c.ops≤(eF c b).ops:=by
 rw[eF];split
 ·
  simp only[gA];omega
 ·
  omega
theorem qK{c:CV}{b:Int}{p:List UInt8}(hb:(ak c b).bad=false)(he:bw c b p=9∨bw c b p=0):(bH c b p).ops=c.ops+1:=by
 rw[bH,rO,dK]
 rw[bw,jq]at he
 by_cases h1:lC c b (ak c b).used p=true
 ·
  rw[if_pos h1]at he
  by_cases h2:c.off=true
  ·
   rw[if_pos h2]at he;omega
  ·
   rw[if_pos ⟨h1,by simpa using h2,hb,rfl⟩];rfl
 ·
  rw[if_neg h1]at he;omega
theorem SS{c:CV}{b:Int}(hb:(ak c b).bad=false)(he:dL c b=9∨dL c b=0):(df c b).ops=c.ops+1:=by
 rw[df,rO,eF]
 rw[dL]at he
 by_cases h1:lR c b=true
 ·
  rw[if_pos h1]at he
  by_cases h2:c.off=true
  ·
   rw[if_pos h2]at he;omega
  ·
   rw[if_pos ⟨h1,by simpa using h2,hb⟩];rfl
 ·
  rw[if_neg h1]at he;omega
theorem Kt{c:CV}{b:Int}{p:List UInt8}(h:bw c b p=0):(ak (bH c b p) b).bad=false:=by
 obtain⟨h1,h2,h3,h4,h5⟩:=od h
 rw[h5,eS,oW (iH.1 h1).1];exact h3
theorem uR(c:CV)(b:Int)(p:List UInt8):c.ops≤(bH c b p).ops:=by rw[bH,rO];exact Ks _ _ _ _
theorem Ku(c:CV)(b:Int):c.ops≤(df c b).ops:=by rw[df,rO];exact SR _ _
theorem wM: ∀(n:Nat) (c:CV) (b:Int),c.ops≤(eZ n c b).1.ops
 |0,c,b=>Ku c b
 |n+1,c,b=>by
  rw[eZ];split
  ·
   exact uR _ _ _
  ·
   have:=wM n (bH c b (gU c)) b
   have:=uR c b (gU c)
   omega
theorem Kv: ∀(n:Nat) {c:CV} {b:Int},(ak c b).bad=false→(eZ n c b).2=9∨(eZ n c b).2=0→c.ops<(eZ n c b).1.ops
 |0,c,b,hb,he=>by have:=SS hb he;simp only[eZ];omega
 |n+1,c,b,hb,he=>by
  rw[eZ]at he⊢
  by_cases h0:bw c b (gU c)≠0
  ·
   rw[if_pos h0]at he⊢
   have:=qK hb (p:=gU c) (he.imp id fun h=>h)
   simp only;omega
  ·
   rw[if_neg h0]at he⊢
   have nt:bw c b (gU c)=0:=by simpa using h0
   have:=Kv n (Kt nt) he
   have:=uR c b (gU c)
   omega
theorem BH{c:CV}{b:Int}(hb:(ak c b).bad=false)(he:(cE c b).2=9∨(cE c b).2=0):c.ops<(cE c b).1.ops:=Kv _ hb he
def bb:aA:=⟨0,0,0,true⟩
def mM(x:aA):aA:=if x.bad=true then bb else x
def aB(c:CV)(fl:List Int):List aA:=(iw c fl).map mM
def iI(R:aA→Bool)(x:aA):aA:=if x.bad=true∨R x=false then bb else x
def bX(R:aA→Bool)(l:List aA):List aA:=l.map (iI R)
theorem j7(c:CV)(fl:List Int):(aB c fl).length=c.blocks.length -2:=by rw[aB,List.length_map,iw,wG]
theorem sX(R:aA→Bool)(l:List aA):(bX R l).length=l.length:=by simp[bX]
open Go.ay
structure WV where
 v:VV
 beyond:Bool
 deriving DecidableEq
def WV.on(x:WV)(c:CV):WV:={x with v:={x.v with ag:=c}}
theorem qL{c:Cp}{b:Int}{B:Bk}(h:c.blocks.xs[b.toNat]? =some B):ak (cv c) b=bv B:=by
 rw[←uI];simp[List.getD,h]
def cl(c:CV):Nat:=(c.blocks.filter fun b=>b.bad).length
def j8(p:List UInt8):Nat:=if(bE p).2=0 then(bE p).1.gen else 0
def qM(l:List (List UInt8)):Nat:=l.foldl (fun m p=>max m (j8 p)) 0
def j9(c:CV)(b:Int):Nat:=qM (ak c b).ae
theorem SU{l:List (List UInt8)}{i:Nat}{p:List UInt8}(h:l[i]? =some p):qM (l.take (i+1))=max (qM (l.take i)) (j8 p):=by
 rw[qM,List.take_add_one,h];simp[qM]
theorem Kw(b:List UInt8):(cN b).1.gen<281474976710656:=by
 have:=EP b
 rw[cN]
 split
 ·
  simp[jr]
 ·
  split
  ·
   simp[jr]
  ·
   split
   ·
    simp[jr]
   ·
    split
    ·
     simp[jr]
    ·
     split
     ·
      simp[jr]
     ·
      exact this
theorem Kx(p:List UInt8):j8 p<281474976710656:=by
 rw[j8];split
 ·
  rw[bE];split
  ·
   simp[gB]
  ·
   split
   ·
    simp[gB]
   ·
    split
    ·
     simp[gB]
    ·
     exact Kw p
 ·
  omega
theorem E5(l:List (List UInt8)):qM l<281474976710656:=by
 have: ∀(l:List (List UInt8)) (m:Nat),m<281474976710656→l.foldl (fun m p=>max m (j8 p)) m<281474976710656:=by
  intro l
  induction l with
  |nil=>intro m h;exact h
  |cons p r ih=>
   intro m h
   have:=Kx p
   exact ih _ (Nat.max_lt.2 ⟨h,this⟩)
 exact this l 0 (by omega)
def wN(c:CV)(b:Int):Bool:= !(ak c b).bad&&(decide (0<(ak c b).used)||(decide (b<2)&&decide (0<j9 c b)))
def fP(c:CV)(b:Int):Nat:=max 1 (j9 c (1 -b)+(1 -b).toNat)
def sY(c:CV)(last:Int):Int:=if(ak c (1 -last)).bad=true then eH c last else if(ak c last).bad=true∧0<eH c (1 -last)then eH c (1 -last)else c.ae
def uS(g:Nat):Bool:=decide (281474976710656≤g+2)
def iV(e:Int):Int:=if e=9 then 0 else e
theorem Ky{f:aA→aA}{l:List aA}{i:Nat}{x:aA}(h:l[i]? =some x):((l.take i).map f++l.drop i).set i (f x)=(l.take (i+1)).map f++l.drop (i+1):=by
 have hi:=(List.getElem?_eq_some_iff.1 h).1
 have hl:((l.take i).map f).length=i:=by rw[List.length_map,List.length_take];omega
 rw[List.set_append_right _ _ (by omega),hl,Nat.sub_self,wL h,List.set_cons_zero,List.take_add_one,h]
 simp
theorem Kz{f:aA→aA}{l:List aA}{i:Nat}{x:aA}(h:l[i]? =some x)(hf:f x=x):(l.take i).map f++l.drop i=(l.take (i+1)).map f++l.drop (i+1):=by
 rw[wL h,List.take_add_one,h]
 simp[hf]
theorem KA{f:aA→aA}{l:List aA}{i:Nat}{x:aA}(h:l[i]? =some x):((l.take i).map f++l.drop i)[i]? =some x:=by
 have hi:=(List.getElem?_eq_some_iff.1 h).1
 have hl:((l.take i).map f).length=i:=by rw[List.length_map,List.length_take];omega
 rw[List.getElem?_append_right (by omega),hl,Nat.sub_self,List.getElem?_drop,Nat.add_zero,h]
theorem SV{l:List BV}{i:Nat}{x:BV}(h:l[i]? =some x):((l.take (i+1)).filter fun b=>b.bad).length=((l.take i).filter fun b=>b.bad).length+(if x.bad=true then 1 else 0):=by
 rw[List.take_add_one,h,List.filter_append,List.length_append]
 congr 1
 simp only[Option.toList_some,List.filter_cons,List.filter_nil]
 split<;>simp_all
end Go.Kb
