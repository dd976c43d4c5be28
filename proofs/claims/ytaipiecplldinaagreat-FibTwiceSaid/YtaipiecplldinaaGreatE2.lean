/- Part of a proof. -/
import Derived.Test.YtaipiecplldinaaGreatE1
import Derived.Lib.AppendZerosOnto
import Derived.Lib.Overlaps
import Derived.Lib.AppendZeros
set_option maxRecDepth 20000
set_option linter.unusedSimpArgs false
set_option linter.unusedVariables false
namespace Go.aA
structure ng where
 X:Type
 v:X→Value
 e:X→ai
section
variable {P:Program} {l:List Oper} {Q:Exit→Act→World→Prop} {fs:List Nat} {mk:Nat→ng} {w0:World}
def sr(P:Program)(o:Oper)(ρ:Operand→Value)(m:ng):Prop:= ∀(w0 w:World) (L:List ai),Mem w0 L w→ ∃(x:m.X) (w':World),(execOp ρ o).run P w= .ok (.value (m.v x)) w'∧Mem w0 (m.e x::L) w'
def upon(P:Program)(w:World)(R:Value→World→Prop):Result Next→Prop
 | .ok (.value v) w'=>R v w'
 | .ok .skip w'=>R undef w'
 | .ok (.enter f args) w'=>w'=w∧Calls P f args w fun e oy=> ∃v,e= .returned v∧R v oy
 |_=>False
def qo(P:Program)(l:List Oper)(fs:List Nat)(mk:Nat→ng)(Q:Exit→Act→World→Prop)(w0:World):List Nat→Act→List ai→List ai→Prop
 |[],af,L,_=> ∀w,Mem w0 L w→Q .normal af w
 |k::ord,af,L,Lq=> ∃o,l[k]? =some o∧(if fs.contains k=true then(∀i∈ord,fs.contains (i+2000)=true→ ∃oi,l[i]? =some oi∧oi.guard=none∧sr P oi af.eval (mk i))∧(if fs.contains (k+2000)=true then
  o.guard=none∧sr P o af.eval (mk k)∧ ∀x:(mk k).X,qo P l fs mk Q w0 ord (af.put o.dst ((mk k).v x)) ((mk k).e x::L) Lq
  else
   Region.wanted o (yielded l.toArray af.tmps)=true∧(∀w,Mem w0 L w→upon P w (fun v w'=> ∃L' gh,Mem w0 L' w'∧(∀w,Mem w0 L' w→Mem w0 gh w)∧(∀w,Mem w0 gh w→Mem w0 Lq w)∧(fs.contains (k+5000)=true→ ∀w,Mem w0 L' w→Mem w0 L w)∧qo P l fs mk Q w0 ord (af.put o.dst v) L' gh) ((execOp af.eval o).run P w))∧
   (fs.contains (k+4000)=true→ ∀e w,Mem w0 (e::L) w→upon P w (fun v w'=> ∃L' gh,Mem w0 (e::L') w'∧(∀w,Mem w0 L' w→Mem w0 gh w)∧(∀w,Mem w0 gh w→Mem w0 Lq w)∧(fs.contains (k+5000)=true→ ∀w,Mem w0 L' w→Mem w0 L w)∧qo P l fs mk Q w0 ord (af.put o.dst v) L' gh) ((execOp af.eval o).run P w)))
  else∃v,(Region.wanted o (yielded l.toArray af.tmps)=true→sa P o af (Mem w0 (if fs.contains (k+1000)=true then L else Lq)) v)∧(Region.wanted o (yielded l.toArray af.tmps)=false→v=undef)∧qo P l fs mk Q w0 ord (af.put o.dst v) L Lq)
def zg(o:Oper):List Nat:=(o.after.toList.filter fun e=>Region.binds .any e).map (·.on)
def ES(l:List Oper)(fs:List Nat)(A:List (List Nat))(prev seen:List Nat)(k:Nat)(o:Oper):Bool:=
 (!fs.contains k||fs.contains (k+2000)||fs.contains (k+5000)||(prev.all fun j=> !fs.contains (j+1000)||(A.getD k []).contains j))&&
 (match o.op with| .select .. =>false|_=>true)&&
 ((zg o).all fun j=>decide (j<k))&&
 (fs.contains (k+2000)||seen.all fun f=>(A.getD k []).contains f)&&
 ((A.getD k []).all fun f=>(zg o).any fun j=>j==f||(A.getD j []).contains f)&&
 ((List.range l.length).all fun j=>match dI l j with
  |none=>true
  |some d=>(!(o.looksAt l.toArray).contains d||(prev.contains j&&(zg o).contains j&&(!fs.contains (k+2000)|| !fs.contains j)))&&(j==k||o.dst !=some d))
def su(l:List Oper)(fs:List Nat)(A:List (List Nat)):List Nat→List Nat→List Nat→Bool
 |_,_,[]=>true
 |prev,seen,k::ord=>(match l[k]?with|none=>false|some o=>ES l fs A prev seen k o)&&(!fs.contains k||fs.contains (k+2000)||(ord.all fun j=> !fs.contains (j+2000))||(fs.contains (k+4000)&&decide ((ord.filter fun j=>fs.contains (j+2000)).length≤1)))&&su l fs A (k::prev) (if fs.contains k then k::seen else seen) ord
def BM(l:List Oper)(fs:List Nat)(A:List (List Nat))(ord:List Nat):Bool:=
 ((List.range l.length).all fun j=>ord.contains j)&&decide ord.Nodup&&(ord.all fun j=>decide (j<l.length))&&(fs.all fun j=>decide (j<2000))&&su l fs A [] [] ord
def BN(l:List Oper)(fs:List Nat)(A:List (List Nat))(ord:List Nat):Bool:=
 ((List.range l.length).all fun j=>ord.contains j)&&decide ord.Nodup&&(ord.all fun j=>decide (j<l.length))&&su l fs A [] [] ord
structure ET(l:List Oper)(fs:List Nat)(A:List (List Nat))(prev seen:List Nat)(k:Nat)(o:Oper):Prop where
 tmp:fs.contains k=true→fs.contains (k+2000)=false→fs.contains (k+5000)=false→ ∀j∈prev,fs.contains (j+1000)=true→j∈A.getD k []
 tg: ∀cs b,o.op≠ .select cs b
 back: ∀e∈o.after,Region.binds .any e=true→e.on<k
 R0:fs.contains (k+2000)=false→ ∀f∈seen,f∈A.getD k []
 cert: ∀f∈A.getD k [],∃e∈o.after,Region.binds .any e=true∧(e.on=f∨f∈A.getD e.on [])
 reads: ∀j d,j<l.length→dI l j=some d→d∈o.looksAt l.toArray→j∈prev∧ ∃e∈o.after,Region.binds .any e=true∧e.on=j
 one: ∀j d,j<l.length→dI l j=some d→j≠k→o.dst≠some d
 R5:fs.contains (k+2000)=true→ ∀j d,j<l.length→dI l j=some d→d∈o.looksAt l.toArray→fs.contains j=false
theorem EU{o:Oper}{j:Nat}:j∈zg o↔ ∃e∈o.after,Region.binds .any e=true∧e.on=j:=by
 unfold zg
 simp only[List.mem_map,List.mem_filter]
 constructor
 ·
  rintro⟨e,⟨h1,h2⟩,h3⟩;exact⟨e,by simpa using h1,h2,h3⟩
 ·
  rintro⟨e,h1,h2,h3⟩;exact⟨e,⟨by simpa using h1,h2⟩,h3⟩
theorem R6{A:List (List Nat)}{prev seen:List Nat}{k:Nat}{o:Oper}(h:ES l fs A prev seen k o=true):ET l fs A prev seen k o:=by
 simp only[ES,Bool.and_eq_true]at h
 obtain⟨⟨⟨⟨⟨h0,h1⟩,h2⟩,h3⟩,h4⟩,h5⟩:=h
 refine⟨fun hk oC R7 j hj ht=>by
  rw[hk,oC,R7,Bool.not_true,Bool.false_or,Bool.false_or,Bool.false_or]at h0
  have:=List.all_eq_true.1 h0 j hj
  rw[ht]at this
  simpa using this,fun cs b e=>by rw[e]at h1;simp at h1,fun e he hb=> ?_,fun dJ f hf=> ?_,fun f hf=> ?_,fun j d hj hd hl=> ?_,fun j d hj hd bW=> ?_,fun hk j d hj hd hl=> ?_⟩
 ·
  have:=List.all_eq_true.1 h2 e.on (EU.2 ⟨e,he,hb,rfl⟩)
  simpa using this
 ·
  rw[dJ,Bool.false_or]at h3
  have:=List.all_eq_true.1 h3 f hf
  simpa using this
 ·
  have:=List.all_eq_true.1 h4 f hf
  obtain⟨j,hj,dF⟩:=List.any_eq_true.1 this
  obtain⟨e,he,hb,rfl⟩:=EU.1 hj
  exact⟨e,he,hb,by simpa using dF⟩
 ·
  have:=List.all_eq_true.1 h5 j (List.mem_range.2 hj)
  rw[hd]at this
  simp only[Bool.and_eq_true,Bool.or_eq_true,Bool.not_eq_true']at this
  rcases this.1 with h6|h6
  ·
   exact absurd hl (by simpa using h6)
  ·
   exact⟨by simpa using h6.1.1,EU.1 (by simpa using h6.1.2)⟩
 ·
  have:=List.all_eq_true.1 h5 j (List.mem_range.2 hj)
  rw[hd]at this
  simp only[Bool.and_eq_true,Bool.or_eq_true,beq_iff_eq]at this
  rcases this.2 with h6|h6
  ·
   exact absurd h6 bW
  ·
   simpa using h6
 ·
  have:=List.all_eq_true.1 h5 j (List.mem_range.2 hj)
  rw[hd]at this
  simp only[Bool.and_eq_true,Bool.or_eq_true,Bool.not_eq_true']at this
  rcases this.1 with h6|h6
  ·
   exact absurd hl (by simpa using h6)
  ·
   rcases h6.2 with h7|h7
   ·
    rw[hk]at h7;cases h7
   ·
    exact h7
theorem tE{A:List (List Nat)}: ∀(ord prev seen:List Nat),su l fs A prev seen ord=true→ ∀(x:List Nat) (k:Nat) (y:List Nat),ord=x++k::y→
  ∃o,l[k]? =some o∧ET l fs A (x.reverse++prev) ((x.filter fun j=>fs.contains j).reverse++seen) k o∧(fs.contains k=true→fs.contains (k+2000)=false→(∀j∈y,fs.contains (j+2000)=false)∨(fs.contains (k+4000)=true∧(y.filter fun j=>fs.contains (j+2000)).length≤1))
 |[],_,_,_,x,k,y,e=>by simp at e
 |k0::ord,prev,seen,h,x,k,y,e=>by
  simp only[su,Bool.and_eq_true]at h
  cases x with
  |nil=>
   simp only[List.nil_append,List.cons.injEq]at e
   obtain⟨rfl,rfl⟩:=e
   cases ho:l[k0]?with
   |none=>rw[ho]at h;simp at h
   |some o=>
    rw[ho]at h
    refine⟨o,rfl,by simpa using R6 h.1.1,fun h1 h2=> ?_⟩
    have h3:=h.1.2
    rw[h1,h2]at h3
    simp only[Bool.not_true,Bool.false_or,Bool.or_eq_true,Bool.and_eq_true,decide_eq_true_eq]at h3
    refine h3.imp (fun h4 j hj=> ?_) id
    have:=List.all_eq_true.1 h4 j hj
    simpa using this
  |cons x0 x=>
   simp only[List.cons_append,List.cons.injEq]at e
   obtain⟨rfl,rfl⟩:=e
   obtain⟨o,ho,hk,hy⟩:=tE _ _ _ h.2 x k y rfl
   refine⟨o,ho,?_,hy⟩
   have e1:(k0::x).reverse++prev=x.reverse++(k0::prev):=by simp
   have e2:(((k0::x).filter fun j=>fs.contains j).reverse++seen)=(x.filter fun j=>fs.contains j).reverse++(if fs.contains k0 then k0::seen else seen):=by
    cases hc:fs.contains k0 with
    |true=>
     rw[List.filter_cons,if_pos hc,List.reverse_cons,List.append_assoc];rfl
    |false=>
     rw[List.filter_cons,if_neg (by rw[hc];exact Bool.false_ne_true)];rfl
   rw[e1,e2];exact hk
def nW(N0 d:Nat)(v:Value)(a:Act):Prop:=a.tmps[d]? =if d<N0 then some v else none
theorem wP{N0 d:Nat}{v:Value}{a:Act}(h:a.tmps.size=N0):nW N0 d v (a.put (some d) v):=by
 subst h
 unfold nW
 simp[Act.put,Array.getElem?_setIfInBounds]
def EV(P:Program)(l:List Oper)(w0:World)(N0 k:Nat)(af:Act)(Lq:List ai):Prop:=
 ∃o v,l[k]? =some o∧(∀d,o.dst=some d→nW N0 d v af)∧(Region.wanted o (yielded l.toArray af.tmps)=true→sa P o af (Mem w0 Lq) v)∧(Region.wanted o (yielded l.toArray af.tmps)=false→v=undef)
def Early(l:List Oper)(fs:List Nat)(mk:Nat→ng)(N0:Nat)(gO:List Nat)(bh:Array Bool)(a:Act)(e:Nat×ai):Prop:=
 e.1∈gO∧bh.getD e.1 true=true∧fs.contains e.1=true∧fs.contains (e.1+2000)=true∧ ∃o,∃x:(mk e.1).X,l[e.1]? =some o∧e.2=(mk e.1).e x∧ ∀d,o.dst=some d→nW N0 d ((mk e.1).v x) a
structure Core(P:Program)(l:List Oper)(fs:List Nat)(mk:Nat→ng)(Q:Exit→Act→World→Prop)(w0:World)(ord:List Nat)(a0:Act)(pre gO:List Nat)(af:Act)(L Lq:List ai)(E:List (Nat×ai))(bh:Array Bool)(a:Act)(w:World):Prop where
 ord:ord=pre++gO
 inv:HeadInv .any l.toArray l.length bh
 mem:Mem w0 (E.map (·.2)++L) w
 oI: ∀e∈E,Early l fs mk a0.tmps.size gO bh a e
 keys:(E.map (·.1)).Nodup
 wQ: ∀w,Mem w0 L w→Mem w0 Lq w
 vh:qo P l fs mk Q w0 gO af L Lq
 size:a.tmps.size=a0.tmps.size
 pd:af.tmps.size=a0.tmps.size
 defers:a.defers=a0.defers
 q9:af.defers=a0.defers
 sub: ∀j,j<l.length→bh.getD j true=true→j∈pre∨j∈E.map (·.1)
 fresh: ∀j∈pre,fs.contains j=true→bh.getD j true=true
 tF: ∀j∈pre,bh.getD j true=false→EV P l w0 a0.tmps.size j af (if fs.contains (j+1000)=true then L else Lq)
 done: ∀j d,j<l.length→bh.getD j true=true→j∈pre→dI l j=some d→a.tmps[d]? =af.tmps[d]?
 rest: ∀d,(∀j,j<l.length→bh.getD j true=true→dI l j≠some d)→a.tmps[d]? =a0.tmps[d]?
 full: ∀d,(∀j∈pre,dI l j≠some d)→af.tmps[d]? =a0.tmps[d]?
variable {A:List (List Nat)} {ord:List Nat} {a0:Act}
theorem zh{o:Oper}(hn: ∀cs b,o.op≠ .select cs b){a b:Act}(h: ∀t∈o.looksAt l.toArray,a.tmps[t]? =b.tmps[t]?):
  execOp a.eval o=execOp b.eval o∧Region.wanted o (yielded l.toArray a.tmps)=Region.wanted o (yielded l.toArray b.tmps):=
 ⟨execOp_congr o hn (Eg h),I7 h⟩
theorem JX{o:Oper}{a b:Act}{C D:World→Prop}{v:Value}(e:execOp a.eval o=execOp b.eval o)(hD: ∀w,D w→C w)(h:sa P o a C v):sa P o b D v:=fun w hw=>by
 have:=h w (hD w hw)
 unfold Oper.quietAt at this⊢
 rw[←e];exact this
theorem wR{pre gO:List Nat}{i k N0:Nat}{af:Act}{Lq gh:List ai}{oi:Oper}{u:Value}(hB:su l fs A [] [] ord=true)(cz:ord.Nodup)(bu: ∀j∈ord,j<l.length)(ho:ord=pre++i::gO)(uK:l[i]? =some oi)(hk:k∈pre)(hq: ∀w,Mem w0 gh w→Mem w0 Lq w)
  (h:EV P l w0 N0 k af Lq):EV P l w0 N0 k (af.put oi.dst u) gh:=by
 obtain⟨o,v,h1,h2,h3,h4⟩:=h
 obtain⟨x,y,rfl⟩:=List.append_of_mem hk
 have nS:ord=x++k::(y++i::gO):=by rw[ho];simp
 obtain⟨o',nX,bR,-⟩:=tE ord [] [] hB x k _ nS
 have:o'=o:=by rw[h1]at nX;exact(Option.some.inj nX).symm
 subst this
 have eX:i<l.length:=(List.getElem?_eq_some_iff.1 uK).1
 have kz:dI l i=oi.dst:=by simp[dI,uK]
 have mA:i≠k:=fun e=>by
  subst e
  rw[nS]at cz
  have:=(List.nodup_append.1 cz).2.1
  exact(List.nodup_cons.1 this).1 (by simp)
 have JY:i∉x:=fun hx=>by
  rw[nS]at cz
  exact(List.nodup_append.1 cz).2.2 i hx i (by simp) rfl
 have EW: ∀t∈o'.looksAt l.toArray,af.tmps[t]? =(af.put oi.dst u).tmps[t]? :=fun t ht=>by
  refine(jB _ _ _ _ fun e=> ?_).symm
  obtain⟨hp,_⟩:=bR.reads i t eX (by rw[kz];exact e) ht
  rw[List.append_nil,List.mem_reverse]at hp
  exact JY hp
 obtain⟨e1,e2⟩:=zh bR.tg EW
 refine⟨o',v,h1,fun d hd=> ?_,fun hw=>JX e1 hq (h3 (by rw[e2];exact hw)),fun hw=>h4 (by rw[e2];exact hw)⟩
 have:=h2 d hd
 unfold nW at this⊢
 rw[jB _ _ _ _ fun e=> ?_]
 ·
  exact this
 ·
  exact bR.one i d eX (by rw[kz];exact e) mA hd
theorem R8{E:List (Nat×ai)}{k:Nat}(h:k∈E.map (·.1)): ∃E1 x E2,E=E1++(k,x)::E2:=by
 obtain⟨e,he,rfl⟩:=List.mem_map.1 h
 obtain⟨E1,E2,rfl⟩:=List.append_of_mem he
 exact⟨E1,e.2,E2,rfl⟩
theorem BO(hB:su l fs A [] [] ord=true)(cz:ord.Nodup)(bu: ∀j∈ord,j<l.length): ∀(gO pre:List Nat) (af:Act) {L Lq:List ai} {E:List (Nat×ai)} {bh:Array Bool} {a:Act} {w:World},Core P l fs mk Q w0 ord a0 pre gO af L Lq E bh a w→
  ∃R9 EX Sa L' E',Core P l fs mk Q w0 ord a0 R9 EX Sa L' Lq E' bh a w∧(EX=[]∨ ∃f r,EX=f::r∧fs.contains f=true∧f∉E'.map (·.1))
 |[],pre,af,L,_,E,_,_,_,H=>⟨pre,[],af,L,E,H, .inl rfl⟩
 |k::gO,pre,af,L,Lq,E,bh,a,w,H=>by
  have mB:k∉pre:=fun h=>by
   have nY:=cz
   rw[H.ord]at nY
   exact(List.nodup_append.1 nY).2.2 k h k (by simp) rfl
  have ig: ∀j,j∈pre→j≠k:=fun j hj e=>mB (e▸hj)
  have hks:k∉gO:=fun h=>by
   have nY:=cz
   rw[H.ord]at nY
   exact(List.nodup_cons.1 (List.nodup_append.1 nY).2.1).1 h
  obtain⟨o',qp,bR,-⟩:=tE ord [] [] hB pre k gO H.ord
  have zj:k<l.length:=(List.getElem?_eq_some_iff.1 qp).1
  have BP:dI l k=o'.dst:=by simp[dI,qp]
  cases hf:fs.contains k with
  |true=>
   by_cases hE:k∈E.map (·.1)
   ·
    obtain⟨E1,x,E2,rfl⟩:=R8 hE
    obtain⟨_,dM,_,dJ,oe,b,JZ,hx,py⟩:=H.oI (k,x) (by simp)
    simp only at dM dJ JZ hx py
    have e0:oe=o':=by rw[JZ]at qp;exact Option.some.inj qp
    subst e0
    obtain⟨o,nX,hl⟩:=H.vh
    rw[if_pos hf,if_pos dJ]at hl
    have e1:o=oe:=by rw[nX]at qp;exact Option.some.inj qp
    subst e1
    obtain⟨_,_,_,wS⟩:=hl
    have Sb:(((E1++(k,x)::E2).map (·.2))++L).Perm (((E1++E2).map (·.2))++x::L):=by
     simp only[List.map_append,List.map_cons,List.append_assoc,List.cons_append]
     exact List.Perm.append_left _ (List.perm_middle.symm)
    have EY:=H.keys
    simp only[List.map_append,List.map_cons]at EY
    have Sc: ∀e∈E1++E2,e.1≠k:=fun e he e2=>by
     obtain⟨n1,n2,n3⟩:=List.nodup_append.1 EY
     rcases List.mem_append.1 he with h|h
     ·
      exact n3 e.1 (List.mem_map_of_mem h) k (by simp) e2
     ·
      exact(List.nodup_cons.1 n2).1 (e2▸List.mem_map_of_mem h)
    refine BO hB cz bu gO (pre++[k]) (af.put o.dst ((mk k).v b)) (L:=x::L) (E:=E1++E2) ⟨by rw[H.ord];simp,H.inv,H.mem.perm Sb,fun e he=> ?_,?_,fun w hw=>H.wQ w (hw.sub (List.sublist_cons_self _ _)),by rw[hx];exact wS b,H.size,by rw[qY];exact H.pd,H.defers,by rw[qZ];exact H.q9,fun j hj hl=> ?_,fun j hj qe=> ?_,fun j hj hl=> ?_,fun j d hj hl rn hd=> ?_,H.rest,fun d hd=> ?_⟩
    ·
     have hm:e∈E1++(k,x)::E2:=by
      rcases List.mem_append.1 he with h|h
      ·
       exact List.mem_append_left _ h
      ·
       exact List.mem_append_right _ (List.mem_cons_of_mem _ h)
     obtain⟨g1,g2⟩:=H.oI e hm
     exact⟨(List.mem_cons.1 g1).resolve_left (Sc e he),g2⟩
    ·
     rw[List.map_append]
     exact EY.sublist (List.Sublist.append_left (List.sublist_cons_self _ _) _)
    ·
     rcases H.sub j hj hl with h|h
     ·
      exact .inl (List.mem_append_left _ h)
     ·
      simp only[List.map_append,List.map_cons,List.mem_append,List.mem_cons]at h
      rcases h with h|h|h
      ·
       exact .inr (by simp only[List.map_append,List.mem_append];exact .inl h)
      ·
       exact .inl (by rw[h];simp)
      ·
       exact .inr (by simp only[List.map_append,List.mem_append];exact .inr h)
    ·
     rcases List.mem_append.1 hj with h|h
     ·
      exact H.fresh j h qe
     ·
      obtain rfl:=List.mem_singleton.1 h;exact dM
    ·
     rcases List.mem_append.1 hj with h|h
     ·
      have hp:=H.tF j h hl
      cases vi:fs.contains (j+1000)with
      |true=>
       rw[vi]at hp
       simp only[if_true]at hp⊢
       exact wR hB cz bu H.ord nX h (fun w hw=>hw.sub (List.sublist_cons_self _ _)) hp
      |false=>
       rw[vi]at hp
       simp only[Bool.false_eq_true,if_false]at hp⊢
       exact wR hB cz bu H.ord nX h (fun _ h=>h) hp
     ·
      obtain rfl:=List.mem_singleton.1 h
      rw[dM]at hl;cases hl
    ·
     rcases List.mem_append.1 rn with h|h
     ·
      rw[jB _ _ _ _ (bR.one j d hj hd (ig j h))]
      exact H.done j d hj hl h hd
     ·
      obtain rfl:=List.mem_singleton.1 h
      rw[BP]at hd
      have h3:=py d hd
      rw[hd]
      have h4:nW a0.tmps.size d ((mk j).v b) (af.put (some d) ((mk j).v b)):=wP H.pd
      unfold nW at h3 h4
      rw[h3,h4]
    ·
     rw[jB _ _ _ _ (by have:=hd k (by simp);rwa [BP]at this)]
     exact H.full d fun j hj=>hd j (List.mem_append_left _ hj)
   ·
    exact⟨pre,k::gO,af,L,E,H, .inr ⟨k,gO,rfl,hf,hE⟩⟩
  |false=>
   obtain⟨o,nX,hl⟩:=H.vh
   rw[if_neg (by rw[hf];exact Bool.false_ne_true)]at hl
   obtain⟨v,h1,h2,h3⟩:=hl
   have:o'=o:=by rw[nX]at qp;exact(Option.some.inj qp).symm
   subst this
   have EW: ∀t∈o'.looksAt l.toArray,af.tmps[t]? =(af.put o'.dst v).tmps[t]? :=fun t ht=>by
    refine(jB _ _ _ _ fun e=> ?_).symm
    obtain⟨hp,_⟩:=bR.reads k t zj (by rw[BP];exact e) ht
    rw[List.append_nil,List.mem_reverse]at hp
    exact mB hp
   obtain⟨e1,e2⟩:=zh bR.tg EW
   refine BO hB cz bu gO (pre++[k]) (af.put o'.dst v) ⟨by rw[H.ord];simp,H.inv,H.mem,fun e he=> ?_,H.keys,H.wQ,h3,H.size,by rw[qY];exact H.pd,H.defers,by rw[qZ];exact H.q9,fun j hj hl=>(H.sub j hj hl).imp_left fun h=>List.mem_append_left _ h,fun j hj qe=> ?_,fun j hj hl=> ?_,fun j d hj hl rn hd=> ?_,H.rest,fun d hd=> ?_⟩
   ·
    obtain⟨g1,g2,g3,g4⟩:=H.oI e he
    exact⟨(List.mem_cons.1 g1).resolve_left (fun e2=>by rw[e2,hf]at g3;cases g3),g2,g3,g4⟩
   ·
    rcases List.mem_append.1 hj with h|h
    ·
     exact H.fresh j h qe
    ·
     obtain rfl:=List.mem_singleton.1 h
     rw[hf]at qe;cases qe
   ·
    rcases List.mem_append.1 hj with h|h
    ·
     exact wR hB cz bu H.ord nX h (fun _ h=>h) (H.tF j h hl)
    ·
     obtain rfl:=List.mem_singleton.1 h
     refine⟨o',v,nX,fun d hd=>by rw[hd];exact wP H.pd,fun hw=>JX e1 (fun _ h=>h) (h1 (by rw[e2];exact hw)),fun hw=>h2 (by rw[e2];exact hw)⟩
   ·
    rcases List.mem_append.1 rn with h|h
    ·
     rw[jB _ _ _ _ (bR.one j d hj hd (ig j h))]
     exact H.done j d hj hl h hd
    ·
     obtain rfl:=List.mem_singleton.1 h
     rcases H.sub j hj hl with h5|h5
     ·
      exact absurd h5 mB
     ·
      obtain⟨e,he,Sd⟩:=List.mem_map.1 h5
      obtain⟨_,_,g3,_⟩:=H.oI e he
      rw[Sd,hf]at g3;cases g3
   ·
    rw[jB _ _ _ _ (by have:=hd k (by simp);rwa [BP]at this)]
    exact H.full d fun j hj=>hd j (List.mem_append_left _ hj)
theorem J0{x p1 y y':List Nat}{i:Nat}(hn:(p1++i::y').Nodup)(h:x++i::y=p1++i::y'):x=p1:=by
 induction x generalizing p1 with
 |nil=>
  cases p1 with
  |nil=>rfl
  |cons q p1=>
   simp only[List.nil_append,List.cons_append,List.cons.injEq]at h
   obtain⟨rfl,_⟩:=h
   exact absurd (by simp) (List.nodup_cons.1 hn).1
 |cons c x ih=>
  cases p1 with
  |nil=>
   simp only[List.nil_append,List.cons_append,List.cons.injEq]at h
   obtain⟨rfl,h2⟩:=h
   rw[←h2]at hn
   exact absurd (by simp) (List.nodup_cons.1 hn).1
  |cons q p1=>
   simp only[List.cons_append,List.cons.injEq]at h
   obtain⟨rfl,h2⟩:=h
   rw[ih (List.nodup_cons.1 hn).2 h2]
theorem J1{bh:Array Bool}(hB:su l fs A [] [] ord=true)(gZ: ∀j,j<l.length→j∈ord)(inv:HeadInv .any l.toArray l.length bh): ∀(k:Nat) (o:Oper),l[k]? =some o→(∀e∈o.after,Region.binds .any e=true→bh.getD e.on false=true)→
  ∀f∈A.getD k [],bh.getD f false=true:=by
 intro k
 induction k using Nat.strongRecOn with
 |_ k ih=>
  intro o nX hd f hf
  obtain⟨x,y,hx⟩:=List.append_of_mem (gZ k (List.getElem?_eq_some_iff.1 nX).1)
  obtain⟨o',qp,bR,-⟩:=tE ord [] [] hB x k y hx
  have:o'=o:=by rw[nX]at qp;exact(Option.some.inj qp).symm
  subst this
  obtain⟨e,he,hb,h⟩:=bR.cert f hf
  have hl:=hd e he hb
  rcases h with rfl|h
  ·
   exact hl
  ·
   have bu:=bR.back e he hb
   have BQ:e.on<l.length:=by have:=(List.getElem?_eq_some_iff.1 nX).1;omega
   exact ih e.on bu l[e.on] (by simp[BQ]) (inv.closed e.on _ (by simp[BQ]) hl) f h
theorem BR{bh:Array Bool}{i:Nat}(hi:i<bh.size)(h:bh.getD i false=true):bh.getD i true=true:=by
 simp[hi]at h⊢;exact h
theorem BS(hB:su l fs A [] [] ord=true)(cz:ord.Nodup)(bu: ∀j∈ord,j<l.length)(gZ: ∀j,j<l.length→j∈ord)(wT: ∀k,k<l.length→fs.contains k=false→fs.contains (k+2000)=false):
  ∀(m:Nat) (pre gO:List Nat) (af:Act) (L Lq:List ai) (E:List (Nat×ai)) (bh:Array Bool) (a:Act) (w:World),left l.length bh=m→Core P l fs mk Q w0 ord a0 pre gO af L Lq E bh a w→wpAny P .any l.toArray Q m bh a w
 |0,EZ,E3,E4,L0,Lq,E0,bh,a,w,hm,H0=>by
  obtain⟨pre,gO,af,L,E,H,E5⟩:=BO hB cz bu E3 EZ E4 H0
  have ij: ∀j,j<l.length→bh.getD j true=true:=fun j hj=>by
   cases h:bh.getD j true with
   |true=>rfl
   |false=>
    have:j∈(List.range l.length).filter fun i=> !bh.getD i true:=List.mem_filter.2 ⟨List.mem_range.2 hj,by rw[h];rfl⟩
    rw[List.length_eq_zero_iff.1 hm]at this
    cases this
  have hr:Region.ready .any l.toArray bh=[]:=by
   refine List.eq_nil_iff_forall_not_mem.2 fun i hi=> ?_
   obtain⟨h1,o,h2,_⟩:=mem_ready.1 hi
   rw[ij i (by have:=(Array.getElem?_eq_some_iff.1 h2).1;simpa using this)]at h1;cases h1
  have E6:gO=[]:=by
   rcases E5 with h|⟨k,r,hs,_,hE⟩
   ·
    exact h
   ·
    exfalso
    have hk:k∈ord:=by rw[H.ord,hs];simp
    rcases H.sub k (bu k hk) (ij k (bu k hk))with this|this
    ·
     have nY:=cz
     rw[H.ord,hs]at nY
     exact absurd rfl ((List.nodup_append.1 nY).2.2 k this k (by simp))
    ·
     exact hE this
  have hE:E=[]:=List.eq_nil_iff_forall_not_mem.2 fun e he=>by
   have:=(H.oI e he).1
   rw[E6]at this;cases this
  have wS:=H.vh
  rw[E6]at wS
  have E7:=H.ord
  rw[E6,List.append_nil]at E7
  have e1:a=af:=by
   have:a.tmps=af.tmps:=by
    apply Array.ext_getElem?
    intro d
    by_cases hw: ∃j,j<l.length∧dI l j=some d
    ·
     obtain⟨j,hj,hd⟩:=hw
     exact H.done j d hj (ij j hj) (by rw[←E7];exact gZ j hj) hd
    ·
     have h1: ∀j,j<l.length→dI l j≠some d:=fun j hj hd=>hw ⟨j,hj,hd⟩
     rw[H.rest d fun j hj _=>h1 j hj,H.full d fun j hj=>h1 j (bu j (by rw[E7];exact hj))]
   have h2:a.defers=af.defers:=by rw[H.defers,H.q9]
   cases a;cases af
   simp_all
  subst e1
  have jD:=H.mem
  rw[hE]at jD
  exact⟨hr,wS w (by simpa using jD)⟩
 |m+1,EZ,E3,E4,L0,Lq,E0,bh,a,w,hm,H0=>by
  obtain⟨pre,gO,af,L,E,H,E5⟩:=BO hB cz bu E3 EZ E4 H0
  have J2:Mem w0 L w:=H.mem.sub (List.sublist_append_right _ _)
  obtain⟨i0,yK,Be,yL⟩: ∃i,i<l.length∧bh.getD i true=false∧ ∀j,j<i→bh.getD j true=true:=by
   have bW: ∃i,i<l.length∧bh.getD i true=false:=by
    cases hf:(List.range l.length).filter fun i=> !bh.getD i true with
    |nil=>rw[left,hf]at hm;cases hm
    |cons i r=>
     have:i∈(List.range l.length).filter fun i=> !bh.getD i true:=by rw[hf];simp
     obtain⟨h1,h2⟩:=List.mem_filter.1 this
     exact⟨i,List.mem_range.1 h1,by simpa using h2⟩
   obtain⟨i,h1,h2⟩:=bW
   induction i using Nat.strongRecOn with
   |_ i ih=>
    by_cases h: ∃j,j<i∧bh.getD j true=false
    ·
     obtain⟨j,hj,dF⟩:=h
     exact ih j hj (by omega) dF
    ·
     refine⟨i,h1,h2,fun j hj=> ?_⟩
     cases hh:bh.getD j true with
     |true=>rfl
     |false=>exact absurd ⟨j,hj,hh⟩ h
  have fh:bh.size=l.length:=by simpa using H.inv.size
  have ok: ∀k,k<l.length→ ∃x y o,ord=x++k::y∧l[k]? =some o∧ET l fs A (x.reverse++[]) ((x.filter fun j=>fs.contains j).reverse++[]) k o:=fun k hk=>by
   obtain⟨x,y,hx⟩:=List.append_of_mem (gZ k hk)
   obtain⟨o,ho,bR,-⟩:=tE ord [] [] hB x k y hx
   exact⟨x,y,o,hx,ho,bR⟩
  have yM:i0∈Region.ready .any l.toArray bh:=by
   obtain⟨x,y,o,_,ho,bR⟩:=ok i0 yK
   refine mem_ready.2 ⟨Be,o,by simpa using ho,fun e he hb=> ?_⟩
   have h1:=bR.back e he hb
   have h2:=yL e.on h1
   have h3:e.on<bh.size:=by omega
   simp[h3]at h2⊢;exact h2
  refine⟨fun h=>(by rw[h]at yM;cases yM),fun i hi=> ?_⟩
  obtain⟨ig,o',nS,pe⟩:=mem_ready.1 hi
  have sA:i<l.length:=by have:=(Array.getElem?_eq_some_iff.1 nS).1;simpa using this
  obtain⟨x,y,o,hx,ho,bR⟩:=ok i sA
  have:o'=o:=by simpa[ho]using nS.symm
  subst this
  have ra:left l.length (bh.setIfInBounds i true)=m:=by have:=I9 sA ig;omega
  have kz:dI l i=o'.dst:=by simp[dI,ho]
  have gP: ∀j,j≠i→(bh.setIfInBounds i true).getD j true=bh.getD j true:=fun j ct=>getD_set_ne true (Ne.symm ct)
  have oz:(bh.setIfInBounds i true).getD i true=true:=by simp[show i<bh.size by omega]
  have rp: ∀j d,j<l.length→dI l j=some d→j≠i→o'.dst≠some d:=bR.one
  have J3:(∀j∈x,j∈pre)→ ∀t∈o'.looksAt l.toArray,a.tmps[t]? =af.tmps[t]? :=fun iR t ht=>by
   by_cases hw: ∃j,j<l.length∧dI l j=some t
   ·
    obtain⟨j,hj,hd⟩:=hw
    obtain⟨pc,e,he,hb,fA⟩:=bR.reads j t hj hd ht
    have hl:=pe e he hb
    rw[fA]at hl
    rw[List.append_nil,List.mem_reverse]at pc
    exact H.done j t hj (BR (by omega) hl) (iR j pc) hd
   ·
    have h1: ∀j,j<l.length→dI l j≠some t:=fun j hj hd=>hw ⟨j,hj,hd⟩
    rw[H.rest t fun j hj _=>h1 j hj,H.full t fun j hj=>h1 j (bu j (by rw[H.ord];exact List.mem_append_left _ hj))]
  by_cases qq:i∈pre
  ·
   have iR: ∀j∈x,j∈pre:=fun j hj=>by
    obtain⟨p1,p2,hp⟩:=List.append_of_mem qq
    have h1:=H.ord
    rw[hp,hx,List.append_assoc,List.cons_append]at h1
    have zk:=cz
    rw[hx]at zk
    have h2:x=p1:=J0 (h1▸zk) h1
    rw[hp,←h2];exact List.mem_append_left _ hj
   obtain⟨ee,ew⟩:=zh bR.tg (J3 iR)
   obtain⟨op,v,dK,Se,BT,Sg⟩:=H.tF i qq ig
   have:op=o':=by rw[ho]at dK;exact(Option.some.inj dK).symm
   subst this
   have jC:fs.contains i=false:=by
    cases h:fs.contains i with
    |false=>rfl
    |true=>have:=H.fresh i qq h;rw[ig]at this;cases this
   have next: ∀w',Mem w [] w'→wpAny P .any l.toArray Q m (bh.setIfInBounds i true) (a.put op.dst v) w':=fun w' gN=>by
    refine BS hB cz bu gZ wT m pre gO af L Lq E _ _ w' ra ⟨H.ord,H.inv.set hi sA,by simpa using H.mem.call gN,fun e he=> ?_,H.keys,H.wQ,H.vh,by rw[qY];exact H.size,H.pd,by rw[qZ];exact H.defers,H.q9,fun j hj hl=> ?_,fun j hj hf=> ?_,fun j hj hl=> ?_,fun j d hj hl rn hd=> ?_,fun d hd=> ?_,H.full⟩
    ·
     obtain⟨g1,g2,g3,g4,oe,b,g5,g7,g8⟩:=H.oI e he
     have zl:e.1≠i:=fun e2=>by
      have nY:=cz
      rw[H.ord]at nY
      exact(List.nodup_append.1 nY).2.2 i qq e.1 g1 e2.symm
     refine⟨g1,by rw[gP _ zl];exact g2,g3,g4,oe,b,g5,g7,fun d hd=> ?_⟩
     have:=g8 d hd
     unfold nW at this⊢
     rw[jB _ _ _ _ (rp e.1 d (List.getElem?_eq_some_iff.1 g5).1 (by simp[dI,g5,hd]) zl)]
     exact this
    ·
     by_cases ct:j=i
     ·
      subst ct;exact .inl qq
     ·
      exact H.sub j hj (by rw[←gP j ct];exact hl)
    ·
     rw[gP j (fun e=>by subst e;rw[jC]at hf;cases hf)];exact H.fresh j hj hf
    ·
     exact H.tF j hj (by rw[←gP j (fun e=>by subst e;rw[oz]at hl;cases hl)];exact hl)
    ·
     by_cases ct:j=i
     ·
      subst ct
      rw[kz]at hd
      have h2:=Se d hd
      rw[hd]
      have h3:nW a0.tmps.size d v (a.put (some d) v):=wP H.size
      unfold nW at h2 h3
      rw[h2,h3]
     ·
      rw[gP j ct]at hl
      rw[jB _ _ _ _ (rp j d hj hd ct)]
      exact H.done j d hj hl rn hd
    ·
     have h1:op.dst≠some d:=by
      have:=hd i sA oz
      rwa [kz]at this
     rw[jB _ _ _ _ h1]
     refine H.rest d fun j hj hl=> ?_
     by_cases ct:j=i
     ·
      subst ct;rw[kz];exact h1
     ·
      exact hd j hj (by rw[gP j ct];exact hl)
   unfold wpOp
   simp only[nS]
   rw[ew]
   split
   ·
    rename_i pf
    have h1:=BT pf w (by
     split
     ·
      exact J2
     ·
      exact H.wQ w J2)
    refine .inl ?_
    unfold Oper.wp
    rw[ee]
    unfold Oper.quietAt at h1
    generalize(execOp af.eval op).run P w=r at h1
    unfold Oper.quietUpon at h1
    split at h1
    ·
     obtain⟨rfl,rfl⟩:=h1;exact next _ (Mem.init _)
    ·
     obtain⟨rfl,e⟩:=h1;rw[e]at next;exact next _ (Mem.init _)
    ·
     obtain⟨rfl,se⟩:=h1
     exact se.mono fun e oy ⟨he,hm⟩=>by subst he;exact next _ hm
    ·
     exact h1.elim
   ·
    rename_i pf
    have:=Sg (by simpa using pf)
    rw[this]at next
    exact next w (Mem.init _)
  ·
   have E8:i∈gO:=by
    have:=gZ i sA
    rw[H.ord]at this
    exact(List.mem_append.1 this).resolve_left qq
   rcases E5 with rfl|⟨f,r,rfl,oJ,zm⟩
   ·
    cases E8
   have Sh: ∀(v:Value) (j d:Nat),j<l.length→(bh.setIfInBounds i true).getD j true=true→j∈pre→dI l j=some d→(a.put o'.dst v).tmps[d]? =af.tmps[d]? :=fun v j d hj hl rn hd=>by
    have ct:j≠i:=fun e=>qq (e▸rn)
    rw[gP j ct]at hl
    rw[jB _ _ _ _ (rp j d hj hd ct)]
    exact H.done j d hj hl rn hd
   have BU: ∀(v:Value) (d:Nat),(∀j,j<l.length→(bh.setIfInBounds i true).getD j true=true→dI l j≠some d)→(a.put o'.dst v).tmps[d]? =a0.tmps[d]? :=fun v d hd=>by
    have h1:o'.dst≠some d:=by
     have:=hd i sA oz
     rwa [kz]at this
    rw[jB _ _ _ _ h1]
    refine H.rest d fun j hj hl=> ?_
    by_cases ct:j=i
    ·
     subst ct;rw[kz];exact h1
    ·
     exact hd j hj (by rw[gP j ct];exact hl)
   have E9:i∉E.map (·.1):=fun h=>by
    obtain⟨e,he,rfl⟩:=List.mem_map.1 h
    have:=(H.oI e he).2.1
    rw[ig]at this;cases this
   have J4: ∀(v:Value),∀e∈E,Early l fs mk a0.tmps.size (f::r) (bh.setIfInBounds i true) (a.put o'.dst v) e:=fun v e he=>by
    obtain⟨g1,g2,g3,g4,oe,b,g5,g7,g8⟩:=H.oI e he
    have zl:e.1≠i:=fun e2=>E9 (e2▸List.mem_map_of_mem he)
    refine⟨g1,by rw[gP _ zl];exact g2,g3,g4,oe,b,g5,g7,fun d hd=> ?_⟩
    have:=g8 d hd
    unfold nW at this⊢
    rw[jB _ _ _ _ (rp e.1 d (List.getElem?_eq_some_iff.1 g5).1 (by simp[dI,g5,hd]) zl)]
    exact this
   by_cases J5:i=f
   ·
    subst J5
    have iR: ∀j∈x,j∈pre:=fun j hj=>by
     have h1:=H.ord
     rw[hx]at h1
     have zk:=cz
     rw[hx]at zk
     have h2:x=pre:=J0 (h1▸zk) h1
     rw[←h2];exact hj
    obtain⟨ee,ew⟩:=zh bR.tg (J3 iR)
    obtain⟨of,ph,hl⟩:=H.vh
    have:of=o':=by rw[ho]at ph;exact(Option.some.inj ph).symm
    subst this
    rw[if_pos oJ]at hl
    replace hl:=hl.2
    have next: ∀v w' E' L' gh,E'=E→(∀e∈E,e.1∈r)→Mem w0 (E'.map (·.2)++L') w'→(∀w,Mem w0 L' w→Mem w0 gh w)→(∀w,Mem w0 gh w→Mem w0 Lq w)→(fs.contains (i+2000)=true∨fs.contains (i+5000)=true→ ∀w,Mem w0 L' w→Mem w0 L w)→qo P l fs mk Q w0 r (af.put of.dst v) L' gh→wpAny P .any l.toArray Q m (bh.setIfInBounds i true) (a.put of.dst v) w':=fun v w' E' L' gh vj vk g1 g2 g3 J6 g4=>by
     subst vj
     refine BS hB cz bu gZ wT m (pre++[i]) r (af.put of.dst v) L' gh E' _ _ w' ra ⟨by rw[H.ord];simp,H.inv.set hi sA,g1,fun e he=> ?_,H.keys,g2,g4,by rw[qY];exact H.size,by rw[qY];exact H.pd,by rw[qZ];exact H.defers,by rw[qZ];exact H.q9,fun j hj mC=> ?_,fun j hj hf=> ?_,fun j hj mC=> ?_,fun j d hj mC rn hd=> ?_,BU v,fun d hd=> ?_⟩
     ·
      obtain⟨g1',Si⟩:=J4 v e he
      exact⟨vk e he,Si⟩
     ·
      by_cases ct:j=i
      ·
       subst ct;exact .inl (by simp)
      ·
       exact(H.sub j hj (by rw[←gP j ct];exact mC)).imp_left fun h=>List.mem_append_left _ h
     ·
      rcases List.mem_append.1 hj with h|h
      ·
       by_cases ct:j=i
       ·
        subst ct;exact oz
       ·
        rw[gP j ct];exact H.fresh j h hf
      ·
       obtain rfl:=List.mem_singleton.1 h;exact oz
     ·
      rcases List.mem_append.1 hj with h|h
      ·
       have ct:j≠i:=fun e=>qq (e▸h)
       cases vi:fs.contains (j+1000)with
       |true=>
        cases oK:fs.contains (i+2000)with
        |true=>
         have hp:=H.tF j h (by rw[←gP j ct];exact mC)
         rw[vi]at hp
         simp only[if_true]at hp⊢
         exact wR hB cz bu H.ord ho h (J6 (.inl oK)) hp
        |false=>
         cases h5:fs.contains (i+5000)with
         |true=>
          have hp:=H.tF j h (by rw[←gP j ct];exact mC)
          rw[vi]at hp
          simp only[if_true]at hp⊢
          exact wR hB cz bu H.ord ho h (J6 (.inr h5)) hp
         |false=>
          exfalso
          obtain⟨oi,ti,BW,-⟩:=tE ord [] [] hB pre i r H.ord
          have e1:oi=of:=by rw[ho]at ti;exact(Option.some.inj ti).symm
          subst e1
          have Sj:=BW.tmp oJ oK h5 j (by rw[List.append_nil,List.mem_reverse];exact h) vi
          have jA:=J1 hB gZ H.inv i oi ho pe j Sj
          have Sk:j∈ord:=by rw[H.ord];exact List.mem_append_left _ h
          have:=BR (by have:=bu j Sk;omega) jA
          rw[gP j ct]at mC
          rw[this]at mC;cases mC
       |false=>
        have hp:=H.tF j h (by rw[←gP j ct];exact mC)
        rw[vi]at hp
        simp only[Bool.false_eq_true,if_false]at hp⊢
        exact wR hB cz bu H.ord ho h g3 hp
      ·
       obtain rfl:=List.mem_singleton.1 h
       rw[oz]at mC;cases mC
     ·
      rcases List.mem_append.1 rn with h|h
      ·
       have ct:j≠i:=fun e=>qq (e▸h)
       rw[jB _ _ _ _ (rp j d hj hd ct),jB _ _ _ _ (rp j d hj hd ct)]
       rw[gP j ct]at mC
       exact H.done j d hj mC h hd
      ·
       obtain rfl:=List.mem_singleton.1 h
       rw[kz]at hd
       rw[hd]
       have h3:nW a0.tmps.size d v (a.put (some d) v):=wP H.size
       have h4:nW a0.tmps.size d v (af.put (some d) v):=wP H.pd
       unfold nW at h3 h4
       rw[h3,h4]
     ·
      have h1:of.dst≠some d:=by
       have:=hd i (by simp)
       rwa [kz]at this
      rw[jB _ _ _ _ h1]
      exact H.full d fun j hj=>hd j (List.mem_append_left _ hj)
    have vk: ∀e∈E,e.1∈r:=fun e he=>by
     have:=(H.oI e he).1
     exact(List.mem_cons.1 this).resolve_left fun e2=>E9 (e2▸List.mem_map_of_mem he)
    cases oK:fs.contains (i+2000)with
    |true=>
     rw[if_pos oK]at hl
     obtain⟨hg,Fa,wS⟩:=hl
     obtain⟨mx,w',fX,Fb⟩:=Fa w0 w (E.map (·.2)++L) H.mem
     unfold wpOp
     simp only[nS]
     rw[if_pos (by simp[Region.wanted,hg])]
     refine .inl ?_
     unfold Oper.wp
     rw[ee,fX]
     refine next _ _ E ((mk i).e mx::L) Lq rfl vk ?_ (fun w hw=>H.wQ w (hw.sub (List.sublist_cons_self _ _))) (fun _ h=>h) (fun _ w hw=>hw.sub (List.sublist_cons_self _ _)) (wS _)
     exact Fb.perm (List.perm_middle.symm)
    |false=>
     rw[if_neg (by rw[oK];exact Bool.false_ne_true)]at hl
     obtain⟨hg,fX,Sm⟩:=hl
     have BX:E=[]∨ ∃x,E=[x]∧fs.contains (i+4000)=true:=by
      obtain⟨oi,ti,BW,Sn⟩:=tE ord [] [] hB pre i r H.ord
      rcases Sn oJ oK with h|⟨h4,h5⟩
      ·
       refine .inl (List.eq_nil_iff_forall_not_mem.2 fun e he=> ?_)
       have h1:=h e.1 (vk e he)
       rw[(H.oI e he).2.2.2.1]at h1;cases h1
      ·
       rcases vj:E with _|⟨x,_|⟨y,E'⟩⟩
       ·
        exact .inl rfl
       ·
        exact .inr ⟨x,rfl,h4⟩
       ·
        exfalso
        have m1:x.1∈r.filter fun j=>fs.contains (j+2000):=List.mem_filter.2 ⟨vk x (by rw[vj];simp),(H.oI x (by rw[vj];simp)).2.2.2.1⟩
        have m2:y.1∈r.filter fun j=>fs.contains (j+2000):=List.mem_filter.2 ⟨vk y (by rw[vj];simp),(H.oI y (by rw[vj];simp)).2.2.2.1⟩
        have J7:=H.keys
        rw[vj]at J7
        have bW:x.1≠y.1:=fun e=>(List.nodup_cons.1 J7).1 (by simp[e])
        rcases eA:(r.filter fun j=>fs.contains (j+2000))with _|⟨z,_|⟨z2,fl⟩⟩
        ·
         rw[eA]at m1;cases m1
        ·
         rw[eA,List.mem_singleton]at m1 m2
         exact bW (m1.trans m2.symm)
        ·
         rw[eA]at h5;simp at h5
     have h1:upon P w (fun v w'=> ∃L' gh,Mem w0 (E.map (·.2)++L') w'∧(∀w,Mem w0 L' w→Mem w0 gh w)∧(∀w,Mem w0 gh w→Mem w0 Lq w)∧(fs.contains (i+5000)=true→ ∀w,Mem w0 L' w→Mem w0 L w)∧qo P l fs mk Q w0 r (af.put of.dst v) L' gh) ((execOp af.eval of).run P w):=by
      have sB:=H.mem
      rcases BX with hE|⟨x,hE,h4⟩
      ·
       rw[hE]at sB⊢
       exact fX w (by simpa using sB)
      ·
       rw[hE]at sB⊢
       exact Sm h4 x.2 w (by simpa using sB)
     have Fc: ∀v w',(∃L' gh,Mem w0 (E.map (·.2)++L') w'∧(∀w,Mem w0 L' w→Mem w0 gh w)∧(∀w,Mem w0 gh w→Mem w0 Lq w)∧(fs.contains (i+5000)=true→ ∀w,Mem w0 L' w→Mem w0 L w)∧qo P l fs mk Q w0 r (af.put of.dst v) L' gh)→wpAny P .any l.toArray Q m (bh.setIfInBounds i true) (a.put of.dst v) w':=fun v w' ⟨L',gh,g1,g2,g3,g5,g4⟩=>
      next v w' E L' gh rfl vk g1 g2 g3 (fun h=>h.elim (fun h=>by rw[oK]at h;cases h) g5) g4
     unfold wpOp
     simp only[nS]
     rw[if_pos (by rw[ew];exact hg)]
     refine .inl ?_
     unfold Oper.wp
     rw[ee]
     generalize(execOp af.eval of).run P w=r' at h1
     unfold upon at h1
     split at h1
     ·
      exact Fc _ _ h1
     ·
      exact Fc _ _ h1
     ·
      obtain⟨rfl,se⟩:=h1
      exact se.mono fun e oy ⟨u,he,hR⟩=>by subst he;exact Fc u _ hR
     ·
      exact h1.elim
   ·
    have yN:i∈r:=(List.mem_cons.1 E8).resolve_left J5
    cases oK:fs.contains (i+2000)with
    |false=>
     exfalso
     obtain⟨r1,r2,rfl⟩:=List.append_of_mem yN
     have zn:ord=(pre++f::r1)++i::r2:=by rw[H.ord];simp
     obtain⟨oi,ti,BW,-⟩:=tE ord [] [] hB _ i r2 zn
     have e1:oi=o':=by rw[ho]at ti;exact(Option.some.inj ti).symm
     subst e1
     have zo:=BW.R0 oK f (by
      rw[List.append_nil,List.mem_reverse,List.mem_filter]
      exact⟨by simp,oJ⟩)
     have eA:=J1 hB gZ H.inv i oi ho pe f zo
     have qe:f∈ord:=by rw[H.ord];simp
     rcases H.sub f (bu f qe) (BR (by have:=bu f qe;omega) eA)with uG|uG
     ·
      have nY:=cz
      rw[H.ord]at nY
      exact(List.nodup_append.1 nY).2.2 f uG f (by simp) rfl
     ·
      exact zm uG
    |true=>
     obtain⟨of,ph,hl⟩:=H.vh
     rw[if_pos oJ]at hl
     obtain⟨oa,J8,So,Fa⟩:=hl.1 i yN oK
     have e1:oa=o':=by rw[ho]at J8;exact(Option.some.inj J8).symm
     subst e1
     have Sp: ∀t∈oa.looksAt l.toArray,a.tmps[t]? =af.tmps[t]? :=fun t ht=>by
      by_cases hw: ∃j,j<l.length∧dI l j=some t
      ·
       obtain⟨j,hj,hd⟩:=hw
       obtain⟨_,e,he,hb,fA⟩:=bR.reads j t hj hd ht
       have mC:=pe e he hb
       rw[fA]at mC
       have J9:=BR (by omega) mC
       rcases H.sub j hj J9 with hp|hp
       ·
        exact H.done j t hj J9 hp hd
       ·
        obtain⟨e2,zp,rfl⟩:=List.mem_map.1 hp
        have g3:=(H.oI e2 zp).2.2.1
        rw[bR.R5 oK e2.1 t hj hd ht]at g3;cases g3
      ·
       have h1: ∀j,j<l.length→dI l j≠some t:=fun j hj hd=>hw ⟨j,hj,hd⟩
       rw[H.rest t fun j hj _=>h1 j hj,H.full t fun j hj=>h1 j (bu j (by rw[H.ord];exact List.mem_append_left _ hj))]
     obtain⟨ee,_⟩:=zh bR.tg Sp
     obtain⟨mx,w',fX,Fb⟩:=Fa w0 w (E.map (·.2)++L) H.mem
     have jC:fs.contains i=true:=by
      cases jC:fs.contains i with
      |true=>rfl
      |false=>
       exfalso
       obtain⟨r1,r2,rfl⟩:=List.append_of_mem yN
       exact absurd oK (by rw[wT i sA jC];exact Bool.false_ne_true)
     unfold wpOp
     simp only[nS]
     rw[if_pos (by simp[Region.wanted,So])]
     refine .inl ?_
     unfold Oper.wp
     rw[ee,fX]
     refine BS hB cz bu gZ wT m pre (f::r) af L Lq ((i,(mk i).e mx)::E) _ _ _ ra ⟨H.ord,H.inv.set hi sA,Fb,fun e he=> ?_,List.nodup_cons.2 ⟨E9,H.keys⟩,H.wQ,H.vh,by rw[qY];exact H.size,H.pd,by rw[qZ];exact H.defers,H.q9,fun j hj hl=> ?_,fun j hj hf=> ?_,fun j hj hl=> ?_,Sh _,BU _,H.full⟩
     ·
      rcases List.mem_cons.1 he with rfl|he
      ·
       exact⟨E8,oz,jC,oK,oa,mx,ho,rfl,fun d hd=>by rw[hd];exact wP H.size⟩
      ·
       exact J4 _ e he
     ·
      by_cases ct:j=i
      ·
       subst ct;exact .inr (by simp)
      ·
       exact(H.sub j hj (by rw[←gP j ct];exact hl)).imp_right fun h=>List.mem_cons_of_mem _ h
     ·
      have ct:j≠i:=fun e=>qq (e▸hj)
      rw[gP j ct];exact H.fresh j hj hf
     ·
      have ct:j≠i:=fun e=>qq (e▸hj)
      exact H.tF j hj (by rw[←gP j ct];exact hl)
theorem Ka{id:Nat}{ro:Option Nat}[ki Q]{a:Act}{w:World}{L Lq:List ai}(A:List (List Nat))(ord:List Nat)(cz:ox l=true)(hm:P.follows .mixedOrders=true)(hB:BN l fs A ord=true)(hC:Mem w0 L {w with drawn:=w.drawn+1})(lP: ∀w,Mem w0 L w→Mem w0 Lq w)
  (wT: ∀k,k<l.length→fs.contains k=false→fs.contains (k+2000)=false)
  (h:qo P l fs mk Q w0 ord a L Lq):(Code.region id l.toArray true).wpIn (lr ro) 0 P Q a w:=by
 simp only[BN,Bool.and_eq_true,decide_eq_true_eq]at hB
 obtain⟨⟨⟨h1,h2⟩,h3⟩,h4⟩:=hB
 have gZ: ∀j,j<l.length→j∈ord:=fun j hj=>by have:=List.all_eq_true.1 h1 j (List.mem_range.2 hj);simpa using this
 have bu: ∀j∈ord,j<l.length:=fun j hj=>by have:=List.all_eq_true.1 h3 j hj;simpa using this
 refine Ec cz hm ?_
 have Ej:HeadInv .any l.toArray l.length (Array.replicate l.toArray.size false):=
  ⟨by simp,fun j oj _ hl=>(by rw[getD_replicate_false]at hl;cases hl),fun t h1 h2=>by simp at h2;omega⟩
 have ig: ∀j,j<l.length→(Array.replicate l.toArray.size false).getD j true=false:=fun j hj=>by simp[hj]
 have ra:left l.length (Array.replicate l.toArray.size false)=l.length:=by
  unfold left
  rw[List.filter_eq_self.2 (fun j hj=> ?_),List.length_range]
  rw[ig j (List.mem_range.1 hj)];rfl
 have:=BS (P:=P) (Q:=Q) (w0:=w0) (a0:=a) h4 h2 bu gZ wT l.length [] ord a L Lq [] (Array.replicate l.toArray.size false) a _ ra
  ⟨rfl,Ej,hC,fun e he=>(by cases he),List.nodup_nil,lP,h,rfl,rfl,rfl,rfl,fun j hj hl=>(by rw[ig j hj]at hl;cases hl),fun j hj=>(by cases hj),fun j hj=>(by cases hj),fun j d hj hl=>(by rw[ig j hj]at hl;cases hl),fun _ _=>rfl,fun _ _=>rfl⟩
 simpa using this
theorem Sr{id:Nat}{ro:Option Nat}[ki Q]{a:Act}{w:World}{L Lq:List ai}(A:List (List Nat))(ord:List Nat)(cz:ox l=true)(hm:P.follows .mixedOrders=true)(hB:BM l fs A ord=true)(hC:Mem w0 L {w with drawn:=w.drawn+1})(lP: ∀w,Mem w0 L w→Mem w0 Lq w)
  (h:qo P l fs mk Q w0 ord a L Lq):(Code.region id l.toArray true).wpIn (lr ro) 0 P Q a w:=by
 have h5: ∀k,fs.contains (k+2000)=false:=fun k=>by
  simp only[BM,Bool.and_eq_true]at hB
  cases hk:fs.contains (k+2000)with
  |false=>rfl
  |true=>
   have:=List.all_eq_true.1 hB.1.2 (k+2000) (by simpa using hk)
   have:=of_decide_eq_true this
   omega
 refine Ka A ord cz hm ?_ hC lP (fun k _ _=>h5 k) h
 simp only[BM,BN,Bool.and_eq_true]at hB⊢
 exact⟨hB.1.1,hB.2⟩
end
open Go.RowKit
section
variable {P:Program} {N:cG} {w0:World} {env:Env} {L R R1 R2:List ai} {Q:Exit→Act→World→Prop} {d:Option Tmp} {ty:TypeId} {ps:String} {af:Array Edge} {gd:Option (Nat×Bool)} {K:Value→List ai→Prop}
def iw(P:Program)(N:cG)(w0:World)(env:Env)(L:List ai)(o:Oper)(K:Value→List ai→Prop):Prop:=
 ∀a w,dj N env a→Mem w0 L w→upon P w (fun v w'=> ∃L',Mem w0 L' w'∧K v L') ((execOp a.eval o).run P w)
theorem tG{o:Oper}(h: ∀a w,dj N env a→Mem w0 L w→ ∃v w' L',(execOp a.eval o).run P w= .ok (.value v) w'∧Mem w0 L' w'∧K v L'):iw P N w0 env L o K:=fun a w ha hw=>by
 obtain⟨v,w',L',h1,h2,h3⟩:=h a w ha hw
 rw[h1];exact⟨L',h2,h3⟩
theorem Fe{o:Oper}(h: ∀a w,dj N env a→Mem w0 L w→ ∃w' L',(execOp a.eval o).run P w= .ok .skip w'∧Mem w0 L' w'∧K undef L'):iw P N w0 env L o K:=fun a w ha hw=>by
 obtain⟨w',L',h1,h2,h3⟩:=h a w ha hw
 rw[h1];exact⟨L',h2,h3⟩
theorem zq{w:World}{R R':Value→World→Prop}(h: ∀v w,R v w→R' v w){r:Result Next}(hr:upon P w R r):upon P w R' r:=by
 unfold upon at hr⊢
 split at hr
 ·
  exact h _ _ hr
 ·
  exact h _ _ hr
 ·
  exact⟨hr.1,hr.2.mono fun e oy ⟨v,he,hv⟩=>⟨v,he,h _ _ hv⟩⟩
 ·
  exact hr.elim
theorem Kc{o:Oper}{K':Value→List ai→Prop}(h:iw P N w0 env L o K')(hk: ∀v L',K' v L'→ ∃BY,(∀w,Mem w0 L' w→Mem w0 BY w)∧K v BY):iw P N w0 env L o K:=fun a w ha hw=>
 zq (fun v _ ⟨L',h1,h2⟩=>by obtain⟨BY,h3,h4⟩:=hk v L' h2;exact⟨BY,h3 _ h1,h4⟩) (h a w ha hw)
theorem nZ{X:Type}{val:X→Value}{L':X→List ai}{pr:X→Prop}{pre:Prop}{f:FuncId}{xs:List Operand}{ts:Array TypeId}{vs:List Value}[hf:aS P f](hx:ik env xs=some vs)
  [hc:cn P f w0 L vs X val L' pr pre] (hp:pre) (hk: ∀x,pr x→K (val x) (L' x)):
  iw P N w0 env L ⟨d, .call {callee:= .value (.func f),args:=xs.toArray,argTypes:=ts},ty,ps,af,gd⟩ K:=fun a w ha hw=>by
 rw[Bm hf w rfl,ha.ik hx]
 exact⟨rfl,(hc.h hp w hw).mono fun e w' ⟨x,he,iR,hm⟩=>⟨val x,he,L' x,hm,hk x iR⟩⟩
section
variable {α:Type} {enc:α→Array Value} {c:Nat} {s:Sv} {xs ys:List α}
theorem Ss{t:TypeId}{z:Value}[hz:fk P t z](hk: ∀b,K ((.pointer (some ⟨b,0,none⟩))) ((ar b z.cells t::L))):
  iw P N w0 env L ⟨d, .alloc t,ty,ps,af,none⟩ K:=
 tG fun a w ha hw=>⟨_,_,_,by simp only[execOp,Instr.alloc,newVar,newRow,Sem.run_bind,Bi w hz,newObj,Sem.run,Result.andThen,Sem.run_pure];rfl,hw.alloc z.cells t,hk _⟩
theorem St{t:TypeId}{cs:Array Value}[hz:fk P t (.agg cs)](hk: ∀b,K ((.pointer (some ⟨b,0,none⟩))) ((ar b cs t::L))):
  iw P N w0 env L ⟨d, .alloc t,ty,ps,af,none⟩ K:=Ss (z:= .agg cs) hk
theorem wU{t:TypeId}{x y:Operand}{i b o:Nat}{cs:Array Value}{T:TypeId}{v:Value}(hx:ev env x=some (.pointer (some ⟨b,o,none⟩)))(hy:ev env y=some v)[ht:ir P t][hh:Has L b cs T i](ho:o<cs.size)(hv:v.oneCell'=true){cs':Array Value}{L':List ai}(gQ:cs.setIfInBounds o v=cs')[hu:fD L i (ar b cs' T) L'](hk:K undef (L')):
  iw P N w0 env L ⟨none, .store t x y,ty,ps,af,none⟩ K:=
 Fe fun a w ha hw=>by
  have hi:=hh.h
  have hb:=hw.block hi
  have hc:w.cell? ⟨b,o,none⟩=some cs[o]:=by rw[hw.cell hi];simp[ho]
  have hf:w.frozen? ⟨b,o,none⟩=false:=frozen_of_row w b o cs T hb
  subst gQ
  refine⟨w.setCell ⟨b,o,none⟩ v,_,?_,?_,hk⟩
  ·
   have h1:(storeCells ⟨b,o,none⟩ [v]).run P w= .ok () (w.setCell ⟨b,o,none⟩ v):=by
    have:=run_storeCells_at (P:=P) b o T [v] 0 cs w hb (by simp;omega) (by simpa using hv)
    rw[this,setCell_eq_setRow w b o cs T (0,0) v hb]
    congr 2
    apply Array.ext'
    simp[List.set_eq_take_append_cons_drop,ho]
   have gQ:v.cells= #[v]:=by cases v<;>simp_all[Value.oneCell',Value.cells]
   simp only[execOp,ha.ev hx,ha.ev hy,Instr.storeAt,Instr.sureAddr,storeVar,Sem.run_bind,Sem.run_pure,Result.andThen,kT w ht.size,gQ]
   simp[h1]
  ·
   rw[setCell_eq_setRow w b o cs T (0,0) v hb]
   rw[←hu.h]
   exact hw.setRow hi _
theorem Ke{t:TypeId}{x y:Operand}{i b o n:Nat}{cs vs:Array Value}{T:TypeId}(hx:ev env x=some (.pointer (some ⟨b,o,none⟩)))(hy:ev env y=some (.agg vs))[ht:fY P t n][hh:Has L b cs T i][hs:gm vs n](ho:o+n≤cs.size){cs':Array Value}{L':List ai}(gQ:cW cs o vs=cs')[hu:fD L i (ar b cs' T) L'](hk:K undef (L')):
  iw P N w0 env L ⟨none, .store t x y,ty,ps,af,none⟩ K:=
 Fe fun a w ha hw=>by
  have hi:=hh.h
  have hn:=hs.h
  have hv:=hs.one
  have hb:=hw.block hi
  subst gQ
  refine⟨_,_,?_,by rw[←hu.h];exact hw.setRow hi _,hk⟩
  have h1:=run_storeCells_at (P:=P) b o T vs.toList 0 cs w hb (by simp;omega) (fun v kU=>(Array.all_eq_true_iff_forall_mem.1 hv) v (by simpa using kU))
  simp only[execOp,ha.ev hx,ha.ev hy,Instr.storeAt,Instr.sureAddr,storeVar,Value.cells,Sem.run_bind,Sem.run_pure,Result.andThen,kT w ht.size,hn]
  simp[h1,cW]
theorem pz{t:TypeId}{x y:Operand}{i b n:Nat}{cs vs:Array Value}{T:TypeId}(hx:ev env x=some (.pointer (some ⟨b,0,none⟩)))(hy:ev env y=some (.agg vs))[ht:fY P t n][hh:Has L b cs T i][hs:gm vs n][hc:gm cs n]{L':List ai}[hu:fD L i (ar b vs T) L'](hk:K undef (L')):
  iw P N w0 env L ⟨none, .store t x y,ty,ps,af,none⟩ K:=by
 have hn:=hs.h
 have Q2:=hc.h
 refine Ke hx hy (by omega) (?_:cW cs 0 vs=vs) hk
 apply Array.ext'
 simp[cW];omega
theorem Su{x y:Operand}{tx fZ e:TypeId}{i b o dl dc sl sc:Nat}{a:Addr}{cs vs:Array Value}{T:TypeId}(hx:ev env x=some (.slice (some ⟨b,o,none⟩) dl dc))(hy:ev env y=some (.slice (some a) sl sc))
  [ht:fj P tx e 1] [hh:Has L b cs T i] (hn:vs.size=Nat.min sl dl) (lQ: ∀w,Mem w0 L w→ ∀j,j<vs.size→w.cell? (a.add j)=vs[j]?) (hv:vs.all (·.oneCell')=true) (ho:o+vs.size≤cs.size)
  {cs':Array Value} {L':List ai} (gQ:cW cs o vs=cs') [hu:fD L i (ar b cs' T) L'] (hk:K ((.int .i64 vs.size)) (L')):
  iw P N w0 env L ⟨d, .call {callee:= .builtin .copy,args:= #[x,y],argTypes:= #[tx,fZ]},ty,ps,af,none⟩ K:=
 tG fun aa w ha hw=>by
  have hi:=hh.h
  have hb:=hw.block hi
  subst gQ
  have fX:=run_copy_row (P:=P) w tx fZ ty e b o dl dc a sl sc cs T vs.toList ht.eI ht.size hb (by simpa using hn)
   (fun j v kU=>by
    have hj:j<vs.size:=by simpa using(List.getElem?_eq_some_iff.1 kU).1
    rw[lQ w hw j hj];simpa using kU) (by simpa using ho) (fun v kU=>(Array.all_eq_true_iff_forall_mem.1 hv) v (by simpa using kU))
  refine⟨_,w.setRow b (cW cs o vs),_,?_,by rw[←hu.h];exact hw.setRow hi _,hk⟩
  simp[execOp,ha.ev hx,ha.ev hy,resolve,invoke,builtin,fX,Result.andThen,goInt,cW]
theorem Sw{t tx e:TypeId}{x y:Operand}{yv:Value}{cL i:Nat}[ht:fo P t e c cL][he:bD enc c](hx:ev env x=some s.val)(hy:ev env y=some yv)[q:fJ L s enc c xs i](hc:0<c)
  (hs: ∀w,Mem w0 L w→Src P c tx yv ys.length (aL enc ys) w) (hb:(xs.length+ys.length)*cL≤140737488355328) (jl:xs.length+ys.length≤140737488355328) {L':Sv→List ai} [hu: ∀s',fD L i (own enc c s' (xs++ys)) (L' s')]
  (hk: ∀s':Sv,s'.Ok→s'.len=(xs++ys).length→K (s'.val) ((L' s'))):
  iw P N w0 env L ⟨d, .call {callee:= .builtin .append,args:= #[x,y],argTypes:= #[t,tx]},ty,ps,af,none⟩ K:=
 tG fun a w ha hw=>by
  obtain⟨s',w',h1,h2,h3,h4⟩:=ED (ty:=ty) ht hc hw q.h (hs w hw) hb jl
  refine⟨s'.val,w',L' s',?_,by rw[←(hu s').h];exact h4,hk s' h2 h3⟩
  simp[execOp,ha.ev hx,ha.ev hy,resolve,invoke,builtin,h1,Result.andThen]
theorem Kf{t e:TypeId}{cL n:Nat}[ht:fo P t e c cL][he:bD enc c]{ops:List (Nat×Operand)}{vals:List Value}(xs:List α)(hx:kj env ops=some (idx vals 0))(hv:vals.map Value.cells=xs.map enc)(hn:xs.length=n)(hc:0<n*c)(sm:n*c≤16777216)
  (hk: ∀b,K ((Sv.val ⟨false,b,0,n,n,none⟩)) ((own enc c ⟨false,b,0,n,n,none⟩ xs::L))):
  iw P N w0 env L ⟨d, .buildSlice t n ops.toArray,ty,ps,af,none⟩ K:=
 tG fun a w ha hw=>by
  subst hn
  have e1:(ops.toArray.map fun(p:Nat×Operand)=>match p with|(i,x)=>(i,a.eval x))=(idx vals 0).toArray:=by
   rw[←ha.kj hx];simp
  refine⟨_,_,_,?_,hw.call (wI (enc:=enc) (c:=c) (xs:=xs) (cs:=(aL enc xs).toArray) (e:=e) rfl xs.length xs.length rfl (Nat.le_refl _) (EE hc sm) (by simp[hK]) fun i x hx j hj=>by rw[←na (enc:=enc) xs i x hx j hj];simp),hk _⟩
  simp only[execOp,e1,Sem.run_bind,EF ht hv hc sm w,Result.andThen,Sem.run_pure];rfl
theorem Kg{t e:TypeId}{cL n cap:Nat}{z:Value}{x y:Operand}{k k':IntKind}{ix iy:Int}[ht:fo P t e c cL][hz:fk P e z](x0:α)(h0:enc x0=z.cells)(hx:ev env x=some (.int k ix))(hy:ev env y=some (.int k' iy))(ex:ix=(n:Int))(ey:iy=(cap:Int))(hle:n≤cap)(hb:cL*cap≤281474976710656)(jl:cap≤140737488355328)
  (hk: ∀b,K ((Sv.val ⟨false,b,0,n,cap,none⟩)) ((own enc c ⟨false,b,0,n,cap,none⟩ (List.replicate n x0)::L))):
  iw P N w0 env L ⟨d, .makeSlice t x y,ty,ps,af,none⟩ K:=
 tG fun a w ha hw=>by
  subst ex ey
  obtain⟨w',h1,h2⟩:=EG ht hz (k:=k) (k':=k') (n:=n) x0 h0 hle hb jl w
  exact⟨_,w',_,by simp only[execOp,ha.ev hx,ha.ev hy,Sem.run_bind,h1,Result.andThen,Sem.run_pure],hw.call h2,hk _⟩
theorem vl{t:TypeId}{x y:Operand}{i k j n p:Nat}{a a':α}{v:Value}(sz:(P.info? t).map (·.size)=some n)[he:bD enc c](hx:ev env x=some (.pointer (some ⟨s.b,p,none⟩)))(hy:ev env y=some v)[q:fJ L s enc c xs i](hH:p=s.o+k*c+j)
  (ha:xs[k]? =some a) (hv:v.cells.all (·.oneCell')=true) (hn:v.cells.size=n) (hj:j+n≤c) (qi:cW (enc a) j v.cells=enc a') {L':List ai} [hu:fD L i (own enc c s (xs.set k a')) L'] (hk:K undef (L')):
  iw P N w0 env L ⟨none, .store t x y,ty,ps,af,none⟩ K:=
 Fe fun aa w y4 hw=>by
  subst hH hn
  obtain⟨w',h1,h2⟩:=Jt (P:=P) hw q ha hv hj qi hu
  refine⟨w',_,?_,h2,hk⟩
  simp only[execOp,y4.ev hx,y4.ev hy,Instr.storeAt,Instr.sureAddr,storeVar,Sem.run_bind,Sem.run_pure,Result.andThen,kT w sz]
  simp[h1]
theorem Sx{P:Program}{N:cG}{w0:World}{env:Env}{L:List ai}{ty:TypeId}{ps:String}{af:Array Edge}{τ:Type}{t:TypeId}{x y:Operand}{i k p:Nat}{s:Sv}{xs:List (Sl τ)}{a:Sl τ}(a':Sl τ)
  (sz:(P.info? t).map (·.size)=some 1) (hx:ev env x=some (.pointer (some ⟨s.b,p,none⟩))) (hy:ev env y=some a'.sv.val) [q:fJ L s (ca (τ:=τ)) 1 xs i] (hH:p=s.o+k*1) (ha:xs[k]? =some a) {L':List ai} [hu:fD L i (own ca 1 s (xs.set k a')) L'] (hk:K undef (L')):
  iw P N w0 env L ⟨none, .store t x y,ty,ps,af,none⟩ K:=
 vl (j:=0) (a':=a') sz hx hy (q:=q) hH ha (by rw[Sv.jm];simp[Sv.one]) (by rw[Sv.jm];rfl) (by decide) (by rw[Sv.jm];rfl) hk
theorem Sy{α:Type}{enc:α→Array Value}{x y:Operand}{tx fZ e:TypeId}{i b o dl dc:Nat}{sv:Sv}{ys:List α}{cs:Array Value}{T:TypeId}(hx:ev env x=some (.slice (some ⟨b,o,none⟩) dl dc))(hy:ev env y=some sv.val)
  [ht:fj P tx e 1] [hh:Has L b cs T i] [q:Hd w0 L sv enc 1 ys] [he:bD enc 1] (h0:0<ys.length) (hl:ys.length≤dl) (ho:o+ys.length≤cs.size)
  {cs':Array Value} {L':List ai} (gQ:cW cs o (aL enc ys).toArray=cs') [hu:fD L i (ar b cs' T) L'] (hk:K ((.int .i64 (ys.length:Nat))) (L')):
  iw P N w0 env L ⟨d, .call {callee:= .builtin .copy,args:= #[x,y],argTypes:= #[tx,fZ]},ty,ps,af,none⟩ K:=fun a w ha hw=>by
 have r:=q.h w hw
 have hn:=r.some (i:=0) h0
 have hlen:=r.len
 rw[Sv.iu hn,r.ok.sp (by have:=r.ok.le;omega)]at hy
 have hs:(aL enc ys).toArray.size=ys.length:=by rw[List.size_toArray,hK,Nat.mul_one]
 have jT:=hk
 rw[←hs]at jT
 refine Su (vs:=(aL enc ys).toArray) hx hy ?_ (fun w hw j hj=> ?_) ?_ (by rw[hs];exact ho) gQ jT a w ha hw
 ·
  rw[hs];simp only[Nat.min_def];split<;>omega
 ·
  rw[hs]at hj
  have:=na (enc:=enc) ys j ys[j] (by simp[hj]) 0 (by decide)
  have r2:=(q.h w hw).row j ys[j] (by simp[hj]) 0 (by decide)
  simp only[Nat.mul_one,Nat.add_zero]at this r2
  rw[Addr.gC,rf,r2,←this];simp
 ·
  rw[Array.all_eq_true_iff_forall_mem];intro v hv;exact tv (enc:=enc) ys v (by simpa using hv)
end
section
variable {τ:Type} [dp:Deep τ] {enc:τ→Array Value} {c:Nat}
end
theorem Kh{l:List Oper}{rest:List Oper}{o:Oper}(hg:o.guard=none)(hd:dr N o.dst=true)(h:iw P N w0 env L o (fun v L'=>Sq P N w0 l Q rest (cD env o.dst v) L')):Sq P N w0 l Q (o::rest) env L:=fun a w ha hw=>by
 unfold wpList
 rw[if_pos (qh hg)]
 refine .inl ?_
 have h1:=h a w ha hw
 unfold Oper.wp
 generalize(execOp a.eval o).run P w=r at h1
 unfold upon at h1
 split at h1
 ·
  obtain⟨L',h2,h3⟩:=h1;exact h3 _ _ (ha.put hd _) h2
 ·
  obtain⟨L',h2,h3⟩:=h1;exact h3 _ _ (ha.put hd _) h2
 ·
  obtain⟨rfl,hc⟩:=h1
  exact hc.mono fun e oy ⟨v,he,L',h2,h3⟩=>by subst he;exact h3 _ _ (ha.put hd _) h2
 ·
  exact h1.elim
end
section
variable {P:Program} {N:cG} {w0:World} {env:Env} {L Lq:List ai} {l:List Oper} {fs ord:List Nat} {mk:Nat→ng} {Q:Exit→Act→World→Prop} {k:Nat} {o:Oper}
def Ln(P:Program)(N:cG)(w0:World)(l:List Oper)(fs:List Nat)(mk:Nat→ng)(Q:Exit→Act→World→Prop)(ord:List Nat)(env:Env)(L Lq:List ai):Prop:= ∀a,dj N env a→qo P l fs mk Q w0 ord a L Lq
def Cert(P:Program)(N:cG)(env:Env)(l:List Oper)(fs:List Nat)(mk:Nat→ng)(ord:List Nat):Prop:=
 ∀i∈ord,fs.contains (i+2000)=true→ ∃oi,l[i]? =some oi∧oi.guard=none∧ ∀a,dj N env a→sr P oi a.eval (mk i)
theorem Cert.none(h:(ord.all fun i=> !fs.contains (i+2000))=true):Cert P N env l fs mk ord:=fun i hi hf=>by
 have:=List.all_eq_true.1 h i hi
 rw[hf]at this;cases this
theorem Cert.one{i:Nat}{m:ng}(ho:l[i]? =some o)(hg:o.guard=Option.none)(hm:mk i=m)(h: ∀a,dj N env a→sr P o a.eval m)(hr:Cert P N env l fs mk (ord.filter fun j=> !(j==i))):Cert P N env l fs mk ord:=fun j hj hf=>by
 by_cases e:j=i
 ·
  subst e
  exact⟨o,ho,hg,by rw[hm];exact h⟩
 ·
  exact hr j (List.mem_filter.2 ⟨hj,by simpa using e⟩) hf
theorem Cert.at(h:Cert P N env l fs mk ord){a:Act}(ha:dj N env a): ∀i∈ord,fs.contains (i+2000)=true→ ∃oi,l[i]? =some oi∧oi.guard=Option.none∧sr P oi a.eval (mk i):=fun i hi hf=>by
 obtain⟨oi,h1,h2,h3⟩:=h i hi hf
 exact⟨oi,h1,h2,h3 a ha⟩
theorem BZ(h:Ex N w0 Q .normal env L):Ln P N w0 l fs mk Q [] env L Lq:=fun a ha w hw=>h a w ha hw
theorem Ki{v:Value}(ho:l[k]? =some o)(hf:fs.contains k=false)(hd:dr N o.dst=true)(h1: ∀a,dj N env a→Region.wanted o (yielded l.toArray a.tmps)=true→sa P o a (Mem w0 Lq) v)(h2: ∀a,dj N env a→Region.wanted o (yielded l.toArray a.tmps)=false→v=undef)
  (hk:Ln P N w0 l fs mk Q ord (cD env o.dst v) L Lq) (kY:fs.contains (k+1000)=false:=by rfl):Ln P N w0 l fs mk Q (k::ord) env L Lq:=fun a ha=>
 ⟨o,ho,by
  rw[if_neg (by rw[hf];exact Bool.false_ne_true)]
  exact⟨v,by rw[if_neg (by rw[kY];exact Bool.false_ne_true)];exact h1 a ha,h2 a ha,hk _ (ha.put hd v)⟩⟩
theorem Sz{v:Value}(ho:l[k]? =some o)(h:Yl P N w0 env L o v)(hk:Ln P N w0 l fs mk Q ord (cD env o.dst v) L Lq)(hg:o.guard=none:=by rfl)(hd:dr N o.dst=true:=by rfl)(hf:fs.contains k=false:=by rfl)(kY:fs.contains (k+1000)=true:=by rfl):Ln P N w0 l fs mk Q (k::ord) env L Lq:=fun a ha=>
 ⟨o,ho,by
  rw[if_neg (by rw[hf];exact Bool.false_ne_true)]
  exact⟨v,fun _=>by rw[if_pos kY];exact h a ha,(fun hw=>by rw[qh hg]at hw;cases hw),hk _ (ha.put hd v)⟩⟩
theorem kE{v:Value}(ho:l[k]? =some o)(h:Ry P N w0 env L o v)(hk:Ln P N w0 l fs mk Q ord (cD env o.dst v) L Lq)(hg:o.guard=none:=by rfl)(hd:dr N o.dst=true:=by rfl)(hf:fs.contains k=false:=by rfl)(kY:fs.contains (k+1000)=true:=by rfl):Ln P N w0 l fs mk Q (k::ord) env L Lq:=Sz ho h.yl hk hg hd hf kY
theorem vm{v:Value}(ho:l[k]? =some o)(h:Yl P N w0 env Lq o v)(hk:Ln P N w0 l fs mk Q ord (cD env o.dst v) L Lq)(hg:o.guard=none:=by rfl)(hd:dr N o.dst=true:=by rfl)(hf:fs.contains k=false:=by rfl)(kY:fs.contains (k+1000)=false:=by rfl):Ln P N w0 l fs mk Q (k::ord) env L Lq:=
 Ki (kY:=kY) ho hf hd (fun a ha _=>h a ha) (fun a ha hw=>by rw[qh hg]at hw;cases hw) hk
theorem an{v:Value}(ho:l[k]? =some o)(h:Ry P N w0 env Lq o v)(hk:Ln P N w0 l fs mk Q ord (cD env o.dst v) L Lq)(hg:o.guard=none:=by rfl)(hd:dr N o.dst=true:=by rfl)(hf:fs.contains k=false:=by rfl)(kY:fs.contains (k+1000)=false:=by rfl):Ln P N w0 l fs mk Q (k::ord) env L Lq:=vm ho h.yl hk hg hd hf kY
theorem Kj{v:Value}{j t:Nat}{g:Bool}(ho:l[k]? =some o)(hg:o.guard=some (j,false))(hj:(l[j]?).bind (·.dst)=some t)(hv:look env t=some (.bool g))(h:(!g)=true→Yl P N w0 env Lq o v)
  (hk:Ln P N w0 l fs mk Q ord (cD env o.dst (if(!g)=true then v else undef)) L Lq) (hd:dr N o.dst=true:=by rfl) (hf:fs.contains k=false:=by rfl) (kY:fs.contains (k+1000)=false:=by rfl):Ln P N w0 l fs mk Q (k::ord) env L Lq:=
 Ki (kY:=kY) ho hf hd (fun a ha hw=>by
  rw[uU ha hg hj hv]at hw
  cases g
  ·
   exact h rfl a ha
  ·
   cases hw) (fun a ha hw=>by
  rw[uU ha hg hj hv]at hw
  cases g
  ·
   cases hw
  ·
   rfl) hk
theorem SA(ho:l[k]? =some o)(h:iw P N w0 env L o fun v L'=> ∃gh,(∀w,Mem w0 L' w→Mem w0 gh w)∧(∀w,Mem w0 gh w→Mem w0 Lq w)∧Ln P N w0 l fs mk Q ord (cD env o.dst v) L' gh)(hg:o.guard=none:=by rfl)(hd:dr N o.dst=true:=by rfl)(hf:fs.contains k=true:=by rfl)(rr:fs.contains (k+2000)=false:=by rfl)(wV:fs.contains (k+4000)=false:=by rfl)(sC:fs.contains (k+5000)=false:=by rfl)(hC:Cert P N env l fs mk ord:=by exact Cert.none rfl):Ln P N w0 l fs mk Q (k::ord) env L Lq:=fun a ha=>
 ⟨o,ho,by
  rw[if_pos hf,if_neg (by rw[rr];exact Bool.false_ne_true)]
  exact⟨hC.at ha,qh hg,fun w hw=>zq (fun v w' ⟨L',h1,gh,h2,h3,h4⟩=>⟨L',gh,h1,h2,h3,(fun h=>by rw[sC]at h;cases h),h4 _ (ha.put hd v)⟩) (h a w ha hw),fun h=>by rw[wV]at h;cases h⟩⟩
theorem Kk(ho:l[k]? =some o)(h:iw P N w0 env L o fun v L'=>(∀w,Mem w0 L' w→Mem w0 Lq w)∧(∀w,Mem w0 L' w→Mem w0 L w)∧Ln P N w0 l fs mk Q ord (cD env o.dst v) L' Lq)(hg:o.guard=none:=by rfl)(hd:dr N o.dst=true:=by rfl)(hf:fs.contains k=true:=by rfl)(rr:fs.contains (k+2000)=false:=by rfl)(wV:fs.contains (k+4000)=false:=by rfl)(hC:Cert P N env l fs mk ord:=by exact Cert.none rfl):Ln P N w0 l fs mk Q (k::ord) env L Lq:=fun a ha=>
 ⟨o,ho,by
  rw[if_pos hf,if_neg (by rw[rr];exact Bool.false_ne_true)]
  exact⟨hC.at ha,qh hg,fun w hw=>zq (fun v w' ⟨L',h1,h2,h3,h4⟩=>⟨L',Lq,h1,h2,fun _ h=>h,(fun _=>h3),h4 _ (ha.put hd v)⟩) (h a w ha hw),fun h=>by rw[wV]at h;cases h⟩⟩
theorem SB(K:Value→List ai→Prop)(ho:l[k]? =some o)(h:iw P N w0 env L o K)(hF: ∀e,iw P N w0 env (e::L) o fun v L'=> ∃L1,(∀w,Mem w0 L' w→Mem w0 (e::L1) w)∧K v L1)(hk: ∀v L',K v L'→(∀w,Mem w0 L' w→Mem w0 Lq w)∧Ln P N w0 l fs mk Q ord (cD env o.dst v) L' Lq)(hC:Cert P N env l fs mk ord)(hg:o.guard=none:=by rfl)(hd:dr N o.dst=true:=by rfl)(hf:fs.contains k=true:=by rfl)(rr:fs.contains (k+2000)=false:=by rfl)(sC:fs.contains (k+5000)=false:=by rfl):Ln P N w0 l fs mk Q (k::ord) env L Lq:=fun a ha=>
 ⟨o,ho,by
  rw[if_pos hf,if_neg (by rw[rr];exact Bool.false_ne_true)]
  exact⟨hC.at ha,qh hg,fun w hw=>zq (fun v w' ⟨L',h1,h2⟩=>⟨L',Lq,h1,(hk v L' h2).1,fun _ h=>h,(fun h=>by rw[sC]at h;cases h),(hk v L' h2).2 _ (ha.put hd v)⟩) (h a w ha hw),fun _ e w hw=>zq (fun v w' ⟨L',h1,L1,h2,h3⟩=>⟨L1,Lq,h2 _ h1,(hk v L1 h3).1,fun _ h=>h,(fun h=>by rw[sC]at h;cases h),(hk v L1 h3).2 _ (ha.put hd v)⟩) (hF e a w ha hw)⟩⟩
theorem tH{X:Type}{val:X→Value}{L':X→List ai}{L2:ai→X→List ai}{pr:X→Prop}{pre:Prop}{f:FuncId}{xs:List Operand}{ts:Array TypeId}{vs:List Value}{d:Option Tmp}{ty:TypeId}{ps:String}{af:Array Edge}[hf:aS P f](ho:l[k]? =some ⟨d, .call {callee:= .value (.func f),args:=xs.toArray,argTypes:=ts},ty,ps,af,none⟩)(hx:ik env xs=some vs)
  [hc:cn P f w0 L vs X val L' pr pre] [Ff: ∀e,cn P f w0 (e::L) vs X val (L2 e) pr pre] (hp:pre) (hP: ∀e x w,Mem w0 (L2 e x) w→Mem w0 (e::L' x) w) (hC:Cert P N env l fs mk ord) (hk: ∀x,pr x→(∀w,Mem w0 (L' x) w→Mem w0 Lq w)∧Ln P N w0 l fs mk Q ord (cD env d (val x)) (L' x) Lq)
  (hd:dr N d=true:=by rfl) (wW:fs.contains k=true:=by rfl) (rr:fs.contains (k+2000)=false:=by rfl) (sC:fs.contains (k+5000)=false:=by rfl):Ln P N w0 l fs mk Q (k::ord) env L Lq:=
 SB (fun v L1=> ∃x,v=val x∧L1=L' x∧pr x) ho (nZ hx hp fun x iR=>⟨x,rfl,rfl,iR⟩) (fun e=>Kc (nZ (K:=fun v L1=> ∃x,v=val x∧L1=L2 e x∧pr x) hx hp fun x iR=>⟨x,rfl,rfl,iR⟩) fun v L1 ⟨x,h1,h2,h3⟩=>⟨L1,fun _ h=>h,L' x,fun w hw=>hP e x w (by rw[←h2];exact hw),x,h1,rfl,h3⟩)
  (fun v L1 ⟨x,h1,h2,h3⟩=>by subst h1;subst h2;exact hk x h3) hC rfl hd wW rr sC
theorem pA{m:ng}(ho:l[k]? =some o)(hm:mk k=m)(h: ∀a,dj N env a→sr P o a.eval m)(hC:Cert P N env l fs mk ord)(hk: ∀x:m.X,Ln P N w0 l fs mk Q ord (cD env o.dst (m.v x)) (m.e x::L) Lq)(hg:o.guard=none:=by rfl)(hd:dr N o.dst=true:=by rfl)(hf:fs.contains k=true:=by rfl)(kY:fs.contains (k+2000)=true:=by rfl):Ln P N w0 l fs mk Q (k::ord) env L Lq:=fun a ha=>by
 subst hm
 refine⟨o,ho,?_⟩
 rw[if_pos hf,if_pos kY]
 exact⟨hC.at ha,hg,h a ha,fun x=>hk x _ (ha.put hd _)⟩
theorem dN(ho:l[k]? =some o)(h:iw P N w0 env L o fun v L'=>(∀w,Mem w0 L' w→Mem w0 Lq w)∧Ln P N w0 l fs mk Q ord (cD env o.dst v) L' Lq)(hg:o.guard=none:=by rfl)(hd:dr N o.dst=true:=by rfl)(hf:fs.contains k=true:=by rfl)(rr:fs.contains (k+2000)=false:=by rfl)(wV:fs.contains (k+4000)=false:=by rfl)(sC:fs.contains (k+5000)=false:=by rfl)(hC:Cert P N env l fs mk ord:=by exact Cert.none rfl):Ln P N w0 l fs mk Q (k::ord) env L Lq:=
 SA (rr:=rr) (wV:=wV) (sC:=sC) (hC:=hC) ho (Kc h fun v L' ⟨h1,h2⟩=>⟨L',fun _ h=>h,Lq,h1,fun _ h=>h,h2⟩) hg hd hf
def Fg:List (Nat×ng)→Nat→ng
 |[],_=>⟨Unit,fun _=>undef,fun _=> .emp⟩
 |(i,m)::r,k=>match Nat.beq i k with
  |true=>m
  |false=>Fg r k
@[reducible] def lW (P:Program)(t:TypeId){z:Value}[_hz:fk P t z]:ng:=⟨Nat,fun b=> .pointer (some ⟨b,0,none⟩),fun b=>ar b z.cells t⟩
theorem kZ{t:TypeId}{z:Value}[hz:fk P t z]{d:Option Tmp}{ty:TypeId}{ps:String}{af:Array Edge}{gd:Option (Nat×Bool)}: ∀a,dj N env a→sr P ⟨d, .alloc t,ty,ps,af,gd⟩ a.eval (lW P t):=fun a _ w0 w L hw=>by
 refine⟨w.heap.size,w.alloc (.cells z.cells t),?_,hw.alloc z.cells t⟩
 simp only[execOp,Instr.alloc,newVar,newRow,Sem.run_bind,Bi w hz,newObj,Sem.run,Result.andThen,Sem.run_pure];rfl
@[reducible] def ru {α:Type}(enc:α→Array Value)(c n:Nat)(xs:List α):ng:=⟨Nat,fun b=>Sv.val ⟨false,b,0,n,n,none⟩,fun b=>own enc c ⟨false,b,0,n,n,none⟩ xs⟩
theorem Fh{α:Type}{enc:α→Array Value}{c:Nat}{t e:TypeId}{cL n:Nat}{d:Option Tmp}{ty:TypeId}{ps:String}{af:Array Edge}{gd:Option (Nat×Bool)}[ht:fo P t e c cL][he:bD enc c]{ops:List (Nat×Operand)}{vals:List Value}(xs:List α)(hx:kj env ops=some (idx vals 0))(hv:vals.map Value.cells=xs.map enc)(hn:xs.length=n)(hc:0<n*c)(sm:n*c≤16777216):
  ∀a,dj N env a→sr P ⟨d, .buildSlice t n ops.toArray,ty,ps,af,gd⟩ a.eval (ru enc c n xs):=fun a ha w0 w L hw=>by
 subst hn
 have e1:(ops.toArray.map fun(p:Nat×Operand)=>match p with|(i,x)=>(i,a.eval x))=(idx vals 0).toArray:=by
  rw[←ha.kj hx];simp
 refine⟨w.heap.size,_,?_,hw.call (wI (enc:=enc) (c:=c) (xs:=xs) (cs:=(aL enc xs).toArray) (e:=e) rfl xs.length xs.length rfl (Nat.le_refl _) (EE hc sm) (by simp[hK]) fun i x hx j hj=>by rw[←na (enc:=enc) xs i x hx j hj];simp)⟩
 simp only[execOp,e1,Sem.run_bind,EF ht hv hc sm w,Result.andThen,Sem.run_pure];rfl
theorem rv{id:Nat}[ki Q](fs:List Nat)(A:List (List Nat))(ord:List Nat)(Lq:List ai)(mk:List (Nat×ng))(SC:(fs.all fun j=>decide (j<2000)||decide (4000≤j)||fs.contains (j -2000))=true)(lP: ∀w,Mem w0 L w→Mem w0 Lq w)(hm:P.follows .mixedOrders=true)(hB:BN l fs A ord=true)(h:Ln P N w0 l fs (Fg mk) Q ord env L Lq)(bu:l.length≤1000:=by decide)(cz:ox l=true:=by kernel_rfl):Cw P N w0 Q (.region id l.toArray true) env L:=fun a _ ha hw=>by
 refine Ka A ord cz hm hB hw.A4 lP (fun k zj hk=> ?_) (h a ha)
 cases h2:fs.contains (k+2000)with
 |false=>rfl
 |true=>
  have:=List.all_eq_true.1 SC (k+2000) (by simpa using h2)
  rw[Bool.or_eq_true,Bool.or_eq_true,decide_eq_true_eq,decide_eq_true_eq]at this
  rcases this with(h|h)|h
  ·
   omega
  ·
   omega
  ·
   rw[Nat.add_sub_cancel,hk]at h;cases h
theorem jE{id:Nat}[ki Q](fs:List Nat)(A:List (List Nat))(ord:List Nat)(Lq:List ai)(lP: ∀w,Mem w0 L w→Mem w0 Lq w)(hm:P.follows .mixedOrders=true)(hB:BM l fs A ord=true)(h:Ln P N w0 l fs (Fg []) Q ord env L Lq)(cz:ox l=true:=by kernel_rfl):Cw P N w0 Q (.region id l.toArray true) env L:=fun a _ ha hw=>
 Sr A ord cz hm hB hw.A4 lP (h a ha)
end
open Go.RowKit
theorem Ry.n{P:Program}{N:cG}{w0:World}{env:Env}{L:List ai}{d:Option Tmp}{ty:TypeId}{ps:String}{af:Array Edge}{gd:Option (Nat×Bool)}{s:TypeId}{x:Operand}{fi off b o o':Nat}[hf:dU P s fi off](hx:ev env x=some (.pointer (some ⟨b,o,none⟩)))(ho:Nat.add o off=o':=by(simp only[Nat.add_eq,Nat.reduceAdd];exact rfl)):
  Ry P N w0 env L ⟨d, .fieldAddr s x fi,ty,ps,af,gd⟩ (.pointer (some ⟨b,o',none⟩)):=aI hx ho
theorem tS{P:Program}{N:cG}{w0:World}{l:List Oper}{Q:Exit→Act→World→Prop}{rest:List Oper}{env:Env}{L:List ai}{d:Option Tmp}{ty:TypeId}{ps:String}{af:Array Edge}(op:Op)(gd:Option (Nat×Bool))(h:Sq P N w0 l Q (⟨d,op,ty,ps,af,gd⟩::rest) env L):Sq P N w0 l Q (⟨d,op,ty,ps,af,gd⟩::rest) env L:=h
theorem tQ{P:Program}{N:cG}{w0:World}{l:List Oper}{fs:List Nat}{F:Act→Prop}{k:Nat}{rest:List Oper}{env:Env}{L:List ai}{d:Option Tmp}{ty:TypeId}{ps:String}{af:Array Edge}(op:Op)(gd:Option (Nat×Bool))(h:Qt P N w0 l fs F k (⟨d,op,ty,ps,af,gd⟩::rest) env L):Qt P N w0 l fs F k (⟨d,op,ty,ps,af,gd⟩::rest) env L:=h
theorem Gs{G G':Prop}(k:G')(h:G'→G:=by
 intro k
 first
 |(with_reducible refine tS (.move _) none ?_);exact ag (aE rfl) k
 |(with_reducible refine tS (.assign _) none ?_);exact ag (bp rfl) k
 |(with_reducible refine tS (.fieldAddr _ _ _) none ?_);exact ag (Ry.n rfl) k
 |(with_reducible refine tS (.load _ _) none ?_);exact ag (bJ rfl) k
 |(with_reducible refine tS (.load _ _) none ?_);exact ag (eJ rfl) k
 |(with_reducible refine tS (.binOp .add _ _ _ _) none ?_);exact ag (qf rfl rfl (by omega)) k
 |(with_reducible refine tS (.binOp .sub _ _ _ _) none ?_);exact ag (yQ rfl rfl (by omega)) k
 |(with_reducible refine tS (.pick _ _ _) none ?_);exact ag (mY rfl rfl rfl) k
 |(with_reducible refine tS (.pick _ _ _) none ?_);exact ag (yO rfl rfl rfl) k
 |(with_reducible refine tS (.unOp _ _ _) none ?_);exact ag (iq rfl) k
 |(with_reducible refine tS (.binOp _ _ _ _ _) none ?_);exact ag (ck rfl rfl rfl) k
 |(with_reducible refine tS (.nilCheck _) none ?_);exact ag (jU rfl) k
 |(with_reducible refine tS (.call _) none ?_);exact ag (kC rfl) k
 |(with_reducible refine tS (.store _ _ _) none ?_);exact rb rfl rfl k
 |(with_reducible refine tS (.call _) none ?_);exact fH (cE rfl trivial) k):G:=h k
theorem Gq{G G':Prop}(k:G')(h:G'→G:=by
 intro k
 first
 |(with_reducible refine tQ (.move _) none ?_);exact bf (aE rfl) k
 |(with_reducible refine tQ (.assign _) none ?_);exact bf (bp rfl) k
 |(with_reducible refine tQ (.fieldAddr _ _ _) none ?_);exact bf (Ry.n rfl) k
 |(with_reducible refine tQ (.load _ _) none ?_);exact bf (bJ rfl) k
 |(with_reducible refine tQ (.load _ _) none ?_);exact bf (eJ rfl) k
 |(with_reducible refine tQ (.binOp .add _ _ _ _) none ?_);exact bf (qf rfl rfl (by omega)) k
 |(with_reducible refine tQ (.binOp .sub _ _ _ _) none ?_);exact bf (yQ rfl rfl (by omega)) k
 |(with_reducible refine tQ (.pick _ _ _) none ?_);exact bf (mY rfl rfl rfl) k
 |(with_reducible refine tQ (.pick _ _ _) none ?_);exact bf (yO rfl rfl rfl) k
 |(with_reducible refine tQ (.unOp _ _ _) none ?_);exact bf (iq rfl) k
 |(with_reducible refine tQ (.binOp _ _ _ _ _) none ?_);exact bf (ck rfl rfl rfl) k
 |(with_reducible refine tQ (.nilCheck _) none ?_);exact bf (jU rfl) k
 |(with_reducible refine tQ (.call _) none ?_);exact bf (kC rfl) k):G:=h k
theorem Gg{G G':Prop}(k:G')(h:G'→G:=by
 intro k
 first
 |(with_reducible refine tS (.move _) (some (_,false)) ?_);exact bM rfl rfl rfl (fun hg=>Ry.yl (aE rfl)) k
 |(with_reducible refine tS (.fieldAddr _ _ _) (some (_,false)) ?_);exact bM rfl rfl rfl (fun hg=>Ry.yl (Ry.n rfl)) k
 |(with_reducible refine tS (.load _ _) (some (_,false)) ?_);exact bM rfl rfl rfl (fun hg=>Ry.yl (bJ (aG hg rfl))) k
 |(with_reducible refine tS (.binOp _ _ _ _ _) (some (_,false)) ?_);exact bM rfl rfl rfl (fun hg=>Ry.yl (ck (aG hg rfl) rfl rfl)) k
 |(with_reducible refine tS (.binOp _ _ _ _ _) (some (_,false)) ?_);exact bM rfl rfl rfl (fun hg=>Ry.yl (ck (aG hg rfl) (aG hg rfl) rfl)) k
 |(with_reducible refine tS (.call _) (some (_,false)) ?_);exact bM rfl rfl rfl (fun hg=>Ry.yl (kC (aG hg rfl))) k
 |(with_reducible refine tS (.move _) (some (_,true)) ?_);exact g9 rfl rfl rfl (fun hg=>Ry.yl (aE rfl)) k
 |(with_reducible refine tS (.fieldAddr _ _ _) (some (_,true)) ?_);exact g9 rfl rfl rfl (fun hg=>Ry.yl (Ry.n rfl)) k
 |(with_reducible refine tS (.load _ _) (some (_,true)) ?_);exact g9 rfl rfl rfl (fun hg=>Ry.yl (bJ (aG hg rfl))) k
 |(with_reducible refine tS (.binOp _ _ _ _ _) (some (_,true)) ?_);exact g9 rfl rfl rfl (fun hg=>Ry.yl (ck (aG hg rfl) rfl rfl)) k
 |(with_reducible refine tS (.binOp _ _ _ _ _) (some (_,true)) ?_);exact g9 rfl rfl rfl (fun hg=>Ry.yl (ck (aG hg rfl) (aG hg rfl) rfl)) k
 |(with_reducible refine tS (.call _) (some (_,true)) ?_);exact g9 rfl rfl rfl (fun hg=>Ry.yl (kC (aG hg rfl))) k):G:=h k
theorem Gh{G G':Prop}(k:G')(h:G'→G:=by
 intro k
 first
 |(with_reducible refine tQ (.move _) (some (_,false)) ?_);exact ja rfl rfl rfl (fun hg=>Ry.yl (aE rfl)) k
 |(with_reducible refine tQ (.fieldAddr _ _ _) (some (_,false)) ?_);exact ja rfl rfl rfl (fun hg=>Ry.yl (Ry.n rfl)) k
 |(with_reducible refine tQ (.load _ _) (some (_,false)) ?_);exact ja rfl rfl rfl (fun hg=>Ry.yl (bJ (aG hg rfl))) k
 |(with_reducible refine tQ (.binOp _ _ _ _ _) (some (_,false)) ?_);exact ja rfl rfl rfl (fun hg=>Ry.yl (ck (aG hg rfl) rfl rfl)) k
 |(with_reducible refine tQ (.binOp _ _ _ _ _) (some (_,false)) ?_);exact ja rfl rfl rfl (fun hg=>Ry.yl (ck (aG hg rfl) (aG hg rfl) rfl)) k
 |(with_reducible refine tQ (.call _) (some (_,false)) ?_);exact ja rfl rfl rfl (fun hg=>Ry.yl (kC (aG hg rfl))) k
 |(with_reducible refine tQ (.move _) (some (_,true)) ?_);exact fI rfl rfl rfl (fun hg=>Ry.yl (aE rfl)) k
 |(with_reducible refine tQ (.fieldAddr _ _ _) (some (_,true)) ?_);exact fI rfl rfl rfl (fun hg=>Ry.yl (Ry.n rfl)) k
 |(with_reducible refine tQ (.load _ _) (some (_,true)) ?_);exact fI rfl rfl rfl (fun hg=>Ry.yl (bJ (aG hg rfl))) k
 |(with_reducible refine tQ (.binOp _ _ _ _ _) (some (_,true)) ?_);exact fI rfl rfl rfl (fun hg=>Ry.yl (ck (aG hg rfl) rfl rfl)) k
 |(with_reducible refine tQ (.binOp _ _ _ _ _) (some (_,true)) ?_);exact fI rfl rfl rfl (fun hg=>Ry.yl (ck (aG hg rfl) (aG hg rfl) rfl)) k
 |(with_reducible refine tQ (.call _) (some (_,true)) ?_);exact fI rfl rfl rfl (fun hg=>Ry.yl (kC (aG hg rfl))) k):G:=h k
theorem tR{P:Program}{N:cG}{w0:World}{Q:Exit→Act→World→Prop}{env:Env}{L:List ai}{id:Nat}{l:Array Oper}(h:Cw P N w0 Q (.region id l false) env L):Cw P N w0 Q (.region id l false) env L:=h
theorem Gc{G G':Prop}(k:G')(h:G'→G:=by
 intro k
 repeat (first
  |(with_reducible refine aP ?_)
  |(with_reducible refine aO ?_)
  |(with_reducible refine aY ?_)
  |(with_reducible refine gf ?_)
  |(with_reducible refine eK ?_)
  |(with_reducible refine fm ?_)
  |(with_reducible refine mr ?_)
  |(with_reducible refine lR ?_)
  |(with_reducible refine m0 ?_)
  |(with_reducible refine sk ?_)
  |(with_reducible refine pq ?_)
  |(with_reducible refine sj ?_)
  |(with_reducible refine BZ ?_)
  |(with_reducible refine wA ?_)
  |(with_reducible refine tR ?_);refine aZ ?_)
 exact k):G:=h k
theorem Gi{G G':Prop}(k:G')(h:G'→G:=by
 intro k
 first
  |(with_reducible refine aP ?_)
  |(with_reducible refine aO ?_)
  |(with_reducible refine aY ?_)
  |(with_reducible refine gf ?_)
  |(with_reducible refine eK ?_)
  |(with_reducible refine fm ?_)
  |(with_reducible refine mr ?_)
  |(with_reducible refine lR ?_)
  |(with_reducible refine m0 ?_)
  |(with_reducible refine sk ?_)
  |(with_reducible refine pq ?_)
  |(with_reducible refine sj ?_)
  |(with_reducible refine BZ ?_)
  |(with_reducible refine wA ?_)
  |(with_reducible refine tR ?_);refine aZ ?_
 exact k):G:=h k
theorem bz{p q:Prop}(h:p)(e:p=q:=by(try simp only[Z0,Z1,Z2,Z3,Z4,Z5,Z6,Z7,Z8,Z9]);exact rfl):q:=e▸h
open Go.RowKit
theorem wX{A X V:List Value}{o:Nat}(h:o=A.length):cW (A++X).toArray o V.toArray=(A++(V++X.drop V.length)).toArray:=by
 subst h
 unfold cW
 simp only[List.size_toArray,List.append_assoc]
 rw[List.take_left,List.drop_append]
 simp
section
variable {α:Type} {enc:α→Array Value} {c:Nat} {s:Sv} {xs:List α}
theorem vn(xs ys:List α):aL enc (xs++ys)=aL enc xs++aL enc ys:=by simp[aL]
theorem SD[he:bD enc c](hc:0<c){cs:Array Value}{o:Nat}(fh:o+xs.length*c≤cs.size)(hr: ∀i x,xs[i]? =some x→ ∀j,j<c→cs[o+i*c+j]? =(enc x)[j]?):
  cs=(cs.toList.take o++(aL enc xs++cs.toList.drop (o+xs.length*c))).toArray:=by
 have key:(cs.toList.drop o).take (xs.length*c)=aL enc xs:=by
  refine List.ext_getElem? fun k=> ?_
  rcases Nat.lt_or_ge k (xs.length*c)with hk|hk
  ·
   rw[List.getElem?_take_of_lt hk,List.getElem?_drop,Array.getElem?_toList]
   have hd:k/c<xs.length:=Nat.div_lt_of_lt_mul (by rwa [Nat.mul_comm])
   have hm:=Nat.mod_lt k hc
   have e:k/c*c+k%c=k:=by rw[Nat.mul_comm];exact Nat.div_add_mod k c
   have h1:=hr (k/c) xs[k/c] (by simp[hd]) (k%c) hm
   have h2:=na (enc:=enc) xs (k/c) xs[k/c] (by simp[hd]) (k%c) hm
   rw[e]at h2
   rw[h2,←h1];congr 1;omega
  ·
   rw[List.getElem?_eq_none (by simp;omega),List.getElem?_eq_none (by rw[hK];omega)]
 apply Array.ext'
 simp only
 rw[←key,←List.append_assoc,show o+xs.length*c=o+xs.length*c from rfl,←List.drop_drop,List.append_assoc,List.take_append_drop,List.take_append_drop]
theorem Fi{a b:Nat}(h:a≤b):a=Nat.min a b:=(Nat.min_eq_left h).symm
theorem SE{a b:Nat}(h:b≤a):b=Nat.min a b:=(Nat.min_eq_right h).symm
theorem SF[he:bD enc c](hc:1<c){w0 w:World}{L:List ai}{i:Nat}(hw:Mem w0 L w)(hi:L[i]? =some (own enc c s xs))(hn:s.nil=false):
  ∃pre mid T,pre.length=s.o∧s.o+s.cap*c≤pre.length+(xs.length*c+mid.length)∧s.sp=none∧s.Ok∧s.len=xs.length∧Mem w0 (L.set i (ar s.b (pre++(aL enc xs++mid)).toArray T)) w:=by
 obtain⟨r,nc⟩:=hw.get hi
 obtain⟨gE,cs,T,fz,eW,fh,lT,mw⟩:=nc hn
 obtain rfl:=mw hc
 have hle:=r.ok.le
 have hlen:=r.len
 have hm:xs.length*c≤s.cap*c:=Nat.mul_le_mul_right _ (by omega)
 have e:=SD (enc:=enc) (c:=c) (xs:=xs) (cs:=cs) (o:=s.o) (by omega) (by omega) fun i x hx j hj=>by
  rw[←r.row i x hx j hj];unfold m7;rw[eW]
 refine⟨cs.toList.take s.o,cs.toList.drop (s.o+xs.length*c),T,by simp;omega,by simp;omega,gE,r.ok,hlen,?_⟩
 rw[←e]
 exact hw.change hi (fun k (hk:k=s.b)=>⟨hn,hk⟩) (fun _ _=>rfl) rfl ⟨rfl,rfl,rfl⟩ eW
theorem Fj[he:bD enc c]{w0 w:World}{L:List ai}{i b:Nat}{pre mid:List Value}{T:TypeId}(hw:Mem w0 L w)(hi:L[i]? =some (ar b (pre++(aL enc xs++mid)).toArray T))(s':Sv)(bR:s'.Ok)(hn:s'.nil=false)(hb:s'.b=b)(gE:s'.sp=none)(ho:s'.o=pre.length)(hl:s'.len=xs.length)
  (uY:s'.o+s'.cap*c≤pre.length+(xs.length*c+mid.length)):Mem w0 (L.set i (own enc c s' xs)) w:=by
 subst hb
 have eW:hp w s'.b=some (.cells (pre++(aL enc xs++mid)).toArray T (0,0)):=hw.block hi
 refine hw.change hi (fun k hk=>hk.2) (fun _ _=>rfl) rfl ⟨rfl,rfl,rfl⟩ ⟨tw bR hl eW fun k y hy j hj=> ?_,fun _=>⟨gE,_,_,_,eW,by simp[hK];omega,Ez _,fun _=>rfl⟩⟩
 have bu:k*c+j<(aL enc xs).length:=by
  rw[hK]
  have h1:=(List.getElem?_eq_some_iff.1 hy).1
  calc k*c+j<k*c+c:=by omega
   _=(k+1)*c:=by rw[Nat.add_mul];omega
   _≤_:=Nat.mul_le_mul_right _ h1
 rw[List.getElem?_toArray,List.getElem?_append_right (by omega),List.getElem?_append_left (by omega),←na (enc:=enc) xs k y hy j hj]
 congr 1;omega
theorem Sv.tI{lo hi:Nat}(h:lo<s.cap):(s.sub c lo hi).o=s.o+lo*c:=by simp only[Sv.sub];rw[if_neg (by omega)]
theorem Sv.zr{hi:Nat}:(s.sub c 0 hi).o=s.o:=by simp only[Sv.sub];split<;>simp
theorem Sv.sub_eq{hi:Nat}(hn:s.nil=false)(gE:s.sp= .none):s.sub c 0 hi=⟨false,s.b,s.o,hi,s.cap, .none⟩:=by
 have h0:=Sv.zr (s:=s) (c:=c) (hi:=hi)
 obtain⟨sn,sb,so,sl,sc,ss⟩:=s
 simp only[Sv.sub]at h0 hn gE⊢
 subst hn gE
 rw[h0];rfl
end
section
variable {P:Program} {N:cG} {w0:World} {env:Env} {L:List ai} {Q:Exit→Act→World→Prop} {l rest:List Oper} {d:Option Tmp} {ty:TypeId} {ps:String} {af:Array Edge} {gd:Option (Nat×Bool)} {K:Value→List ai→Prop}
variable {α:Type} {enc:α→Array Value} {c:Nat} {s:Sv} {xs:List α}
theorem SG{w:World}{pre A mid:List Value}{T:TypeId}{b o:Nat}{L':List ai}(hw:Mem w0 (ar b (pre++(A++mid)).toArray T::L') w)(ho:pre.length=o){j:Nat}{u:Value}(hj:A[j]? =some u):w.cell? ⟨b,o+j,none⟩=some u:=by
 have jA:=(List.getElem?_eq_some_iff.1 hj).1
 have h0:(ar b (pre++(A++mid)).toArray T::L')[0]? =some (ar b (pre++(A++mid)).toArray T):=rfl
 rw[hw.cell h0,List.getElem?_toArray,List.getElem?_append_right (by omega),List.getElem?_append_left (by omega),←hj]
 congr 1;omega
theorem Kl{code:Code}[he:bD enc c]{i:Nat}(q:fJ L s enc c xs i)(hc:1<c)(hn:0<xs.length){L':List Value→List Value→TypeId→List ai}[hu: ∀pre mid T,fD L i (ar s.b (pre++(aL enc xs++mid)).toArray T) (L' pre mid T)]
  (h: ∀pre mid T,pre.length=s.o→s.o+s.cap*c≤pre.length+(xs.length*c+mid.length)→s.nil=false→s.sp=none→s.Ok→s.len=xs.length→Cw P N w0 Q code env (L' pre mid T)):Cw P N w0 Q code env L:=fun a w ha hw=>by
 have nh:=(hw.get q.h).1.some hn
 obtain⟨pre,mid,T,h1,h2,h3,h4,h5,h6⟩:=SF hc hw q.h nh
 rw[(hu pre mid T).h]at h6
 exact h pre mid T h1 h2 nh h3 h4 h5 a w ha h6
theorem B2{code:Code}{i:Nat}(q:fJ L s enc c xs i)(hn:0<xs.length)(h:s.nil=false→s.sp=none→s.Ok→s.len=xs.length→Cw P N w0 Q code env L):Cw P N w0 Q code env L:=fun a w ha hw=>by
 obtain⟨r,nc⟩:=hw.get q.h
 have nh:=r.some hn
 exact h nh (nc nh).1 r.ok r.len a w ha hw
theorem Km[he:bD enc c](hc:0<c){i:Nat}(q:fJ L s enc c xs i){w:World}(hw:Mem w0 L w){j:Nat}{v:Value}(hj:(aL enc xs)[j]? =some v):w.cell? ⟨s.b,s.o+j,none⟩=some v:=by
 obtain⟨x,hx,hv⟩:=By hc hj
 have r:=(hw.get q.h).1
 rw[rf,←hv,←r.row _ x hx (j%c) (Nat.mod_lt _ hc)]
 congr 1
 have:=Nat.div_add_mod j c
 rw[Nat.mul_comm]at this;omega
theorem SH(w:World)(dT sT ty elem:TypeId)(b o Kn SI:Nat)(a:Addr)(Ko SJ n:Nat)(cur:Array Value)(t:TypeId)(vs:List Value)
  (hu:P.underlying dT=some (.slice elem)) (hs:(P.info? elem).map (·.size)=some c) (hg:w.heap[b]? =some (.cells cur t (0,0))) (hn:n=Nat.min Ko Kn) (hv:vs.length=n*c)
  (lQ: ∀j v,vs[j]? =some v→w.cell? (a.add j)=some v) (jb:o+vs.length≤cur.size) (h1: ∀v∈vs,v.oneCell'=true):
  (Builtin.copy_ #[dT,sT] ty #[.slice (some ⟨b,o,none⟩) Kn SI, .slice (some a) Ko SJ]).run P w= .ok (goInt n) (w.setRow b (cW cur o vs.toArray)):=by
 have hl:=run_loadCells_list (P:=P) w a vs lQ
 have bB:=run_storeCells_at P b o t vs 0 cur w hg (by simpa using jb) h1
 rw[hv]at hl
 cases hq:P.info? elem with
 |none=>simp[hq]at hs
 |some i=>
  have hi:i.size=c:=by simpa[hq]using hs
  simp[Builtin.copy_,run_underlying hu,Builtin.lenOf,Builtin.firstCells,sizeOf,typeInfo,hq,hi,←hn,hl,bB,cW]
theorem B3{D S:Sv}{x y:Operand}{tx fZ e:TypeId}{i b o n:Nat}{cs:Array Value}{T:TypeId}{vs:List Value}(hx:ev env x=some D.val)(hy:ev env y=some S.val)
  (lX:D.nil=false) (ni:D.sp=none) (oL:D.b=b) (qt:D.o=o) (zt:S.nil=false) (zu:S.sp=none) [ht:fj P tx e c] [hh:Has L b cs T i] (hn:n=Nat.min S.len D.len) (hv:vs.length=n*c)
  (lQ: ∀w,Mem w0 L w→ ∀j v,vs[j]? =some v→w.cell? ⟨S.b,S.o+j,none⟩=some v) (h1: ∀v∈vs,v.oneCell'=true) (ho:o+vs.length≤cs.size) {cs':Array Value} {L':List ai} (gQ:cW cs o vs.toArray=cs') [hu:fD L i (ar b cs' T) L']
  (hk:Sq P N w0 l Q rest (cD env d (.int .i64 n)) L') (hd:dr N d=true:=by rfl):
  Sq P N w0 l Q (⟨d, .call {callee:= .builtin .copy,args:= #[x,y],argTypes:= #[tx,fZ]},ty,ps,af,none⟩::rest) env L:=
 mZ rfl hd fun aa w ha hw=>by
  rw[Sv.iu lX,ni,oL,qt]at hx
  rw[Sv.iu zt,zu]at hy
  have hb:=hw.block hh.h
  have fX:=SH (P:=P) w tx fZ ty e b o D.len D.cap ⟨S.b,S.o,none⟩ S.len S.cap n cs T vs ht.eI ht.size hb hn hv (fun j v hj=>by rw[Addr.gC];exact lQ w hw j v hj) ho h1
  refine⟨_,_,_,?_,by rw[←hu.h,←gQ];exact hw.setRow hh.h _,hk⟩
  simp[execOp,ha.ev hx,ha.ev hy,resolve,invoke,builtin,fX,Result.andThen,goInt]
theorem SK{D S:Sv}{x y:Operand}{tx fZ e e':TypeId}{cL i b o n:Nat}{cs:Array Value}{T:TypeId}{vs:List Value}(hx:ev env x=some D.val)(hy:ev env y=some S.val)
  (lX:D.nil=false) (ni:D.sp=none) (oL:D.b=b) (qt:D.o+D.len*c=o) (zt:S.nil=false) (zu:S.sp=none) [ht:fo P tx e c cL] (wY:P.underlying fZ=some (.slice e')) [hh:Has L b cs T i] (hn:S.len=n) (hv:vs.length=n*c) (nT:D.len+n≤D.cap)
  (lQ: ∀w,Mem w0 L w→ ∀j v,vs[j]? =some v→w.cell? ⟨S.b,S.o+j,none⟩=some v) (h1: ∀v∈vs,v.oneCell'=true) (ho:o+vs.length≤cs.size) {cs':Array Value} {L':List ai} (gQ:cW cs o vs.toArray=cs') [hu:fD L i (ar b cs' T) L']
  {R:Sv} (hR:R=⟨false,b,D.o,D.len+n,D.cap,none⟩) (hk:Sq P N w0 l Q rest (cD env d R.val) L') (hd:dr N d=true:=by rfl):
  Sq P N w0 l Q (⟨d, .call {callee:= .builtin .append,args:= #[x,y],argTypes:= #[tx,fZ]},ty,ps,af,none⟩::rest) env L:=
 mZ rfl hd fun aa w ha hw=>by
  subst hR qt oL
  rw[Sv.iu lX,ni]at hx
  rw[Sv.iu zt,zu,hn]at hy
  have hb:=hw.block hh.h
  obtain⟨i',z,bj,aH,bG,di,mu⟩:=ht.info
  have hs:=Src.ofSlice (P:=P) (size:=c) w wY ⟨S.b,S.o,none⟩ n S.cap vs hv (fun j v hj=>by rw[Addr.gC];exact lQ w hw j v hj) h1
  have bB:=run_storeCells_at P D.b (D.o+D.len*c) T vs 0 cs w hb (by simpa using ho) h1
  have fX:(Builtin.append_ #[tx,fZ] ty #[.slice (some ⟨D.b,D.o,none⟩) D.len D.cap, .slice (some ⟨S.b,S.o,none⟩) n S.cap]).run P w= .ok (.slice (some ⟨D.b,D.o,none⟩) (D.len+n) D.cap) (w.setRow D.b (cW cs (D.o+D.len*c) vs.toArray)):=by
   subst bG
   rcases hs.kind with⟨e',hk⟩|hk<;>simp[Builtin.append_,run_underlying ht.eI,run_underlying hk,sizeOf,typeInfo,bj,hs.len,nT,hs.cells,Addr.gC,bB,cW]
  refine⟨_,_,_,?_,by rw[←hu.h,←gQ];exact hw.setRow hh.h _,hk⟩
  simp[execOp,ha.ev hx,ha.ev hy,resolve,invoke,builtin,fX,Result.andThen,Sv.val]
theorem SL{D:Sv}{x y:Operand}{tx fZ e:TypeId}{cL k:Nat}{z:Value}{olds:List Value}{kn kq:IntKind}{iy:Int}{p m:Nat}(hp:D.len=p)(hm:p+k=m)(hx:ev env x=some D.val)(hy:ev env y=some (.int kq iy))(mD:iy=(k:Int))(h0:0<k)
  (lX:D.nil=false) (ni:D.sp=none) [ht:fo P tx e c cL] (hc:0<c) [hz:fk P e z] (Fk:P.underlying fZ=some (.int kn)) (holds:olds.length=D.len*c) (lQ: ∀w,Mem w0 L w→ ∀j v,olds[j]? =some v→w.cell? ⟨D.b,D.o+j,none⟩=some v)
  (hg:D.cap<D.len+k) (hb:(D.len+k)*cL≤140737488355328) (jl:D.len+k≤140737488355328)
  (hk: ∀(b C:Nat) (Z:List Value),m≤C→p*c+Z.length=C*c→Sq P N w0 l Q rest (cD env d (Sv.val ⟨false,b,0,m,C,none⟩)) (ar b (olds++Z).toArray e::L)) (hd:dr N d=true:=by rfl):
  Sq P N w0 l Q (⟨d, .call {callee:= .builtin .append,args:= #[x,y],argTypes:= #[tx,fZ]},ty,ps,af,none⟩::rest) env L:=
 mZ rfl hd fun aa w ha hw=>by
  subst mD hp hm
  rw[Sv.iu lX,ni]at hx
  obtain⟨i',z',bj,aH,bG,di,mu⟩:=ht.info
  subst bG di
  have uY:=nextslicecap_le hg
  have jb:Builtin.nextslicecap (D.len+k) D.cap*i'.bytes≤281474976710656:=by
   have h2:Builtin.nextslicecap (D.len+k) D.cap*i'.bytes≤2*(D.len+k)*i'.bytes:=Nat.mul_le_mul_right _ uY
   rw[Nat.mul_assoc]at h2
   omega
  have Fl:k*i'.bytes≤281474976710656:=by
   have:k*i'.bytes≤(D.len+k)*i'.bytes:=Nat.mul_le_mul_right _ (by omega)
   omega
  have hold:=run_firstCells_some (P:=P) w.drew i'.size D.len ⟨D.b,D.o,none⟩ D.len D.cap olds holds (fun j v hj=>by rw[Addr.gC];exact lQ w hw j v hj)
  have fX:=Lib.run_append_grow_zeros (P:=P) w tx fZ ty e i' z' kq kn ht.eI Fk bj aH (some ⟨D.b,D.o,none⟩) D.len D.cap olds hold k h0 hc hg (by omega) Fl jb
  have ri:=grownCap_ge w (D.len+k) D.cap e
  generalize grownCap w (D.len+k) D.cap e=C at fX ri
  have zv:=size_zeroCells z'.cells k
  have B4:=size_zeroCells z'.cells (C -(D.len+k))
  rw[mu]at zv B4
  have hZ:D.len*i'.size+(Builtin.zeroCells z'.cells k++Builtin.zeroCells z'.cells (C -(D.len+k))).toList.length=C*i'.size:=by
   rw[Array.length_toList,Array.size_append,zv,B4,←Nat.add_mul,←Nat.add_mul];congr 1;omega
  have e1:olds.toArray++Builtin.zeroCells z'.cells k++Builtin.zeroCells z'.cells (C -(D.len+k))=(olds++(Builtin.zeroCells z'.cells k++Builtin.zeroCells z'.cells (C -(D.len+k))).toList).toArray:=by apply Array.ext';simp
  rw[e1]at fX
  refine⟨_,_,_,?_,hw.drew.alloc _ e,hk w.heap.size C _ ri hZ⟩
  simp[execOp,ha.ev hx,ha.ev hy,resolve,invoke,builtin,fX,Result.andThen,Sv.val]
theorem SM{D:Sv}{x:Operand}{tx e:TypeId}{cL i b o n:Nat}{z:Value}{cs:Array Value}{T:TypeId}(hx:ev env x=some D.val)(lX:D.nil=false)(ni:D.sp=none)(oL:D.b=b)(qt:D.o=o)(hn:D.len=n)(h0:0<n)[ht:fo P tx e c cL][hz:fk P e z](h1:z.cells.all (·.oneCell')=true)[hh:Has L b cs T i](ho:o+n*c≤cs.size)
  {L':List Value→List ai} [hu: ∀Z,fD L i (ar b (cW cs o Z.toArray) T) (L' Z)] (hk: ∀Z:List Value,Z.length=n*c→Sq P N w0 l Q rest env (L' Z)):
  Sq P N w0 l Q (⟨none, .call {callee:= .builtin .clear,args:= #[x],argTypes:= #[tx]},ty,ps,af,none⟩::rest) env L:=
 mZ rfl rfl fun aa w ha hw=>by
  rw[Sv.iu lX,ni,oL,qt,hn]at hx
  have hb:=hw.block hh.h
  obtain⟨i',z',bj,aH,bG,di,mu⟩:=ht.info
  obtain rfl:z'=z:=by
   have:=hz.zero
   rw[bj,Option.map_some,aH]at this;exact Option.some.inj (Option.some.inj this)
  subst bG
  have hZ:=size_zeroCells z'.cells n
  rw[mu]at hZ
  have rp: ∀v∈(Builtin.zeroCells z'.cells n).toList,v.oneCell'=true:=fun v hv=>by
   simp only[Builtin.zeroCells,Array.toList_map,List.mem_map]at hv
   obtain⟨j,hj,rfl⟩:=hv
   have pB:0<z'.cells.size:=by
    rcases Nat.eq_zero_or_pos z'.cells.size with h|h
    ·
     rw[h]at hj;simp at hj
    ·
     exact h
   rw[getElem!_pos z'.cells _ (Nat.mod_lt _ pB)]
   exact(Array.all_eq_true_iff_forall_mem.1 h1) _ (Array.getElem_mem _)
  have bB:=run_storeCells_at P b o T (Builtin.zeroCells z'.cells n).toList 0 cs w hb (by simp[hZ];omega) rp
  have fX:(Builtin.clear_ #[tx] ty #[.slice (some ⟨b,o,none⟩) n D.cap]).run P w= .ok (.tuple #[]) (w.setRow b (cW cs o (Builtin.zeroCells z'.cells n))):=by
   obtain⟨m,rfl⟩: ∃m,n=m+1:=⟨n -1,by omega⟩
   simp[Builtin.clear_,run_underlying ht.eI,zeroValue,typeInfo,bj,aH,bB,cW]
  refine⟨.tuple #[],w.setRow b (cW cs o (Builtin.zeroCells z'.cells n)),L' (Builtin.zeroCells z'.cells n).toList,?_,?_,hk _ (by rw[Array.length_toList,hZ])⟩
  ·
   simp[execOp,ha.ev hx,resolve,invoke,builtin,fX,Result.andThen]
  ·
   have h9:=hw.setRow hh.h (cW cs o (Builtin.zeroCells z'.cells n))
   rw[←(hu _).h]
   simpa using h9
def Sv.top(s:Sv)(m:Nat):Sv:=⟨s.nil,s.b,s.o,s.len,m,s.sp⟩
theorem Kq{t e:TypeId}{x lo hi mx:Operand}{l h m:Nat}{k k' Kr:IntKind}{il ih im:Int}[ht:fj P t e c](hx:ev env x=some s.val)[q:Hd w0 L s enc c xs](hl:ev env lo=some (.int k il))(hh:ev env hi=some (.int k' ih))(hm:ev env mx=some (.int Kr im))(el:il=(l:Int))(eh:ih=(h:Int))(em:im=(m:Int))(h1:l≤h)(h2:h≤m)(h3:m≤xs.length):
  Ry P N w0 env L ⟨d, .slice t x (some lo) (some hi) (some mx),ty,ps,af,gd⟩ ((s.top m).sub c l h).val:=fun a w ha hw=>by
 subst el eh em
 have r:=q.h w hw
 have hs:=r.ok
 have hlen:=r.len
 have hle:=hs.le
 have ee:=wF ht.eI
 have hu:P.underlying t=some (.slice (P.elem t)):=by rw[ee];exact ht.eI
 obtain⟨ad,len,cap,m8⟩:=s.ex
 have e3:len=s.len∧cap=s.cap∧sliced ad l h m c=((s.top m).sub c l h).val:=by
  cases hn:s.nil with
  |true=>
   rw[Sv.re hn]at m8
   obtain⟨rfl,rfl,rfl⟩:=by simpa using m8
   have:=hs.nil hn
   have e2:((s.top m).sub c l h).nil=true:=hn
   rw[Sv.re e2]
   have:l=0:=by omega
   have:h=0:=by omega
   have:m=0:=by omega
   subst l h m
   exact⟨by omega,by omega,by simp[sliced]⟩
  |false=>
   rw[Sv.iu hn]at m8
   obtain⟨rfl,rfl,rfl⟩:=by simpa using m8
   have e2:((s.top m).sub c l h).nil=false:=hn
   rw[Sv.iu e2]
   refine⟨rfl,rfl,?_⟩
   simp only[sliced,Sv.sub,Sv.top]
   by_cases hc:m=l
   ·
    simp[hc]
   ·
    have gE:=hs.sp (by omega)
    simp[hc,gE,Addr.gC]
 obtain⟨e1,e2,e3⟩:=e3
 have hr:=run_slice_lhm (P:=P) (w:=w) t ad len cap hu k k' Kr (l:Int) (h:Int) (m:Int) (by omega) (by omega) (by omega) (by omega)
 rw[ee,kT w ht.size]at hr
 simp only[Result.andThen,Int.toNat_natCast,e3]at hr
 simp only[execOp,ha.ev hx,ha.ev hl,ha.ev hh,ha.ev hm,m8,Option.map_some,run_sliceAt_slice (h:=hu),hr,Sem.run_bind,Result.andThen,Sem.run_pure]
theorem SN{t e:TypeId}{x:Operand}{m n:Nat}[ht:fj P t e m](hx:ev env x=some s.val)(nh:s.nil=false)(hn:s.cap=n):
  Ry P N w0 env L ⟨d, .call {callee:= .builtin .cap,args:= #[x],argTypes:= #[t]},ty,ps,af,gd⟩ (.int .i64 n):=fun a w ha _=>by
 subst hn
 rw[Sv.iu nh]at hx
 have hu:P.underlying t=some (.slice (P.elem t)):=by rw[wF ht.eI];exact ht.eI
 have:=run_cap_slice (P:=P) (w:=w) t ty (some ⟨s.b,s.o,s.sp⟩) s.len s.cap hu
 simp[execOp,ha.ev hx,resolve,invoke,builtin,this,Result.andThen,goInt]
class Ks(P:Program)(f:FuncId)(tS tR:outParam TypeId):Prop where
 fn: ∃fn,P.funcs[f]? =some fn∧(fn.name== "runtime.NumGoroutine")=false∧fn.body.isNone=true∧Extern.findNext fn=none∧Extern.find fn=some (Extern.SlicesOverlaps.overlaps #[tS,tS] #[tR])
theorem Mem.apart{w:World}{i j k:Nat}{e e':ai}(h:Mem w0 L w)(hi:L[i]? =some e)(hj:L[j]? =some e')(mX:i≠j)(hk:e.fp k): ¬e'.fp k:=by
 obtain⟨gi,rfl⟩:=List.getElem?_eq_some_iff.1 hi
 obtain⟨gj,rfl⟩:=List.getElem?_eq_some_iff.1 hj
 have hd:=List.pairwise_iff_getElem.1 h.nQ
 rcases Nat.lt_or_gt_of_ne mX with h1|h1
 ·
  exact hd i j gi gj h1 k hk
 ·
  exact fun h2=>hd j i gj gi h1 k h2 hk
theorem SO{V D:Sv}{x y:Operand}{f:FuncId}{ts:Array TypeId}{tS tR e T:TypeId}{i j b:Nat}{cs:Array Value}(hx:ev env x=some V.val)(hy:ev env y=some D.val)[hf:Ks P f tS tR][ht:fj P tS e c](hc:1<c)[q:fJ L V enc c xs i](hv:0<xs.length)[hh:Has L b cs T j](lX:D.nil=false)(ni:D.sp=none)(oL:D.b=b)(gQ:0<cs.size)(mX:i≠j:=by decide):
  Ry P N w0 env L ⟨d, .call {callee:= .value (.func f),args:= #[x,y],argTypes:=ts},ty,ps,af,gd⟩ (.bool false):=fun a w ha hw=>by
 obtain⟨r,nc⟩:=hw.get q.h
 have Fm:=r.some hv
 obtain⟨SP,cv,Tv,fz,eW,fh,lT,mw⟩:=nc Fm
 obtain rfl:=mw hc
 have hb:=hw.block hh.h
 have bW:V.b≠b:=fun e0=>hw.apart q.h hh.h mX (k:=V.b) ⟨Fm,rfl⟩ e0
 subst oL
 rw[Sv.iu Fm,SP]at hx
 rw[Sv.iu lX,ni]at hy
 obtain⟨fn,h1,h2,h3,h4,h5⟩:=hf.fn
 have fX:=Lib.run_overlaps_apart (P:=P) w tS tR e ht.eI c (fun w=>kT w ht.size) ⟨V.b,V.o,none⟩ ⟨D.b,D.o,none⟩ V.len V.cap D.len D.cap bW Tv T cv.size cs.size (by simp[World.shape?,eW]) (by simp[World.shape?,hb]) (by omega) (by simp[World.frozen?,eW]) (by simp[World.frozen?,eW])
 have Kt:=run_callFunc_extern (P:=P) h1 h2 h3 h4 h5 #[.slice (some ⟨V.b,V.o,none⟩) V.len V.cap, .slice (some ⟨D.b,D.o,none⟩) D.len D.cap] w
 rw[fX]at Kt
 have e1:a.eval (.func f)= .func (.func f) #[] #[]:=rfl
 simp[execOp,ha.ev hx,ha.ev hy,resolve,e1,Deferred.ofValue,invoke,Kt,Result.andThen]
end
end Go.aA
namespace Go.Kb
def SQ:Nat:=3988292384
def Fo(n:Nat):Nat:=(n/2)^^^(if n%2=1 then SQ else 0)
theorem SR{n:Nat}(h:n<2^32):Fo n<2^32:=by
 refine Nat.xor_lt_two_pow (by omega) ?_
 split
 ·
  decide
 ·
  decide
def nj(n:Nat):Nat→Nat
 |0=>n
 |k+1=>Fo (nj n k)
theorem Fp{n:Nat}(h:n<2^32): ∀k,nj n k<2^32
 |0=>h
 |k+1=>SR (Fp h k)
def Fq(n:Nat)(b:UInt8):Nat:=nj (n^^^b.toNat) 8
theorem SS{n:Nat}{b:UInt8}(h:n<2^32):Fq n b<2^32:=Fp (Nat.xor_lt_two_pow h (by have:=b.toNat_lt;omega)) 8
def km(n:Nat)(l:List UInt8):Nat:=l.foldl Fq n
theorem B5{n:Nat}(h:n<2^32): ∀l,km n l<2^32
 |[]=>h
 |b::l=>B5 (SS h) l
theorem SU{n:Nat}{l:List UInt8}{i:Nat}{b:UInt8}(h:l[i]? =some b):km n (l.take (i+1))=Fq (km n (l.take i)) b:=by
 rw[List.take_add_one,h,km,km,List.foldl_append];rfl
def lY(l:List UInt8):Nat:=4294967295 -km 4294967295 l
theorem Fs(l:List UInt8):lY l<2^32:=by unfold lY;omega
end Go.Kb
namespace Go.aA
open Go.RowKit
section
variable {α:Type} {enc:α→Array Value} {c:Nat} {s:Sv} {xs:List α}
theorem Mem.Ku{w0 w:World}{L:List ai}{i k:Nat}(hw:Mem w0 L w)(hi:L[i]? =some (own enc c s xs))(hk:k≤xs.length):Mem w0 (L.set i (own enc c (s.sub c 0 k) (xs.take k))) w:=by
 obtain⟨r,nc⟩:=hw.get hi
 have r2:=r.sub (lo:=0) (hi:=k) (Nat.zero_le _) hk
 rw[List.drop_zero,Nat.sub_zero]at r2
 refine hw.change hi (fun k hk=>hk) (fun _ _=>rfl) rfl ⟨rfl,rfl,rfl⟩ ⟨r2,fun hn=> ?_⟩
 obtain⟨h1,cs,T,fz,h2,h3,h4,h5⟩:=nc hn
 refine⟨h1,cs,T,fz,h2,?_,h4,h5⟩
 rw[Sv.zr];exact h3
end
section
variable {P:Program} {N:cG} {w0:World} {env:Env} {L:List ai} {Q:Exit→Act→World→Prop} {l rest:List Oper} {d:Option Tmp} {ty:TypeId} {ps:String} {af:Array Edge} {gd:Option (Nat×Bool)}
variable {α:Type} {enc:α→Array Value} {c:Nat} {xs:List α}
theorem Kv{x y:Operand}{tx fZ e:TypeId}{cL k:Nat}{z:Value}{kn kq:IntKind}{iy:Int}(x0:α)(hx:ev env x=some (.slice none 0 0))(hy:ev env y=some (.int kq iy))(mD:iy=(k:Int))(h0:0<k)
  [ht:fo P tx e c cL] [he:bD enc c] (hc:0<c) [hz:fk P e z] (Kw:enc x0=z.cells) (Fk:P.underlying fZ=some (.int kn)) (hb:k*cL≤140737488355328) (jl:k≤140737488355328)
  (hk: ∀b C:Nat,k≤C→Sq P N w0 l Q rest (cD env d (Sv.val ⟨false,b,0,k,C,none⟩)) (own enc c ⟨false,b,0,k,C,none⟩ (List.replicate k x0)::L)) (hd:dr N d=true:=by rfl):
  Sq P N w0 l Q (⟨d, .call {callee:= .builtin .append,args:= #[x,y],argTypes:= #[tx,fZ]},ty,ps,af,none⟩::rest) env L:=
 mZ rfl hd fun aa w ha hw=>by
  subst mD
  obtain⟨i',z',bj,aH,bG,di,mu⟩:=ht.info
  obtain rfl:z'=z:=by
   have:=hz.zero
   rw[bj,Option.map_some,aH]at this;exact Option.some.inj (Option.some.inj this)
  subst bG di
  have fX:=Lib.run_append_nil_zeros (P:=P) w tx fZ ty e i' z' kq kn ht.eI Fk bj aH k h0 hc (by omega) (by omega)
  have ri:=grownCap_ge w k 0 e
  generalize grownCap w k 0 e=C at fX ri
  have zv:=size_zeroCells z'.cells k
  have B4:=size_zeroCells z'.cells (C -k)
  have SV: ∀m i j,i<m→j<i'.size→(Builtin.zeroCells z'.cells m)[i*i'.size+j]? =z'.cells[j]? :=fun m i j hi hj=>by
   have bu:i*i'.size+j<m*z'.cells.size:=by
    rw[mu]
    have:(i+1)*i'.size≤m*i'.size:=Nat.mul_le_mul_right _ hi
    rw[Nat.add_mul]at this;omega
   have e1:(i*i'.size+j)%z'.cells.size=j:=by rw[mu,Nat.mul_comm,Nat.mul_add_mod];exact Nat.mod_eq_of_lt hj
   have SW:j<z'.cells.size:=by omega
   simp[Builtin.zeroCells,bu,e1,SW]
  refine⟨_,_,_,?_,hw.drew.call (wI (enc:=enc) (c:=i'.size) (xs:=List.replicate k x0) (cs:=Builtin.zeroCells z'.cells k++Builtin.zeroCells z'.cells (C -k)) (e:=e) rfl k C (by simp) ri jl ?_ fun i x hx j hj=> ?_),hk _ C ri⟩
  ·
   simp[execOp,ha.ev hx,ha.ev hy,resolve,invoke,builtin,fX,Result.andThen,Sv.val]
  ·
   rw[Array.size_append,zv,B4,mu,←Nat.add_mul];exact Nat.mul_le_mul_right _ (by omega)
  ·
   have hi:i<k:=by
    have:=(List.getElem?_eq_some_iff.1 hx).1
    simpa using this
   obtain rfl:x0=x:=by rw[List.getElem?_replicate,if_pos hi]at hx;exact Option.some.inj hx
   rw[Kw,←SV k i j hi hj,Array.getElem?_append_left]
   rw[zv,mu]
   have:(i+1)*i'.size≤k*i'.size:=Nat.mul_le_mul_right _ hi
   rw[Nat.add_mul]at this;omega
theorem B6{t e:TypeId}{x:Operand}{m:Nat}[ht:fj P t e m](hx:ev env x=some (.slice none 0 0)):
  Ry P N w0 env L ⟨d, .call {callee:= .builtin .cap,args:= #[x],argTypes:= #[t]},ty,ps,af,gd⟩ (.int .i64 (0:Nat)):=fun a w ha _=>by
 have hu:P.underlying t=some (.slice (P.elem t)):=by rw[wF ht.eI];exact ht.eI
 have:=run_cap_slice (P:=P) (w:=w) t ty none 0 0 hu
 simp[execOp,ha.ev hx,resolve,invoke,builtin,this,Result.andThen,goInt]
class tJ(w0:World)(L:List ai){τ:Type}[Deep τ](xs:List τ):Prop where
 h: ∀w,Mem w0 L w→ ∀x∈xs,Deep.bb (hp w) x
instance tJ.nil{τ:Type}[Deep τ]:tJ w0 L ([]:List τ):=⟨fun _ _ _ h=>by cases h⟩
instance tJ.cons{τ:Type}[Deep τ]{x:τ}{xs:List τ}[a:aW w0 L x][b:tJ w0 L xs]:tJ w0 L (x::xs):=⟨fun w hw y hy=>by
 rcases List.mem_cons.1 hy with rfl|hy
 ·
  exact a.h w hw
 ·
  exact b.h w hw y hy⟩
instance (priority:=low) aW.flat {τ:Type}[Deep τ][Plain τ]{enc:τ→Array Value}{c:Nat}[gg τ enc c]{s:Sv}{xs:List τ}[q:df w0 L enc c s xs]:aW w0 L (⟨s,xs⟩:Sl τ):=⟨fun w hw=>by
 have hl:=q.h w hw
 have e1:Deep.cells (τ:=τ)=enc:=funext (gg.h (c:=c))
 have e2:Deep.c τ=c:=gg.hc (enc:=enc)
 refine⟨?_,fun x _=>Deep.kl _ x (by rw[Plain.h x];exact trivial)⟩
 subst e1 e2
 exact hl⟩
instance (priority:=low) aW.rows {τ:Type}[Deep τ]{enc:τ→Array Value}{c:Nat}[gg τ enc c]{s:Sv}{xs:List τ}[q:df w0 L enc c s xs][g:tJ w0 L xs]:aW w0 L (⟨s,xs⟩:Sl τ):=⟨fun w hw=>by
 have hl:=q.h w hw
 have e1:Deep.cells (τ:=τ)=enc:=funext (gg.h (c:=c))
 have e2:Deep.c τ=c:=gg.hc (enc:=enc)
 refine⟨?_,g.h w hw⟩
 subst e1 e2
 exact hl⟩
theorem SX{τ:Type}[Deep τ]{s:Sv}{xs:List τ}[g:aW w0 L (⟨s,xs⟩:Sl τ)](h: ∀a:Sl τ,a=⟨s,xs⟩→aW w0 L a→Sq P N w0 l Q rest (cD env d a.sv.val) L):Sq P N w0 l Q rest (cD env d s.val) L:=h _ rfl g
def jV(l:List (Sl UInt8)):List UInt8:=(l.map Sl.xs).flatten
theorem B7{l:List (Sl UInt8)}{i:Nat}{x:Sl UInt8}(h:l[i]? =some x):jV (l.take (i+1))=jV (l.take i)++x.xs:=by
 rw[jV,List.take_add_one,h];simp[jV]
theorem SY(l:List (Sl UInt8))(i:Nat):(jV (l.take i)).length≤(jV l).length:=by
 have e:jV l=jV (l.take i)++jV (l.drop i):=by
  unfold jV
  rw[←List.flatten_append,←List.map_append,List.take_append_drop]
 rw[e,List.length_append];omega
end
theorem SZ(l:List UInt8): ∀n,l.foldl (fun a b=>a*256+b.toNat) n=n*256^l.length+de l:=by
 induction l with
 |nil=>intro n;simp[de]
 |cons x l ih=>
  intro n
  rw[List.foldl_cons,ih,show de (x::l)=l.foldl (fun a b=>a*256+b.toNat) (0*256+x.toNat)from rfl,ih,List.length_cons,Nat.pow_succ]
  simp only[Nat.zero_mul,Nat.zero_add,Nat.add_mul]
  rw[Nat.mul_assoc n,Nat.mul_comm 256,Nat.add_assoc]
theorem S0(x:UInt8)(l:List UInt8):de (x::l)=x.toNat*256^l.length+de l:=by
 rw[show de (x::l)=l.foldl (fun a b=>a*256+b.toNat) (0*256+x.toNat)from rfl,SZ];simp
theorem Kx(l:List UInt8):de l<256^l.length:=by
 have:=EI l l.length (Nat.le_refl _)
 rwa [List.take_length]at this
theorem S1(m n:Nat): ∀k,be (m*256^k+n) k=be n k
 |0=>rfl
 |k+1=>by
  have e:m*256^(k+1)+n=(m*256)*256^k+n:=by rw[Nat.pow_succ,Nat.mul_assoc,Nat.mul_comm 256]
  rw[be,be,e,S1 (m*256) n k,Nat.add_comm,Nat.add_mul_div_right _ _ (Nat.pow_pos (by decide))]
  congr 1
  apply UInt8.toNat_inj.1
  rw[qj,qj];omega
theorem B8(n:Nat): ∀k,de (be n k)=n%256^k
 |0=>by simp[be,de,Nat.mod_one]
 |k+1=>by
  rw[be,S0,iv,B8 n k,qj,Nat.pow_succ,Nat.mod_mul,Nat.mul_comm,Nat.add_comm]
open Go.RowKit
section
variable {w0:World} {L:List ai} {α:Type} {enc:α→Array Value} {c:Nat} {xs ys:List α} {s t:Sv} {g:Bool}
end
section
variable {P:Program} {N:cG} {w0:World} {env:Env} {L:List ai} {l:List Oper} {Q:Exit→Act→World→Prop} {rest:List Oper} {d:Option Tmp} {ty:TypeId} {ps:String} {af:Array Edge}
end
section
variable {w0:World} {L:List ai} {τ:Type} [Deep τ]
instance (priority:=low) tJ.of {a:Sl τ}[q:aW w0 L a]:tJ w0 L a.xs:=⟨fun w hw=>(q.h w hw).2⟩
end
section
variable {w0:World} {L:List ai} {τ:Type} [Deep τ]
end
open Go.RowKit
class fK(τ:Type)[d:Deep τ] where
 reach:τ→Nat→Prop
 congr: ∀(h h':Nat→Option Obj) (x:τ),(∀k,reach x k→h' k=h k)→d.bb h x→d.bb h' x
theorem bQ.congr{α:Type}{enc:α→Array Value}{c:Nat}{h h':Nat→Option Obj}{s:Sv}{xs:List α}(e:xs≠[]→h' s.b=h s.b)(r:bQ enc c h s xs):bQ enc c h' s xs:=
 ⟨r.ok,r.len,fun i x hi j hj=>by
  have bW:xs≠[]:=fun he=>by rw[he]at hi;simp at hi
  rw[←r.row i x hi j hj];unfold m7;rw[e bW]⟩
@[reducible] def fK.flat {τ:Type}[d:Deep τ](hg: ∀h x,d.bb h x):fK τ:=⟨fun _ _=>False,fun _ h' x _ _=>hg h' x⟩
instance fK.slice{τ:Type}[d:Deep τ][r:fK τ]:fK (Sl τ) where
 reach a k:=(a.xs≠[]∧k=a.sv.b)∨ ∃x∈a.xs,r.reach x k
 congr h h' a e g:=⟨g.1.congr fun bW=>e _ (.inl ⟨bW,rfl⟩),fun x hx=>r.congr h h' x (fun k hk=>e k (.inr ⟨x,hx,hk⟩)) (g.2 x hx)⟩
instance:fK UInt8:=fK.flat fun _ _=>trivial
def fz{τ:Type}[d:Deep τ][r:fK τ](x:τ):ai:=⟨r.reach x,fun h=>d.bb h x,fun h h' e s=>r.congr h h' x e s⟩
section
variable {w0:World} {L:List ai} {τ:Type} [d:Deep τ] [r:fK τ]
instance (priority:=high) aW.frozen {a:τ}{i:Nat}[q:At L (fz a) i]:aW w0 L a:=⟨fun _ hw=>hw.get q.h⟩
theorem Mem.freeze{w:World}{es:List ai}(x:τ)(hg:d.bb (hp w) x)(hr: ∀k,r.reach x k→ ∃e∈es,e.fp k)(h:Mem w0 (es++L) w):Mem w0 (fz x::L) w:=by
 have hd:=List.pairwise_append.1 h.nQ
 refine⟨h.below,fun e he=> ?_,fun e he k hk=> ?_,List.pairwise_cons.2 ⟨fun y hy k hk jT=> ?_,hd.2.1⟩⟩
 ·
  rcases List.mem_cons.1 he with rfl|he
  ·
   exact hg
  ·
   exact h.sat e (List.mem_append.2 (.inr he))
 ·
  rcases List.mem_cons.1 he with rfl|he
  ·
   obtain⟨e',qi,jT⟩:=hr k hk
   exact h.jz e' (List.mem_append.2 (.inl qi)) k jT
  ·
   exact h.jz e (List.mem_append.2 (.inr he)) k hk
 ·
  obtain⟨e',qi,oC⟩:=hr k hk
  exact hd.2.2 e' qi y hy k oC jT
theorem Mem.S2{w:World}{e:ai}(x:τ)(hg:d.bb (hp w) x)(hr: ∀k,r.reach x k→e.fp k)(h:Mem w0 (e::L) w):Mem w0 (fz x::L) w:=
 Mem.freeze (es:=[e]) x hg (fun k hk=>⟨e,by simp,hr k hk⟩) h
end
open Go.RowKit Go.Kb
section
variable {w0:World} {L:List ai} {τ:Type} [Deep τ] {xs:List τ} {es:List ai}
theorem Mem.vo{w:World}(h:Mem w0 L w):Mem w0 (ai.all []::L) w:=Mem.y6.2 h
theorem Mem.S3{w:World}{e:ai}(h:Mem w0 (e::ai.all es::L) w):Mem w0 (ai.all (e::es)::L) w:=Mem.wL.2 h
theorem Mem.Ky{w:World}{s:Sv}{enc:τ→Array Value}{c:Nat}[f:gg τ enc c][Plain τ](h:Mem w0 (own enc c s xs::L) w):Mem w0 (Deep.cx (⟨s,xs⟩:Sl τ)::L) w:=Tr.EL.mem h
end
end Go.aA
namespace Go.Kb
structure S4 where
 len:Int
 dK:UInt16
 deriving DecidableEq
structure Nd where
 S5:List S4
 S6:List Int
 hs:S5.length=16
 hn:S6.length=16
 deriving DecidableEq
def S7(k:Key)(n b:Nat):Key:=if n%2=0 then ze k (n/2) (16*b%256)else ze k (n/2) ((cM k (n/2)+b)%256)
def S8(p:cJ):Nat:=((p.len -1)/4).toNat
structure Wy where
 steps:Nat
 key:Key
 deriving DecidableEq
def root:Wy:=⟨0,0#128⟩
def n0(r:Rt)(bits:Int)(w:Wy)(b:Nat):Bool:=decide (r.p.bits=bits)&&decide (S8 r.p=w.steps)&&tD r.p (S7 w.key w.steps b)
section
variable {k:Key} {n b:Nat}
end
section
variable {bits:Int} {W:List Wy} {R:List Rt} {w:Wy} {node b:Nat}
end
section
variable {bits:Int} {W:List Wy} {R:List Rt} {r:Rt} {f:Nat}
end
theorem wZ{t:List Rt}(h:cr t=true){r:Rt}(hr:r∈t):cq r.p=true:=by
 obtain⟨i,hi⟩:=List.mem_iff_getElem?.1 hr
 have bu:=(List.getElem?_eq_some_iff.1 hi).1
 cases hm:cq r.p with
 |true=>rfl
 |false=>rw[BK bu (JV hi hm)]at h;cases h
theorem B9{t:List Rt}(h:cr t=true):t.length≤256:=by
 rcases Nat.lt_or_ge 256 t.length with h1|h1
 ·
  rw[JT h1]at h;cases h
 ·
  exact h1
open Go.aA
def bK(x:Int):Array Value:= #[.int .i64 x]
instance:bD bK 1:=⟨fun _=>rfl,fun _=>by simp[bK,Value.oneCell']⟩
instance (x:Int):cw (bK x) 0 (.int .i64 x):=⟨rfl⟩
instance:Deep Int:=Deep.flat bK 1
instance:gg Int bK 1:=⟨rfl,fun _=>rfl⟩
instance:Plain Int:=⟨fun _=>rfl⟩
end Go.Kb
namespace Go.aA
open Go.Kb
section
variable {P:Program} {N:cG} {w0:World} {env:Env} {L:List ai} {d:Option Tmp} {ty:TypeId} {ps:String} {af:Array Edge} {gd:Option (Nat×Bool)}
theorem jU{x:Operand}{a:Addr}(hx:ev env x=some (.pointer (some a))):Ry P N w0 env L ⟨d, .nilCheck x,ty,ps,af,gd⟩ (.pointer (some a)):=fun _ w ha _=>by
 simp only[execOp,ha.ev hx,Sem.run_pure]
variable {s:Sv} {xs:List Nd} {a:Nd}
end
section
variable {P:Program} {N:cG} {w0:World} {env:Env} {L:List ai} {l:List Oper} {Q:Exit→Act→World→Prop} {rest:List Oper} {ty:TypeId} {ps:String} {af:Array Edge}
variable {s:Sv} {xs:List Nd} {a:Nd}
end
end Go.aA
namespace Go.Kb
open Go.aA
theorem sD(k:IntKind)(n:Int):(Value.int k n).oneCell'=true:=rfl
theorem sE(b:Bool):(Value.bool b).oneCell'=true:=rfl
instance:fK Int:=fK.flat fun _ _=>trivial
structure Ft where
 op:Int
 fail:Bool
 cut:Bool
 mask:UInt8
 deriving DecidableEq
def dn(x:Ft):Array Value:= #[.int .i64 x.op, .bool x.fail, .bool x.cut, .int .u8 x.mask.toNat]
instance:bD dn 4:=⟨fun _=>rfl,fun x=>by
 simp only[dn,List.all_toArray,List.all_cons,List.all_nil,Sv.one,sD,sE,Bool.and_self]⟩
instance (x:Ft):gm (dn x) 4:=⟨rfl,bD.one x⟩
instance (x:Ft):cw (dn x) 0 (.int .i64 x.op):=⟨rfl⟩
instance (x:Ft):cw (dn x) 1 (.bool x.fail):=⟨rfl⟩
instance (x:Ft):cw (dn x) 2 (.bool x.cut):=⟨rfl⟩
instance (x:Ft):cw (dn x) 3 (.int .u8 x.mask.toNat):=⟨rfl⟩
instance:Deep Ft:=Deep.flat dn 4
instance:Plain Ft:=⟨fun _=>rfl⟩
instance:fK Ft:=fK.flat fun _ _=>trivial
instance:gg Ft dn 4:=⟨rfl,fun _=>rfl⟩
def w7:Ft:=⟨0,false,false,0⟩
structure Bk where
 pages:Sl (Sl UInt8)
 used:Int
 aT:Int
 bad:Bool
def bN(x:Bk):Array Value:= #[x.pages.sv.val, .int .i64 x.used, .int .i64 x.aT, .bool x.bad]
instance:bD bN 4:=⟨fun _=>rfl,fun x=>by
 simp only[bN,List.all_toArray,List.all_cons,List.all_nil,Sv.one,sD,sE,Bool.and_self]⟩
instance (x:Bk):gm (bN x) 4:=⟨rfl,bD.one x⟩
instance (x:Bk):cw (bN x) 0 (x.pages.sv.val):=⟨rfl⟩
instance (x:Bk):cw (bN x) 1 (.int .i64 x.used):=⟨rfl⟩
instance (x:Bk):cw (bN x) 2 (.int .i64 x.aT):=⟨rfl⟩
instance (x:Bk):cw (bN x) 3 (.bool x.bad):=⟨rfl⟩
instance:Deep Bk where
 c:=4
 cells:=bN
 size:=bD.size
 one:=bD.one
 bb h x:=Deep.bb h x.pages
 cx x:=Deep.cx x.pages
 kl h x hs:=Deep.kl h x.pages hs
 mono w w' x hg hb:=Deep.mono w w' x.pages hg hb
instance:fK Bk where
 reach x k:=fK.reach x.pages k
 congr h h' x e hg:=fK.congr h h' x.pages (fun k hk=>e k (hk)) hg
instance {w0:World}{L:List ai}{x:Bk}[q:aW w0 L x]:aW w0 L x.pages:=⟨fun w hw=>(q.h w hw)⟩
instance:gg Bk bN 4:=⟨rfl,fun _=>rfl⟩
def oM:Bk:=⟨⟨Sv.none,[]⟩,0,0,false⟩
structure Cp where
 pages:Int
 size:Int
 blocks:Sl Bk
 ops:Int
 off:Bool
 aQ:Sl Ft
def aD(x:Cp):Array Value:= #[.int .i64 x.pages, .int .i64 x.size,x.blocks.sv.val, .int .i64 x.ops, .bool x.off,x.aQ.sv.val]
instance:bD aD 6:=⟨fun _=>rfl,fun x=>by
 simp only[aD,List.all_toArray,List.all_cons,List.all_nil,Sv.one,sD,sE,Bool.and_self]⟩
instance (x:Cp):gm (aD x) 6:=⟨rfl,bD.one x⟩
instance (x:Cp):cw (aD x) 0 (.int .i64 x.pages):=⟨rfl⟩
instance (x:Cp):cw (aD x) 1 (.int .i64 x.size):=⟨rfl⟩
instance (x:Cp):cw (aD x) 2 (x.blocks.sv.val):=⟨rfl⟩
instance (x:Cp):cw (aD x) 3 (.int .i64 x.ops):=⟨rfl⟩
instance (x:Cp):cw (aD x) 4 (.bool x.off):=⟨rfl⟩
instance (x:Cp):cw (aD x) 5 (x.aQ.sv.val):=⟨rfl⟩
instance:Deep Cp where
 c:=6
 cells:=aD
 size:=bD.size
 one:=bD.one
 bb h x:=Deep.bb h x.blocks∧Deep.bb h x.aQ
 cx x:= .two (Deep.cx x.blocks) (Deep.cx x.aQ)
 kl h x hs:=⟨Deep.kl h x.blocks hs.1,Deep.kl h x.aQ hs.2.1⟩
 mono w w' x hg hb:=⟨Deep.mono w w' x.blocks hg.1 hb,Deep.mono w w' x.aQ hg.2 hb⟩
instance:fK Cp where
 reach x k:=fK.reach x.blocks k∨fK.reach x.aQ k
 congr h h' x e hg:=⟨fK.congr h h' x.blocks (fun k hk=>e k (.inl hk)) hg.1,fK.congr h h' x.aQ (fun k hk=>e k (.inr hk)) hg.2⟩
instance {w0:World}{L:List ai}{x:Cp}[q:aW w0 L x]:aW w0 L x.blocks:=⟨fun w hw=>(q.h w hw).1⟩
instance {w0:World}{L:List ai}{x:Cp}[q:aW w0 L x]:aW w0 L x.aQ:=⟨fun w hw=>(q.h w hw).2⟩
instance {w0:World}{L:List ai}{pages:Int}{size:Int}{blocks:Sl Bk}{ops:Int}{off:Bool}{aQ:Sl Ft}[q0:aW w0 L blocks][q1:aW w0 L aQ]:aW w0 L (Cp.mk pages size blocks ops off aQ):=⟨fun w hw=>⟨q0.h w hw,q1.h w hw⟩⟩
def gn:Cp:=⟨0,0,⟨Sv.none,[]⟩,0,false,⟨Sv.none,[]⟩⟩
end Go.Kb
namespace Go.aA
theorem bQ.cut{α:Type}{enc:α→Array Value}{c:Nat}{h:Nat→Option Obj}{s:Sv}{xs:List α}(r:bQ enc c h s xs){lo hi:Nat}(h1:lo≤hi)(h2:hi≤xs.length):bQ enc c h ⟨s.nil,s.b,if hi=lo then s.o else s.o+lo*c,hi -lo,hi -lo,s.sp⟩ ((xs.drop lo).take (hi -lo)):=by
  have hl:=r.len
  have hle:=r.ok.le
  have jc:=r.ok.bd
  refine⟨⟨fun hn=> ?_,Nat.le_refl _,?_,fun hc=> ?_⟩,?_,fun i x nR j hj=> ?_⟩
  ·have:=r.ok.nil hn
   simp only at this⊢;omega
  ·simp only;omega
  ·simp only at hc⊢;exact r.ok.sp (by omega)
  ·simp;omega
  ·have eX:=(List.getElem?_eq_some_iff.1 nR).1
   rw[List.length_take,List.length_drop]at eX
   have hx:xs[lo+i]? =Option.some x:=by rw[List.getElem?_take,if_pos (by omega),List.getElem?_drop]at nR;exact nR
   have:=r.row (lo+i) x hx j hj
   simp only
   rw[if_neg (by omega),show s.o+lo*c+i*c+j=s.o+(lo+i)*c+j by rw[Nat.add_mul];omega]
   exact this
end Go.aA
namespace Go.Kb
open Go.aA
structure BV where
  pages:List (List UInt8)
  used:Int
  aT:Int
  bad:Bool
  deriving DecidableEq
structure CV where
  pages:Int
  size:Int
  blocks:List BV
  ops:Int
  off:Bool
  aQ:List Ft
  deriving DecidableEq
def aK(l:List (Sl UInt8)):List (List UInt8):=l.map fun x=>x.xs
theorem jF(l:List (Sl UInt8)):(aK l).length=l.length:=by simp[aK]
theorem k7{l:List (Sl UInt8)}{i:Nat}{x:Sl UInt8}(h:l[i]? =some x):(aK l)[i]? =some x.xs:=by simp[aK,h]
def bv(b:Bk):BV:=⟨aK b.pages.xs,b.used,b.aT,b.bad⟩
def gF(l:List Bk):List BV:=l.map bv
theorem fB(l:List Bk):(gF l).length=l.length:=by simp[gF]
theorem jn{l:List Bk}{i:Nat}{x:Bk}(h:l[i]? =some x):(gF l)[i]? =some (bv x):=by simp[gF,h]
def cv(c:Cp):CV:=⟨c.pages,c.size,gF c.blocks.xs,c.ops,c.off,c.aQ.xs⟩
def fL(rm:Sv)(lo hi:Nat):Sv:=⟨rm.nil,rm.b,if hi=lo then rm.o else rm.o+lo,hi -lo,hi -lo,rm.sp⟩
def dt(rm:Sv):Nat→List (List UInt8)→List (Sl UInt8)
  |_,[]=>[]
  |o,p::r=>⟨fL rm o (o+p.length),p⟩::dt rm (o+p.length) r
theorem tK(rm:Sv): ∀(o:Nat) (l:List (List UInt8)),aK (dt rm o l)=l
  |_,[]=>rfl
  |o,p::r=>by
   have:=tK rm (o+p.length) r
   simp only[aK,dt,List.map_cons]at this⊢
   rw[this]
theorem Fu(rm:Sv): ∀(o:Nat) (l:List (List UInt8)),(dt rm o l).length=l.length
  |_,[]=>rfl
  |o,p::r=>by rw[dt,List.length_cons,List.length_cons,Fu]
theorem Ca(rm:Sv): ∀(o:Nat) (l:List (List UInt8)) (x:Sl UInt8),x∈dt rm o l→x.sv.b=rm.b
  |_,[],_,h=>by cases h
  |o,p::r,x,h=>by
   rcases List.mem_cons.1 h with rfl|h
   ·rfl
   ·exact Ca rm _ r x h
theorem Kz(rm:Sv): ∀(o:Nat) (l:List (List UInt8)) (p:List UInt8),dt rm o (l++[p])=dt rm o l++[⟨fL rm (o+l.flatten.length) (o+l.flatten.length+p.length),p⟩]
  |o,[],p=>by simp[dt]
  |o,q::r,p=>by
   rw[List.cons_append,dt,Kz,dt]
   simp only[List.flatten_cons,List.length_append,List.cons_append,Nat.add_assoc]
theorem KA{rm:Sv}{h:Nat→Option Obj}{all:List UInt8}(hl:bQ aN 1 h rm all): ∀(o:Nat) (l:List (List UInt8)),o+l.flatten.length≤all.length→(all.drop o).take l.flatten.length=l.flatten→ ∀x∈dt rm o l,bQ aN 1 h x.sv x.xs
  |_,[],_,_,_,hx=>by cases hx
  |o,p::r,hb,he,x,hx=>by
   rw[List.flatten_cons,List.length_append]at hb
   rw[List.flatten_cons,List.length_append]at he
   have e1:(all.drop o).take p.length=p:=by
      have:=congrArg (List.take p.length) he
      rw[List.take_take,Nat.min_eq_left (by omega),List.take_left']at this
      ·exact this
      ·rfl
   have e2:(all.drop (o+p.length)).take r.flatten.length=r.flatten:=by
      have:=congrArg (List.drop p.length) he
      rw[List.drop_take,List.drop_drop,List.drop_left' rfl,show p.length+r.flatten.length -p.length=r.flatten.length by omega]at this
      exact this
   rcases List.mem_cons.1 hx with rfl|hx
   ·have:=hl.cut (lo:=o) (hi:=o+p.length) (by omega) (by omega)
    rw[Nat.mul_one,show o+p.length -o=p.length by omega,e1]at this
    simpa[fL]using this
   ·exact KA hl (o+p.length) r (by omega) e2 x hx
def w8(a:Sl (Sl UInt8)):ai:=⟨fun k=> ∃x∈a.xs,k=x.sv.b,fun h=>a.xs=[]∨ ∃rm,rm.nil=false∧a.xs=dt rm 0 (aK a.xs)∧(own aN 1 rm (aK a.xs).flatten).sat h,fun h h' e s=>by
  rcases s with s|⟨rm,h1,h2,h3⟩
  ·exact .inl s
  ·rcases List.eq_nil_or_concat a.xs with hx|⟨l,x,hx⟩
   ·exact .inl hx
   ·have hm:x∈a.xs:=by rw[hx];simp
    have hb:x.sv.b=rm.b:=Ca rm 0 _ x (h2▸hm)
    exact .inr ⟨rm,h1,h2,(own aN 1 rm (aK a.xs).flatten).loc h h' (fun k hk=>e k ⟨x,hm,by rw[hb];exact hk.2⟩) h3⟩⟩
def eY(a:Sl (Sl UInt8)):ai:= .two (own (ca (τ:=UInt8)) 1 a.sv a.xs) (w8 a)
theorem S9{a:Sl (Sl UInt8)}{h:Nat→Option Obj}(s:(w8 a).sat h): ∀x∈a.xs,bQ aN 1 h x.sv x.xs:=fun x hx=>by
  rcases s with s|⟨rm,h1,h2,h3⟩
  ·rw[s]at hx;cases hx
  ·refine KA h3.1 0 (aK a.xs) (by omega) (by rw[List.drop_zero,List.take_length]) x (h2▸hx)
theorem zw{α:Type}{enc:α→Array Value}{c:Nat}{s:Sv}{xs:List α}{h:Nat→Option Obj}(hl:bQ enc c h s xs)(hx:xs≠[]):(own enc c s xs).fp s.b:=
  ⟨hl.ok.some (by have:=hl.len;have:=List.length_pos_iff.2 hx;omega),rfl⟩
theorem ai.Cb{k:Nat}: ∀{es:List ai} {e:ai},e∈es→e.fp k→(ai.all es).fp k
  |_::_,_,he,hk=>(List.mem_cons.1 he).elim (fun h=> .inl (h▸hk)) fun h=> .inr (ai.Cb h hk)
theorem KB{α:Type}{e:α}: ∀{L:List α} {i:Nat},L[i]? =Option.some e→L.Perm (e::L.eraseIdx i)
  |[],i,h=>by simp at h
  |x::L,0,h=>by obtain rfl:x=e:=by simpa using h
                simp
  |x::L,i+1,h=>by
   have:=KB (L:=L) (i:=i) (by simpa using h)
   rw[List.eraseIdx_cons_succ]
   exact(this.cons x).trans (.swap _ _ _)
theorem Mem.pick{τ:Type}{f:τ→ai}{w0 w:World}{L:List ai}{xs:List τ}{i:Nat}{x:τ}(hx:xs[i]? =some x):Mem w0 (ai.all (xs.map f)::L) w↔Mem w0 (f x::ai.all ((xs.eraseIdx i).map f)::L) w:=by
  have hp:(xs.map f).Perm (f x::(xs.eraseIdx i).map f):=by
    have:=KB hx
    simpa using this.map f
  rw[Mem.y7]
  have e:Mem w0 (f x::ai.all ((xs.eraseIdx i).map f)::L) w↔Mem w0 (f x::((xs.eraseIdx i).map f++L)) w:=by
    have sw: ∀(a b:ai) (K:List ai),Mem w0 (a::b::K) w↔Mem w0 (b::a::K) w:=fun a b K=>⟨fun h=>h.perm (List.Perm.swap _ _ _),fun h=>h.perm (List.Perm.swap _ _ _)⟩
    rw[sw,Mem.y7]
    exact⟨fun h=>h.perm List.perm_middle,fun h=>h.perm List.perm_middle.symm⟩
  rw[e]
  exact⟨fun h=>h.perm (hp.append_right L),fun h=>h.perm (hp.append_right L).symm⟩
theorem Ta{w0 w:World}{L:List ai}{a:Sl Bk}(h:Mem w0 (own bN 4 a.sv a.xs::ai.all (a.xs.map fun b:Bk=>eY b.pages)::L) w):Mem w0 (fz a::L) w:=by
  have hs:=h.sat (own bN 4 a.sv a.xs) (by simp)
  have ha:=h.sat (ai.all (a.xs.map fun b:Bk=>eY b.pages)) (by simp)
  have hb: ∀x∈a.xs,(eY x.pages).sat fun k=>w.heap[k]? :=fun x hx=>ai.y8 ha _ (List.mem_map_of_mem hx)
  refine Mem.freeze (es:=[own bN 4 a.sv a.xs,ai.all (a.xs.map fun b:Bk=>eY b.pages)]) a ⟨hs.1,fun x hx=>⟨(hb x hx).1.1,fun y hy=>⟨S9 (hb x hx).2.1 y hy,fun _ _=>trivial⟩⟩⟩ (fun k hk=> ?_) h
  rcases hk with⟨bW,rfl⟩|⟨x,hx,hk⟩
  ·exact⟨_,by simp,zw hs.1 bW⟩
  ·refine⟨ai.all (a.xs.map fun b:Bk=>eY b.pages),by simp,ai.Cb (List.mem_map_of_mem hx) ?_⟩
   rcases hk with⟨bW,rfl⟩|⟨y,hy,⟨_,rfl⟩|⟨_,_,hf⟩⟩
   ·exact .inl (zw (hb x hx).1.1 bW)
   ·exact .inr ⟨y,hy,rfl⟩
   ·exact hf.elim
theorem Cc{τ:Type}[Deep τ][r:fK τ][Plain τ]{enc:τ→Array Value}{c:Nat}[f:gg τ enc c](hr: ∀(x:τ) k,¬r.reach x k)(hg: ∀h (x:τ),Deep.bb h x){w0 w:World}{L:List ai}{a:Sl τ}(h:Mem w0 (own enc c a.sv a.xs::L) w):Mem w0 (fz a::L) w:=by
  have hs:=h.sat (own enc c a.sv a.xs) (by simp)
  have e1:Deep.cells (τ:=τ)=enc:=funext (gg.h (c:=c))
  have e2:Deep.c τ=c:=gg.hc (enc:=enc)
  refine Mem.S2 a ⟨by rw[e1,e2];exact hs.1,fun x _=>hg _ x⟩ (fun k hk=> ?_) h
  rcases hk with⟨bW,rfl⟩|⟨x,_,hk⟩
  ·exact zw hs.1 bW
  ·exact(hr x k hk).elim
theorem Cd{w0 w:World}{L:List ai}{d:Cp}(h:Mem w0 (fz d.blocks::fz d.aQ::L) w):Mem w0 (fz d::L) w:=by
  refine Mem.freeze (es:=[fz d.blocks,fz d.aQ]) d ⟨h.sat (fz d.blocks) (by simp),h.sat (fz d.aQ) (by simp)⟩ (fun k hk=> ?_) h
  rcases hk with hk|hk
  ·exact⟨fz d.blocks,by simp,hk⟩
  ·exact⟨fz d.aQ,by simp,hk⟩
theorem KC{w0 w:World}{L:List ai}{a:Sl Ft}(h:Mem w0 (own dn 4 a.sv a.xs::L) w):Mem w0 (fz a::L) w:=Cc (fun _ _ h=>h) (fun _ _=>trivial) h
theorem vp{w0 w:World}{L:List ai}{a:Sl Int}(h:Mem w0 (own bK 1 a.sv a.xs::L) w):Mem w0 (fz a::L) w:=Cc (fun _ _ h=>h) (fun _ _=>trivial) h
theorem Fv{w0 w:World}{L:List ai}{a:Sl UInt8}(h:Mem w0 (own aN 1 a.sv a.xs::L) w):Mem w0 (fz a::L) w:=Cc (fun _ _ h=>h) (fun _ _=>trivial) h
open Go.aA
def cP:Int:=1099511627776
def pC(b p s:Int):Bool:=decide (1≤b)&&decide (b≤32)&&decide (1≤p)&&decide (p≤16)&&decide (1≤s)&&decide (s≤256)
theorem jW{b p s:Int}:pC b p s=true↔1≤b∧b≤32∧1≤p∧p≤16∧1≤s∧s≤256:=by
 simp only[pC,Bool.and_eq_true,decide_eq_true_eq,and_assoc]
def KD(s:Int)(x:List UInt8):Bool:=decide ((x.length:Int)=s)
def mE(p s:Int)(b:BV):Bool:=decide ((b.pages.length:Int)=p)&&decide (0≤b.used)&&decide (b.used≤p)&&decide (0≤b.aT)&&decide (b.aT≤cP)&&b.pages.all (KD s)
theorem dV{p s:Int}{b:BV}:mE p s b=true↔(b.pages.length:Int)=p∧0≤b.used∧b.used≤p∧0≤b.aT∧b.aT≤cP∧ ∀x∈b.pages,(x.length:Int)=s:=by
 simp only[mE,KD,Bool.and_eq_true,decide_eq_true_eq,and_assoc,List.all_eq_true]
def aV(c:CV):Bool:=pC c.blocks.length c.pages c.size&&decide (0≤c.ops)&&decide (c.ops≤cP)&&decide (c.aQ.length≤64)&&c.blocks.all (mE c.pages c.size)
theorem eZ{c:CV}:aV c=true↔pC c.blocks.length c.pages c.size=true∧0≤c.ops∧c.ops≤cP∧c.aQ.length≤64∧ ∀b∈c.blocks,mE c.pages c.size b=true:=by
 simp only[aV,Bool.and_eq_true,decide_eq_true_eq,and_assoc,List.all_eq_true]
def gp(c:CV)(block:Int):Bool:=aV c&&decide (0≤block)&&decide (block<c.blocks.length)
theorem gq{c:CV}{block:Int}:gp c block=true↔aV c=true∧0≤block∧block<c.blocks.length:=by
 simp only[gp,Bool.and_eq_true,decide_eq_true_eq,and_assoc]
def Tb:BV:=⟨[],0,0,false⟩
def aj(c:CV)(block:Int):BV:=c.blocks.getD block.toNat Tb
def gu(n:Int):List UInt8:=List.replicate n.toNat 255
def n7(b p s:Int):CV×Int:=if pC b p s=true then(⟨p,s,List.replicate b.toNat ⟨List.replicate p.toNat (gu s),0,0,false⟩,0,false,[]⟩,0)else(⟨0,0,[],0,false,[]⟩,1)
def br(c:CV):Ft×Bool:=match c.aQ.find? fun f=>decide (f.op=c.ops)with
 |some f=>(f,f.cut||f.fail)
 |none=>(w7,false)
def kF(f:Ft):Int:=if f.cut=true then 7 else 9
def mF(c:CV)(block nk:Int)(p:List UInt8):Bool:=gp c block&&decide (0≤nk)&&decide (nk<c.pages)&&decide ((p.length:Int)=c.size)&&decide (c.ops<cP)
theorem iS{c:CV}{block nk:Int}{p:List UInt8}:mF c block nk p=true↔gp c block=true∧0≤nk∧nk<c.pages∧(p.length:Int)=c.size∧c.ops<cP:=by
 simp only[mF,Bool.and_eq_true,decide_eq_true_eq,and_assoc]
def cX(m:UInt8)(p:List UInt8):List UInt8:=p.map fun x=>x|||m
def mG(c:CV)(p:List UInt8):List UInt8:=if(br c).2=true then cX (~~~(br c).1.mask) p else p
def gG(c:CV)(block nk:Int)(p:List UInt8):CV:=
 {c with ops:=c.ops+1,off:=(br c).2&&(br c).1.cut,blocks:=c.blocks.set block.toNat {aj c block with used:=(aj c block).used+1,pages:=(aj c block).pages.set nk.toNat (mG c p)}}
def jG(c:CV)(block nk:Int)(p:List UInt8):Int:=
 if mF c block nk p=true then(if c.off=true then 7 else if(aj c block).bad=true∨nk≠(aj c block).used then 9 else if(br c).2=true then kF (br c).1 else 0)else 1
def fR(c:CV)(block nk:Int)(p:List UInt8):CV:=
 if mF c block nk p=true∧c.off=false∧(aj c block).bad=false∧nk=(aj c block).used then gG c block nk p else c
def nn(c:CV)(block:Int):Bool:=gp c block&&decide (c.ops<cP)&&decide ((aj c block).aT<cP)
theorem np{c:CV}{block:Int}:nn c block=true↔gp c block=true∧c.ops<cP∧(aj c block).aT<cP:=by
 simp only[nn,Bool.and_eq_true,decide_eq_true_eq,and_assoc]
def pD(c:CV)(ps:List (List UInt8)):List (List UInt8):=if(br c).2=true then ps.map (cX (br c).1.mask)else ps.map fun _=>gu c.size
def jH(c:CV)(block:Int):CV:=
 {c with ops:=c.ops+1,off:=(br c).2&&(br c).1.cut,blocks:=c.blocks.set block.toNat {aj c block with used:=if(br c).2=true then c.pages else 0,aT:=(aj c block).aT+1,pages:=pD c (aj c block).pages}}
def dG(c:CV)(block:Int):Int:=
 if nn c block=true then(if c.off=true then 7 else if(aj c block).bad=true then 9 else if(br c).2=true then kF (br c).1 else 0)else 1
def fE(c:CV)(block:Int):CV:=if nn c block=true∧c.off=false∧(aj c block).bad=false then jH c block else c
def nq(c:CV)(block:Int):Int:=if gp c block=true then(if c.off=true then 7 else 0)else 1
def kG(c:CV)(block:Int):CV:=if nq c block=0 then{c with blocks:=c.blocks.set block.toNat {aj c block with bad:=true}}else c
def sF(c:CV)(fs:List Ft):Int:=if aV c=true∧fs.length≤64 then 0 else 1
def w9(c:CV)(fs:List Ft):CV:=if sF c fs=0 then{c with off:=false,aQ:=fs}else c
theorem Ce{c:CV}{block:Int}(h:gp c block=true):c.blocks[block.toNat]? =some (aj c block):=by
 obtain⟨_,h2,h3⟩:=gq.1 h
 exact oD (by omega)
theorem n8{c:CV}{block:Int}(h:gp c block=true):mE c.pages c.size (aj c block)=true:=
 (eZ.1 (gq.1 h).1).2.2.2.2 _ (List.mem_of_getElem? (Ce h))
end Go.Kb
namespace Go.aA
open Go.RowKit
section
variable {α:Type} {enc:α→Array Value} {c:Nat}
theorem Tc{P:Program}{t tx ty e:TypeId}{cL:Nat}(ht:fo P t e c cL)[he:bD enc c]{w0 w:World}{L:List ai}{i:Nat}{s:Sv}{xs ys:List α}{x:Value}
  (hw:Mem w0 L w) (hi:L[i]? =some (own enc c s xs)) (hs:Src P c tx x ys.length (aL enc ys) w) (hn:s.nil=false) (nT:s.len+ys.length≤s.cap) (jc:s.len+ys.length≤140737488355328):
  ∃w',(Builtin.append_ #[t,tx] ty #[s.val,x]).run P w= .ok (Sv.val {s with len:=s.len+ys.length}) w'∧Mem w0 (L.set i (own enc c {s with len:=s.len+ys.length} (xs++ys))) w':=by
 obtain⟨r,nc⟩:=hw.get hi
 obtain⟨i',z,bj,aH,bG,di,mu⟩:=ht.info
 subst bG di
 have hlen:=r.len
 have hle:=r.ok.le
 obtain⟨gE,cs,T,fz,eW,fh,lT,mw⟩:=nc hn
 have hmul:(s.len+ys.length)*i'.size≤s.cap*i'.size:=Nat.mul_le_mul_right _ nT
 have eA:(aL enc ys).length=ys.length*i'.size:=hK ys
 have jb:s.o+s.len*i'.size+(aL enc ys).toArray.size≤cs.size:=by
  rw[List.size_toArray,eA];rw[Nat.add_mul]at hmul;omega
 have bB:=yZ (P:=P) s.b (s.o+s.len*i'.size) T fz (aL enc ys) 0 cs w eW lT (by simpa using jb) hs.one
 have y0:(storeCells ⟨s.b,s.o+s.len*i'.size,none⟩ (aL enc ys)).run P w= .ok () (w.setRow s.b (cW cs (s.o+s.len*i'.size) (aL enc ys).toArray)):=by
  simpa[cW]using bB
 refine⟨w.setRow s.b (cW cs (s.o+s.len*i'.size) (aL enc ys).toArray),?_,?_⟩
 ·
  have kU:({s with len:=s.len+ys.length}:Sv).val= .slice (some ⟨s.b,s.o,s.sp⟩) (s.len+ys.length) s.cap:=Sv.iu (s:={s with len:=s.len+ys.length}) hn
  rw[Sv.iu hn,kU,gE]
  rcases hs.kind with⟨e',hk⟩|hk<;>simp[Builtin.append_,run_underlying ht.eI,run_underlying hk,sizeOf,typeInfo,bj,hs.len,nT,hs.cells,Addr.gC,y0]
 ·
  have nf:hp (w.setRow s.b (cW cs (s.o+s.len*i'.size) (aL enc ys).toArray)) s.b=some (.cells (cW cs (s.o+s.len*i'.size) (aL enc ys).toArray) T fz):=setRow_heap w s.b cs _ T fz eW
  refine hw.change hi (fun k hk=>hk) (fun k hk=> ?_) (by simp[World.setRow]) ⟨rfl,rfl,rfl⟩ ⟨tw ⟨(fun h=>by rw[hn]at h;cases h),nT,by simp only;omega,r.ok.sp⟩ (by simp[hlen]) nf fun k y hy j hj=> ?_,fun _=>⟨gE,_,_,_,nf,?_,by rw[m9 jb];exact lT,mw⟩⟩
  ·
   exact setRow_other w s.b k _ (fun e=>hk ⟨hn,e⟩)
  ·
   rw[uX jb]
   by_cases hk:k<xs.length
   ·
    rw[if_neg,←r.row k y (by rw[List.getElem?_append_left hk]at hy;exact hy) j hj]
    ·
     unfold m7;rw[eW]
    ·
     have:(k+1)*i'.size≤s.len*i'.size:=Nat.mul_le_mul_right _ (by omega)
     rw[Nat.add_mul]at this
     intro h;have:=h.1;simp only at this;omega
   ·
    rw[List.getElem?_append_right (by omega)]at hy
    have uZ:=na (enc:=enc) ys (k -xs.length) y hy j hj
    have oC:s.len*i'.size+(k -xs.length)*i'.size=k*i'.size:=by rw[←Nat.add_mul];congr 1;omega
    have bu:(k -xs.length+1)*i'.size≤ys.length*i'.size:=Nat.mul_le_mul_right _ (by have:=(List.getElem?_eq_some_iff.1 hy).1;omega)
    rw[Nat.add_mul]at bu
    rw[if_pos ⟨by simp only;omega,by rw[List.size_toArray,eA];simp only;omega⟩,←uZ]
    simp only[List.getElem?_toArray]
    congr 1;omega
  ·
   rw[m9 jb];exact fh
theorem Td{P:Program}{w0 w:World}{L:List ai}{i:Nat}{s:Sv}{xs ys:List α}[he:bD enc c]{k:Nat}(hw:Mem w0 L w)(hi:L[i]? =some (own enc c s xs))(hn:s.nil=false)(hk:k+ys.length≤xs.length):
  ∃w',(storeCells ⟨s.b,s.o+k*c,none⟩ (aL enc ys)).run P w= .ok () w'∧Mem w0 (L.set i (own enc c s (xs.take k++(ys++xs.drop (k+ys.length))))) w':=by
 obtain⟨r,nc⟩:=hw.get hi
 have hlen:=r.len
 have hle:=r.ok.le
 obtain⟨gE,cs,T,fz,eW,fh,lT,mw⟩:=nc hn
 have hmul:(k+ys.length)*c≤s.cap*c:=Nat.mul_le_mul_right _ (by omega)
 have eA:(aL enc ys).length=ys.length*c:=hK ys
 have jb:s.o+k*c+(aL enc ys).toArray.size≤cs.size:=by
  rw[List.size_toArray,eA];rw[Nat.add_mul]at hmul;omega
 have rp: ∀v∈aL enc ys,v.oneCell'=true:=tv ys
 have bB:=yZ (P:=P) s.b (s.o+k*c) T fz (aL enc ys) 0 cs w eW lT (by simpa using jb) rp
 have y0:(storeCells ⟨s.b,s.o+k*c,none⟩ (aL enc ys)).run P w= .ok () (w.setRow s.b (cW cs (s.o+k*c) (aL enc ys).toArray)):=by
  simpa[cW]using bB
 refine⟨_,y0,?_⟩
 have nf:hp (w.setRow s.b (cW cs (s.o+k*c) (aL enc ys).toArray)) s.b=some (.cells (cW cs (s.o+k*c) (aL enc ys).toArray) T fz):=setRow_heap w s.b cs _ T fz eW
 have lZ:(xs.take k++(ys++xs.drop (k+ys.length))).length=xs.length:=by simp only[List.length_append,List.length_take,List.length_drop];omega
 refine hw.change hi (fun k hk=>hk) (fun k hk=> ?_) (by simp[World.setRow]) ⟨rfl,rfl,rfl⟩ ⟨tw r.ok (by rw[lZ];exact hlen) nf fun m y hy j hj=> ?_,fun _=>⟨gE,_,_,_,nf,?_,by rw[m9 jb];exact lT,mw⟩⟩
 ·
  exact setRow_other w s.b k _ (fun e=>hk ⟨hn,e⟩)
 ·
  rw[uX jb]
  rcases Nat.lt_or_ge m k with h1|h1
  ·
   have zx:xs[m]? =some y:=by
    rw[List.getElem?_append_left (by rw[List.length_take];omega),List.getElem?_take,if_pos h1]at hy;exact hy
   rw[if_neg,←r.row m y zx j hj]
   ·
    unfold m7;rw[eW]
   ·
    have:(m+1)*c≤k*c:=Nat.mul_le_mul_right _ (by omega)
    rw[Nat.add_mul]at this
    intro h;have:=h.1;omega
  ·
   rcases Nat.lt_or_ge m (k+ys.length)with h2|h2
   ·
    have zx:ys[m -k]? =some y:=by
     rw[List.getElem?_append_right (by rw[List.length_take];omega),List.length_take,Nat.min_eq_left (by omega),List.getElem?_append_left (by omega)]at hy;exact hy
    have uZ:=na (enc:=enc) ys (m -k) y zx j hj
    have oC:k*c+(m -k)*c=m*c:=by rw[←Nat.add_mul];congr 1;omega
    have bu:(m -k+1)*c≤ys.length*c:=Nat.mul_le_mul_right _ (by omega)
    rw[Nat.add_mul]at bu
    rw[if_pos ⟨by omega,by rw[List.size_toArray,eA];omega⟩,←uZ]
    simp only[List.getElem?_toArray]
    congr 1;omega
   ·
    have zx:xs[m]? =some y:=by
     rw[List.getElem?_append_right (by rw[List.length_take];omega),List.length_take,Nat.min_eq_left (by omega),List.getElem?_append_right (by omega),List.getElem?_drop]at hy
     rw[←hy];congr 1;omega
    rw[if_neg,←r.row m y zx j hj]
    ·
     unfold m7;rw[eW]
    ·
     have:(k+ys.length)*c≤m*c:=Nat.mul_le_mul_right _ h2
     rw[Nat.add_mul]at this
     intro h;have:=h.2;rw[List.size_toArray,eA]at this;omega
 ·
  rw[m9 jb];exact fh
end
section
variable {P:Program} {N:cG} {w0:World} {env:Env} {L:List ai} {l:List Oper} {Q:Exit→Act→World→Prop} {rest:List Oper} {d:Option Tmp} {ty:TypeId} {ps:String} {af:Array Edge} {gd:Option (Nat×Bool)} {K:Value→List ai→Prop}
variable {α:Type} {enc:α→Array Value} {c:Nat} {s:Sv} {xs ys:List α}
theorem Te{t tx e:TypeId}{x y:Operand}{yv:Value}{cL i:Nat}[ht:fo P t e c cL][he:bD enc c](hx:ev env x=some s.val)(hy:ev env y=some yv)[q:fJ L s enc c xs i]
  (hs: ∀w,Mem w0 L w→Src P c tx yv ys.length (aL enc ys) w) (hn:s.nil=false) (nT:s.len+ys.length≤s.cap) (jc:s.len+ys.length≤140737488355328) {L':List ai} [hu:fD L i (own enc c {s with len:=s.len+ys.length} (xs++ys)) L']
  (hk:K (Sv.val {s with len:=s.len+ys.length}) L'):
  iw P N w0 env L ⟨d, .call {callee:= .builtin .append,args:= #[x,y],argTypes:= #[t,tx]},ty,ps,af,gd⟩ K:=
 tG fun a w ha hw=>by
  obtain⟨w',h1,h4⟩:=Tc (ty:=ty) ht hw q.h (hs w hw) hn nT jc
  refine⟨_,w',L',?_,by rw[←hu.h];exact h4,hk⟩
  simp[execOp,ha.ev hx,ha.ev hy,resolve,invoke,builtin,h1,Result.andThen]
theorem Tf{t tx e:TypeId}{x y:Operand}{yv:Value}{cL i:Nat}[ht:fo P t e c cL][he:bD enc c](hx:ev env x=some s.val)(hy:ev env y=some yv)[q:fJ L s enc c xs i]
  (hs: ∀w,Mem w0 L w→Src P c tx yv ys.length (aL enc ys) w) (hn:s.nil=false) (nT:s.len+ys.length≤s.cap) (jc:s.len+ys.length≤140737488355328) {L':List ai} [hu:fD L i (own enc c {s with len:=s.len+ys.length} (xs++ys)) L']
  (hk:Sq P N w0 l Q rest (cD env d (Sv.val {s with len:=s.len+ys.length})) L') (hd:dr N d=true:=by rfl):
  Sq P N w0 l Q (⟨d, .call {callee:= .builtin .append,args:= #[x,y],argTypes:= #[t,tx]},ty,ps,af,none⟩::rest) env L:=
 Kh rfl hd (Te hx hy hs hn nT jc hk)
theorem KE{D S rm:Sv}{x y:Operand}{tx fZ e:TypeId}{i k:Nat}{ys:List α}[he:bD enc c](hx:ev env x=some D.val)(lX:D.nil=false)(ni:D.sp=none)(oL:D.b=rm.b)(qt:D.o=rm.o+k*c)(hy:ev env y=some S.val)[ht:fj P tx e c][q:fJ L rm enc c xs i][hS:Hd w0 L S enc c ys](hc:0<c)(hn:rm.nil=false)(h0:0<ys.length)(hl:ys.length≤D.len)(jT:k+ys.length≤xs.length)
  {L':List ai} [hu:fD L i (own enc c rm (xs.take k++(ys++xs.drop (k+ys.length)))) L'] (hk:K (.int .i64 ys.length) L'):
  iw P N w0 env L ⟨d, .call {callee:= .builtin .copy,args:= #[x,y],argTypes:= #[tx,fZ]},ty,ps,af,gd⟩ K:=
 tG fun a w ha hw=>by
  have hs:=hS.h w hw
  have zt:=hs.some h0
  have py:=hs.len
  have zu:=hs.ok.sp (by have:=hs.ok.le;omega)
  rw[Sv.iu lX,ni,oL,qt]at hx
  rw[Sv.iu zt,zu]at hy
  obtain⟨w',h1,h2⟩:=Td (P:=P) hw q.h hn jT
  rw[hu.h]at h2
  refine⟨_,w',L',?_,h2,hk⟩
  have xd:=run_loadCells_list (P:=P) w ⟨S.b,S.o,none⟩ (aL enc ys) (fun j v hj=>by
   obtain⟨z,hz,hv⟩:=By hc hj
   rw[Addr.gC,rf,←hv,←hs.row _ z hz (j%c) (Nat.mod_lt _ hc)]
   congr 1
   have:=Nat.div_add_mod j c
   rw[Nat.mul_comm]at this;omega)
  rw[hK]at xd
  cases hq:P.info? e with
  |none=>have:=ht.size;simp[hq]at this
  |some i'=>
   have hi:i'.size=c:=by have:=ht.size;simpa[hq]using this
   have yL:Nat.min S.len D.len=ys.length:=by rw[py];exact Nat.min_eq_left hl
   have fX:(Builtin.copy_ #[tx,fZ] ty #[.slice (some ⟨rm.b,rm.o+k*c,none⟩) D.len D.cap, .slice (some ⟨S.b,S.o,none⟩) S.len S.cap]).run P w= .ok (goInt ys.length) w':=by
    simp[Builtin.copy_,run_underlying ht.eI,Builtin.lenOf,Builtin.firstCells,sizeOf,typeInfo,hq,hi,yL,xd,h1]
   simp[execOp,ha.ev hx,ha.ev hy,resolve,invoke,builtin,fX,Result.andThen,goInt]
theorem Tg{D S rm:Sv}{x y:Operand}{tx fZ e:TypeId}{i k:Nat}{ys:List α}[he:bD enc c](hx:ev env x=some D.val)(lX:D.nil=false)(ni:D.sp=none)(oL:D.b=rm.b)(qt:D.o=rm.o+k*c)(hy:ev env y=some S.val)[ht:fj P tx e c][q:fJ L rm enc c xs i][hS:Hd w0 L S enc c ys](hc:0<c)(hn:rm.nil=false)(h0:0<ys.length)(hl:ys.length≤D.len)(jT:k+ys.length≤xs.length)
  {L':List ai} [hu:fD L i (own enc c rm (xs.take k++(ys++xs.drop (k+ys.length)))) L'] (hk:Sq P N w0 l Q rest (cD env d (.int .i64 ys.length)) L') (hd:dr N d=true:=by rfl):
  Sq P N w0 l Q (⟨d, .call {callee:= .builtin .copy,args:= #[x,y],argTypes:= #[tx,fZ]},ty,ps,af,none⟩::rest) env L:=
 Kh rfl hd (KE hx lX ni oL qt hy hc hn h0 hl jT hk)
end
theorem Mem.xe{w0 w:World}{L:List ai}{e:ai}{es:List ai}(h:Mem w0 (e::ai.all es::L) w):Mem w0 (ai.all (es++[e])::L) w:=by
 have h1:Mem w0 (ai.all (e::es)::L) w:=Mem.S3 h
 rw[Mem.y7]at h1⊢
 exact h1.perm ((List.perm_append_singleton e es).symm.append_right L)
theorem Mem.Cf{w0 w:World}{L:List ai}{e e':ai}(hf: ∀k,e'.fp k→e.fp k)(hs:(e.sat fun k=>w.heap[k]?)→e'.sat fun k=>w.heap[k]?)(h:Mem w0 (e::L) w):Mem w0 (e'::L) w:=by
 have hd:=List.pairwise_cons.1 h.nQ
 refine⟨h.below,fun x he=> ?_,fun x he k hk=> ?_,List.pairwise_cons.2 ⟨fun y hy k hk=>hd.1 y hy k (hf k hk),hd.2⟩⟩
 ·
  rcases List.mem_cons.1 he with rfl|he
  ·
   exact hs (h.sat e (by simp))
  ·
   exact h.sat x (by simp[he])
 ·
  rcases List.mem_cons.1 he with rfl|he
  ·
   exact h.jz e (by simp) k (hf k hk)
  ·
   exact h.jz x (by simp[he]) k hk
end Go.aA
namespace Go.Kb
open Go.aA
theorem KF{w0 w:World}{L:List ai}{s rm:Sv}{l:List (List UInt8)}{xs:List (Sl UInt8)}(hx:xs=dt rm 0 l)(hn:rm.nil=false)(h:Mem w0 (own (ca (τ:=UInt8)) 1 s xs::own aN 1 rm l.flatten::L) w):Mem w0 (eY ⟨s,xs⟩::L) w:=by
 have ht:aK xs=l:=by rw[hx,tK]
 have h1:=h.perm (List.Perm.swap _ _ _)
 have h2:Mem w0 (w8 ⟨s,xs⟩::own (ca (τ:=UInt8)) 1 s xs::L) w:=Mem.Cf (fun k hk=>by
  obtain⟨x,zn,rfl⟩:=hk
  exact⟨hn,Ca rm 0 l x (hx▸zn)⟩) (fun hs=> .inr ⟨rm,hn,by simp only[ht];exact hx,by simp only[ht];exact hs⟩) h1
 exact Mem.wL.2 (h2.perm (List.Perm.swap _ _ _))
theorem Th{w0 w:World}{L:List ai}{s:Sv}(h:Mem w0 (own (ca (τ:=UInt8)) 1 s []::L) w):Mem w0 (eY ⟨s,[]⟩::L) w:=by
 refine Mem.wL.2 (Mem.perm (Mem.Cf (e:= .emp) (e':=w8 ⟨s,[]⟩) (fun k hk=> ?_) (fun _=> .inl rfl) (Mem.y6.2 h)) (List.Perm.swap _ _ _))
 obtain⟨x,hx,_⟩:=hk
 cases hx
theorem Ti{w0 w:World}{L:List ai}{a:Sl (Sl UInt8)}(bW:a.xs≠[])(h:Mem w0 (eY a::L) w): ∃rm:Sv,(rm.nil=false∧rm.sp=none∧a.xs=dt rm 0 (aK a.xs))∧Mem w0 (own (ca (τ:=UInt8)) 1 a.sv a.xs::own aN 1 rm (aK a.xs).flatten::L) w:=by
 have h1:=Mem.wL.1 h
 have hr:=h1.sat (w8 a) (by simp)
 rcases hr with hr|⟨rm,g1,g2,g3⟩
 ·
  exact absurd hr bW
 ·
  refine⟨rm,⟨g1,(g3.2 g1).1,g2⟩,?_⟩
  have h2:=h1.perm (List.Perm.swap _ _ _)
  obtain⟨x,l,Cg⟩:=List.exists_cons_of_ne_nil bW
  have hm:x∈a.xs:=by rw[Cg];simp
  have hb:x.sv.b=rm.b:=Ca rm 0 _ x (g2▸hm)
  exact(Mem.Cf (e:=w8 a) (e':=own aN 1 rm (aK a.xs).flatten) (fun k hk=>⟨x,hm,by rw[hb];exact hk.2⟩) (fun _=>g3) h2).perm (List.Perm.swap _ _ _)
theorem Ci: ∀{l:List (List UInt8)} {i:Nat} {q r:List UInt8},l[i]? =some q→r.length=q.length→(l.set i r).flatten=l.flatten.take (l.take i).flatten.length++(r++l.flatten.drop ((l.take i).flatten.length+r.length))
 |y::l,0,q,r,h,hr=>by
  obtain rfl:y=q:=by simpa using h
  simp[hr]
 |y::l,i+1,q,r,h,hr=>by
  have:=Ci (l:=l) (i:=i) (q:=q) (r:=r) (by simpa using h) hr
  simp only[List.set_cons_succ,List.flatten_cons,this,List.take_succ_cons,List.length_append]
  rw[List.take_length_add_append,Nat.add_assoc,List.drop_length_add_append,List.append_assoc]
theorem Cj{rm:Sv}: ∀{o:Nat} {l:List (List UInt8)} {i:Nat} {q:List UInt8},l[i]? =some q→(dt rm o l)[i]? =some ⟨fL rm (o+(l.take i).flatten.length) (o+(l.take i).flatten.length+q.length),q⟩
 |o,y::l,0,q,h=>by
  obtain rfl:y=q:=by simpa using h
  simp[dt]
 |o,y::l,i+1,q,h=>by
  have:=Cj (rm:=rm) (o:=o+y.length) (l:=l) (i:=i) (q:=q) (by simpa using h)
  simp only[dt,List.getElem?_cons_succ,this,List.take_succ_cons,List.flatten_cons,List.length_append,Nat.add_assoc]
def Fw(l:List (List UInt8)):Prop:=l.length≤1000000∧l.flatten.length≤1000000
theorem zy{l:List (List UInt8)}{i:Nat}{q:List UInt8}(h:l[i]? =some q):(l.take (i+1)).flatten.length=(l.take i).flatten.length+q.length:=by
 rw[List.take_add_one,h];simp
theorem zA(l:List (List UInt8))(i:Nat):(l.take i).flatten.length≤l.flatten.length:=by
 have:l.flatten=(l.take i).flatten++(l.drop i).flatten:=by rw[←List.flatten_append,List.take_append_drop]
 rw[this,List.length_append];omega
theorem Tj{rm:Sv}{l:List (List UInt8)}{n i:Nat}{r q:List UInt8}(hn:n=l.length)(hr:r=(l.take i).flatten)(h:l[i]? =some q):(dt rm 0 (l.take i)++List.replicate (n -i) (⟨Sv.none,[]⟩:Sl UInt8)).set i ⟨fL rm r.length (r.length+q.length),q⟩=dt rm 0 (l.take (i+1))++List.replicate (n -(i+1)) (⟨Sv.none,[]⟩:Sl UInt8):=by
 have hi:=(List.getElem?_eq_some_iff.1 h).1
 have hl:(dt rm 0 (l.take i)).length=i:=by rw[Fu,List.length_take];omega
 rw[List.set_append_right _ _ (by omega),hl,Nat.sub_self,List.take_add_one,h,show n -i=n -(i+1)+1 by omega,List.replicate_succ,List.set_cons_zero]
 simp only[Option.toList_some]
 rw[Kz,hr,Nat.zero_add,List.append_assoc,List.singleton_append]
theorem nr{w0 w:World}{L:List ai}(d:Cp)(h:Mem w0 (own bN 4 d.blocks.sv d.blocks.xs::ai.all (d.blocks.xs.map fun b:Bk=>eY b.pages)::own dn 4 d.aQ.sv d.aQ.xs::L) w):Mem w0 (fz d::L) w:=
 Cd ((KC (a:=d.aQ) ((Ta h).perm (List.Perm.swap _ _ _))).perm (List.Perm.swap _ _ _))
theorem Fx{α:Type}{enc:α→Array Value}{c:Nat}{s:Sv}{xs ys:List α}{w0 w:World}{L:List ai}(e:xs.map enc=ys.map enc)(h:Mem w0 (own enc c s xs::L) w):Mem w0 (own enc c s ys::L) w:=
 Mem.Cf (e:=own enc c s xs) (fun _ hk=>hk) (fun hs=>⟨⟨hs.1.ok,by have:=congrArg List.length e;simp only[List.length_map]at this;rw[←this];exact hs.1.len,fun i y hy j hj=>by
  have h1:(xs.map enc)[i]? =(ys.map enc)[i]? :=by rw[e]
  rw[List.getElem?_map,List.getElem?_map,hy]at h1
  cases hx:xs[i]?with
  |none=>rw[hx]at h1;cases h1
  |some x=>
   rw[hx]at h1
   have h2:enc x=enc y:=by simpa using h1
   have:=hs.1.row i x hx j hj
   rw[h2]at this
   exact this⟩,hs.2⟩) h
theorem Ck{w0 w:World}{L:List ai}{s sp rm:Sv}{xs:List Bk}{i:Nat}{B B':Bk}{ps:List (Sl UInt8)}{l:List (List UInt8)}(hi:i<xs.length)(hp:ps.map (fun x=>x.sv)=(dt rm 0 l).map (fun x=>x.sv))(hn:rm.nil=false)(hc:bN B=bN B')(hB:B'.pages=⟨sp,dt rm 0 l⟩)
  (h:Mem w0 (own (ca (τ:=UInt8)) 1 sp ps::own aN 1 rm l.flatten::own bN 4 s (xs.set i B)::ai.all ((xs.eraseIdx i).map fun b:Bk=>eY b.pages)::L) w):Mem w0 (own bN 4 s (xs.set i B')::ai.all ((xs.set i B').map fun b:Bk=>eY b.pages)::L) w:=by
 have h1:Mem w0 (own (ca (τ:=UInt8)) 1 sp (dt rm 0 l)::own aN 1 rm l.flatten::own bN 4 s (xs.set i B)::ai.all ((xs.eraseIdx i).map fun b:Bk=>eY b.pages)::L) w:=Fx (by
  have:=congrArg (List.map fun v:Sv=>(#[v.val]:Array Value)) hp
  rw[List.map_map,List.map_map]at this
  exact this) h
 have h2:=KF (xs:=dt rm 0 l) rfl hn h1
 rw[←hB]at h2
 have h3:=Fx (ys:=xs.set i B') (by rw[List.map_set,List.map_set,hc]) (h2.perm (List.Perm.swap _ _ _))
 have h4:Mem w0 (eY B'.pages::ai.all (((xs.set i B').eraseIdx i).map fun b:Bk=>eY b.pages)::own bN 4 s (xs.set i B')::L) w:=by
  rw[List.eraseIdx_set_eq]
  exact h3.perm ((List.Perm.swap _ _ _).trans (List.Perm.cons _ (List.Perm.swap _ _ _)))
 have h5:=(Mem.pick (f:=fun b:Bk=>eY b.pages) (xs:=xs.set i B') (i:=i) (x:=B') (by rw[List.getElem?_set_self hi])).2 h4
 exact h5.perm (List.Perm.swap _ _ _)
theorem KG{w0 w:World}{L:List ai}{s:Sv}{xs:List Bk}{i:Nat}{B:Bk}(hB:xs[i]? =some B)(bW:B.pages.xs≠[])(h:Mem w0 (own bN 4 s xs::ai.all (xs.map fun b:Bk=>eY b.pages)::L) w):
  ∃rm:Sv,(rm.nil=false∧rm.sp=none∧B.pages.xs=dt rm 0 (aK B.pages.xs))∧Mem w0 (own (ca (τ:=UInt8)) 1 B.pages.sv B.pages.xs::own aN 1 rm (aK B.pages.xs).flatten::own bN 4 s xs::ai.all ((xs.eraseIdx i).map fun b:Bk=>eY b.pages)::L) w:=by
 have h1:=(Mem.pick (f:=fun b:Bk=>eY b.pages) hB).1 (h.perm (List.Perm.swap _ _ _))
 obtain⟨rm,hr,h2⟩:=Ti bW h1
 refine⟨rm,hr,h2.perm (List.Perm.cons _ (List.Perm.cons _ (List.Perm.swap _ _ _)))⟩
end Go.Kb
namespace Go.aA
section
variable {P:Program} {N:cG} {w0:World} {env:Env} {L:List ai} {d:Option Tmp} {ty:TypeId} {ps:String} {af:Array Edge} {gd:Option (Nat×Bool)} {x y:Operand} {t u:TypeId}
theorem KH{a b:UInt8}(hx:ev env x=some (.int .u8 a.toNat))(hy:ev env y=some (.int .u8 b.toNat)):
  Ry P N w0 env L ⟨d, .binOp .or t x y u,ty,ps,af,gd⟩ (.int .u8 (a|||b).toNat):=by
 have ha:=a.toNat_lt;have hb:=b.toNat_lt
 rw[UInt8.toNat_or]
 exact Bq hx hy rfl rfl (by simp only[nb];omega) (by simp only[nb];omega)
theorem Tk: ∀n,n<256→(255^^^n:Nat)=255 -n:=by decide+kernel
theorem Tl{p q:Nat}(hp:p<2^nb .u8)(hq:q<2^nb .u8):Op.intBits .xor .u8 (p:Int) (q:Int)=(pure (.int .u8 ((p^^^q:Nat):Int)):Sem Value):=by
 simp only[Op.intBits,wz,BitVec.toNat_xor,BitVec.toNat_ofNat,Nat.mod_eq_of_lt (po hp),Nat.mod_eq_of_lt (po hq)]
 rw[pn (Nat.xor_lt_two_pow hp hq)]
theorem Tm{a:UInt8}(hx:ev env x=some (.int .u8 a.toNat)):
  Ry P N w0 env L ⟨d, .unOp .xor t x,ty,ps,af,gd⟩ (.int .u8 (~~~a).toNat):=fun aa w ha _=>by
 have e:(Op.intBits .xor .u8 255 (a.toNat:Int))=(pure (.int .u8 ((~~~a).toNat:Int)):Sem Value):=by
  have h3:=a.toNat_lt
  have h4:(~~~a).toNat=255 -a.toNat:=UInt8.toNat_not a
  have h5:(255^^^a.toNat:Nat)=255 -a.toNat:=Tk a.toNat h3
  have hp:(255:Nat)<2^nb .u8:=by decide
  have hq:a.toNat<2^nb .u8:=h3
  have hx:=Tl hp hq
  rw[h5]at hx
  rw[h4]
  exact hx
 simp only[execOp,ha.ev hx,Op.unary,Sem.run_bind,Result.andThen]
 rw[show(if IntKind.u8.signed=true then(-1:Int)else IntKind.u8.max)=255 by decide,e]
 rfl
end
open Go.RowKit
section
variable {P:Program} {N:cG} {w0:World} {env:Env} {L:List ai} {l:List Oper} {Q:Exit→Act→World→Prop} {rest:List Oper} {d:Option Tmp} {ty:TypeId} {ps:String} {af:Array Edge} {gd:Option (Nat×Bool)} {K:Value→List ai→Prop}
variable {α:Type} {enc:α→Array Value} {c:Nat}
theorem Tn{β:Type}{l:List β}{i:Nat}{z:β}(h:l[i]? =some z):l.set i z=l:=by
 obtain⟨hi,rfl⟩:=List.getElem?_eq_some_iff.1 h
 exact List.set_getElem_self hi
theorem To{D S:Sv}{x y:Operand}{tx fZ e:TypeId}(hx:ev env x=some D.val)(hy:ev env y=some S.val)[ht:fj P tx e c][hS:Hd w0 L S enc c []](hk:K (.int .i64 0) L):
  iw P N w0 env L ⟨d, .call {callee:= .builtin .copy,args:= #[x,y],argTypes:= #[tx,fZ]},ty,ps,af,gd⟩ K:=
 tG fun a w ha hw=>by
  have hs:=hS.h w hw
  have py:S.len=0:=hs.len
  obtain⟨ad,len,cap,e1⟩:=S.ex
  have el:len=S.len:=by
   cases hn:S.nil with
   |true=>rw[Sv.re hn]at e1;have:=hs.ok.nil hn;cases e1;omega
   |false=>rw[Sv.iu hn]at e1;cases e1;rfl
  obtain⟨KI,Tp,Tq,e2⟩:=D.ex
  refine⟨_,w,L,?_,hw,hk⟩
  cases hq:P.info? e with
  |none=>have:=ht.size;simp[hq]at this
  |some i'=>
   rw[e1]at hy
   rw[e2]at hx
   have ly:len=0:=by omega
   have fX:(Builtin.copy_ #[tx,fZ] ty #[.slice KI Tp Tq, .slice ad len cap]).run P w= .ok (goInt 0) w:=by
    have xd: ∀v:Addr,(loadCells v 0).run P w= .ok #[] w:=fun v=>by
     have:=run_loadCells_list (P:=P) w v [] (fun j v hj=>by simp at hj)
     simpa using this
    have bB: ∀v:Addr,(storeCells v []).run P w= .ok () w:=fun v=>rfl
    cases KI<;>cases ad<;>simp[Builtin.copy_,run_underlying ht.eI,Builtin.lenOf,Builtin.firstCells,sizeOf,typeInfo,hq,ly,xd,bB]
   simp[execOp,ha.ev hx,ha.ev hy,resolve,invoke,builtin,fX,Result.andThen,goInt]
theorem Fy{D S rm:Sv}{x y:Operand}{tx fZ e:TypeId}{i k:Nat}{xs ys:List α}[he:bD enc c](hx:ev env x=some D.val)(lX:D.nil=false)(ni:D.sp=none)(oL:D.b=rm.b)(qt:D.o=rm.o+k*c)(hy:ev env y=some S.val)[ht:fj P tx e c][q:fJ L rm enc c xs i][hS:Hd w0 L S enc c ys](hc:0<c)(hn:rm.nil=false)(hl:ys.length≤D.len)(jT:k+ys.length≤xs.length)
  {L':List ai} [hu:fD L i (own enc c rm (xs.take k++(ys++xs.drop (k+ys.length)))) L'] (hk:K (.int .i64 ys.length) L'):
  iw P N w0 env L ⟨d, .call {callee:= .builtin .copy,args:= #[x,y],argTypes:= #[tx,fZ]},ty,ps,af,gd⟩ K:=by
 by_cases h0:ys=[]
 ·
  subst h0
  have e1:xs.take k++([]++xs.drop (k+([]:List α).length))=xs:=by simp
  have e2:L'=L:=by
   rw[←hu.h,e1]
   exact Tn q.h
  exact To (c:=c) (enc:=enc) hx hy (by rw[e2]at hk;exact hk)
 ·
  exact KE hx lX ni oL qt hy hc hn (List.length_pos_iff.2 h0) hl jT hk
end
end Go.aA
namespace Go.Kb
open Go.aA
def dW(c:Cp):Prop:=c.blocks.xs.length≤1000000∧c.aQ.xs.length≤1000000∧ ∀b∈c.blocks.xs,Fw (aK b.pages.xs)
theorem tL{α:Type}{l:List α}{i:Nat}{z:α}(h:l[i]? =some z):l.set i z=l:=by
 obtain⟨hi,rfl⟩:=List.getElem?_eq_some_iff.1 h
 exact List.set_getElem_self hi
theorem vq(l:List Bk)(i:Nat)(b:Bk):gF (l.set i b)=(gF l).set i (bv b):=by simp[gF,List.map_set]
theorem Ts{zs:List Bk}{i:Nat}{z z':Bk}(h:zs[i]? =some z):((zs.take i).map fun b:Bk=>eY b.pages)++[eY z'.pages]=((zs.set i z').take (i+1)).map fun b:Bk=>eY b.pages:=by
 have hi:=(List.getElem?_eq_some_iff.1 h).1
 rw[List.take_add_one,List.getElem?_set_self hi,List.take_set_of_le (Nat.le_refl _),List.map_append]
 rfl
theorem Tt{c:CV}(h: ∀f∈c.aQ,f.op≠c.ops):br c=(w7,false):=by
 have:c.aQ.find? (fun f=>decide (f.op=c.ops))=none:=List.find?_eq_none.2 fun f hf=>by simpa using h f hf
 rw[br,this]
theorem Tu{c:CV}{i:Nat}{f:Ft}(hf:c.aQ[i]? =some f)(h: ∀j g,j<i→c.aQ[j]? =some g→g.op≠c.ops)(he:f.op=c.ops):br c=(f,f.cut||f.fail):=by
 have:c.aQ.find? (fun f=>decide (f.op=c.ops))=some f:=by
  rw[List.find?_eq_some_iff_getElem]
  obtain⟨hi,rfl⟩:=List.getElem?_eq_some_iff.1 hf
  exact⟨by simpa using he,i,hi,rfl,fun j hj=>by
   simpa using h j (c.aQ[j]'(by omega)) hj (List.getElem?_eq_getElem (by omega))⟩
 rw[br,this]
theorem KJ: ∀l:List (List UInt8),(∀x∈l,x.length≤256)→(l.map List.length).sum≤l.length*256
 |[],_=>by simp
 |x::l,hl=>by
  have h1:=KJ l fun y hy=>hl y (List.mem_cons_of_mem _ hy)
  have h2:=hl x List.mem_cons_self
  simp only[List.map_cons,List.sum_cons,List.length_cons]
  omega
theorem pE{c:Cp}(h:aV (cv c)=true):dW c:=by
 obtain⟨h1,h2,h3,h4,h5⟩:=eZ.1 h
 obtain⟨s1,s2,s3,s4,s5,s6⟩:=jW.1 h1
 simp only[cv,fB]at*
 refine⟨by omega,by omega,fun b hb=> ?_⟩
 have g:=dV.1 (h5 (bv b) (List.mem_map_of_mem hb))
 simp only[bv]at g
 have hf:(aK b.pages.xs).flatten.length≤(aK b.pages.xs).length*256:=by
  rw[List.length_flatten]
  exact KJ _ fun x hx=>by have:=g.2.2.2.2.2 x hx;omega
 exact⟨by omega,by omega⟩
theorem Fz{rm:Sv}: ∀{o:Nat} {l l':List (List UInt8)},l.map List.length=l'.map List.length→(dt rm o l).map (fun x=>x.sv)=(dt rm o l').map (fun x=>x.sv)
 |_,[],[],_=>rfl
 |_,[],_::_,h=>by simp at h
 |_,_::_,[],h=>by simp at h
 |o,p::l,p'::l',h=>by
  simp only[List.map_cons,List.cons.injEq]at h
  have:=Fz (rm:=rm) (o:=o+p'.length) h.2
  simp only[dt,List.map_cons,h.1,this]
theorem Tw{rm:Sv}{l:List (List UInt8)}{i:Nat}{q r:List UInt8}(h:l[i]? =some q)(hr:r.length=q.length):(dt rm 0 l).map (fun x=>x.sv)=(dt rm 0 (l.set i r)).map (fun x=>x.sv):=Fz (by
 rw[List.map_set,hr,tL]
 rw[List.getElem?_map,h];rfl)
theorem xf: ∀{l:List (List UInt8)} {i j:Nat} {q:List UInt8},l[i]? =some q→j<q.length→l.flatten[(l.take i).flatten.length+j]? =q[j]?
 |y::l,0,j,q,h,hj=>by
  obtain rfl:y=q:=by simpa using h
  simp only[List.take_zero,List.flatten_nil,List.length_nil,Nat.zero_add,List.flatten_cons]
  rw[List.getElem?_append_left hj]
 |y::l,i+1,j,q,h,hj=>by
  have:=xf (l:=l) (i:=i) (j:=j) (q:=q) (by simpa using h) hj
  simp only[List.take_succ_cons,List.flatten_cons,List.length_append]
  rw[Nat.add_assoc,List.getElem?_append_right (by omega),Nat.add_sub_cancel_left,this]
theorem KK: ∀{l:List (List UInt8)} {i j:Nat} {q:List UInt8} {v:UInt8},l[i]? =some q→j<q.length→l.flatten.set ((l.take i).flatten.length+j) v=(l.set i (q.set j v)).flatten
 |y::l,0,j,q,v,h,hj=>by
  obtain rfl:y=q:=by simpa using h
  simp only[List.take_zero,List.flatten_nil,List.length_nil,Nat.zero_add,List.flatten_cons,List.set_cons_zero]
  rw[List.set_append_left _ _ hj]
 |y::l,i+1,j,q,v,h,hj=>by
  have:=KK (l:=l) (i:=i) (j:=j) (q:=q) (v:=v) (by simpa using h) hj
  simp only[List.take_succ_cons,List.flatten_cons,List.length_append,List.set_cons_succ]
  rw[Nat.add_assoc,List.set_append_right _ _ (by omega),Nat.add_sub_cancel_left,this]
theorem FA{l:List (List UInt8)}{i:Nat}{r:List UInt8}:(l.set i r).take i=l.take i:=List.take_set_of_le (Nat.le_refl _)
theorem xh{rm:Sv}{lo n:Nat}(h:0<n):(fL rm lo (lo+n)).o=rm.o+lo:=by
 simp only[fL];rw[if_neg (by omega)]
theorem Cl{rm:Sv}{lo n:Nat}(hn:rm.nil=false)(hs:rm.sp=none)(hb:n≤1000000):(fL rm lo (lo+n)).Ok:=
 ⟨fun h=>absurd (hn.symm.trans h) (by decide),Nat.le_refl _,by simp only[fL];omega,fun _=>hs⟩
theorem KL{c:CV}{x:Cp}{B:Bk}{b g:Int}{q:List UInt8}{rm:Sv}{off:Bool}(hx:cv x=c)(hB:bv B=aj c b):
  cv ⟨x.pages,x.size,⟨x.blocks.sv,x.blocks.xs.set b.toNat ⟨⟨B.pages.sv,dt rm 0 ((aK B.pages.xs).set g.toNat q)⟩,B.used+1,B.aT,B.bad⟩⟩,x.ops+1,off,x.aQ⟩={c with ops:=c.ops+1,off:=off,blocks:=c.blocks.set b.toNat {aj c b with used:=(aj c b).used+1,pages:=(aj c b).pages.set g.toNat q}}:=by
 subst hx
 rw[←hB]
 simp only[cv,vq,bv,tK]
theorem Tx{m:UInt8}{xs:List UInt8}{i:Nat}{z:UInt8}(h:xs[i]? =some z):(cX m (xs.take i)++xs.drop i).set i (z|||m)=cX m (xs.take (i+1))++xs.drop (i+1):=by
 have hi:=(List.getElem?_eq_some_iff.1 h).1
 have hl:(cX m (xs.take i)).length=i:=by rw[cX,List.length_map,List.length_take];omega
 rw[List.set_append_right _ _ (by omega),hl,Nat.sub_self,List.drop_eq_getElem_cons hi,List.set_cons_zero,List.take_add_one,h,cX,cX,List.map_append,List.append_assoc]
 rfl
theorem KM{m:UInt8}{xs:List UInt8}{i:Nat}(h:i<xs.length):(cX m (xs.take i)++xs.drop i)[i]? =xs[i]? :=by
 have hl:(cX m (xs.take i)).length=i:=by rw[cX,List.length_map,List.length_take];omega
 rw[List.getElem?_append_right (by omega),hl,Nat.sub_self,List.getElem?_drop,Nat.add_zero]
theorem FB{m:UInt8}{xs:List UInt8}{i:Nat}(h:i≤xs.length):(cX m (xs.take i)++xs.drop i).length=xs.length:=by
 rw[cX,List.length_append,List.length_map,List.length_take,List.length_drop];omega
theorem KN{T:List (List UInt8)}{g i:Nat}{q xs:List UInt8}{m z:UInt8}(hq:T[g]? =some q)(hz:xs[i]? =some z):(T.set g (cX m (xs.take (i+1))++xs.drop (i+1))).flatten=(T.set g (cX m (xs.take i)++xs.drop i)).flatten.set ((T.take g).flatten.length+i) (z|||m):=by
 have hg:=(List.getElem?_eq_some_iff.1 hq).1
 have hi:=(List.getElem?_eq_some_iff.1 hz).1
 have h1:=KK (l:=T.set g (cX m (xs.take i)++xs.drop i)) (i:=g) (j:=i) (v:=z|||m) (List.getElem?_set_self hg) (by rw[FB (by omega)];exact hi)
 rw[FA]at h1
 rw[h1,List.set_set,Tx hz]
def mixed(f:List UInt8→List UInt8)(T:List (List UInt8))(k:Nat):List (List UInt8):=(T.take k).map f++T.drop k
theorem KO{f:List UInt8→List UInt8}{T:List (List UInt8)}:mixed f T 0=T:=by simp[mixed]
theorem KP{f:List UInt8→List UInt8}{T:List (List UInt8)}{k:Nat}(h:T.length≤k):mixed f T k=T.map f:=by
 rw[mixed,List.take_of_length_le h,List.drop_eq_nil_of_le h,List.append_nil]
theorem zB{f:List UInt8→List UInt8}{T:List (List UInt8)}{k:Nat}{q:List UInt8}(h:T[k]? =some q):(mixed f T k)[k]? =some q:=by
 have hk:=(List.getElem?_eq_some_iff.1 h).1
 have hl:((T.take k).map f).length=k:=by rw[List.length_map,List.length_take];omega
 rw[mixed,List.getElem?_append_right (by omega),hl,Nat.sub_self,List.getElem?_drop,Nat.add_zero,h]
theorem FC{f:List UInt8→List UInt8}{T:List (List UInt8)}{k:Nat}{q:List UInt8}(h:T[k]? =some q):(mixed f T k).set k (f q)=mixed f T (k+1):=by
 have hk:=(List.getElem?_eq_some_iff.1 h).1
 have hl:((T.take k).map f).length=k:=by rw[List.length_map,List.length_take];omega
 obtain⟨_,rfl⟩:=List.getElem?_eq_some_iff.1 h
 rw[mixed,List.set_append_right _ _ (by omega),hl,Nat.sub_self,List.drop_eq_getElem_cons hk,List.set_cons_zero,mixed,List.take_add_one,List.getElem?_eq_getElem hk,List.map_append,List.append_assoc]
 rfl
theorem Cm{f:List UInt8→List UInt8}{T:List (List UInt8)}{k:Nat}(hf: ∀x∈T,(f x).length=x.length)(hk:k≤T.length):((mixed f T k).take k).flatten.length=(T.take k).flatten.length:=by
 have hl:((T.take k).map f).length=k:=by rw[List.length_map,List.length_take];omega
 rw[mixed,List.take_append_of_le_length (by omega),List.take_of_length_le (by omega),List.length_flatten,List.length_flatten,List.map_map]
 congr 1
 exact List.map_congr_left fun x hx=>hf x (List.mem_of_mem_take hx)
theorem Ty{f:List UInt8→List UInt8}{T:List (List UInt8)}{k n:Nat}{q:List UInt8}(hq:T[k]? =some q)(hf: ∀x∈T,(f x).length=x.length)(he:f q=List.replicate n 255)(hn:n=q.length):(mixed f T (k+1)).flatten=(mixed f T k).flatten.take (T.take k).flatten.length++(List.replicate n 255++(mixed f T k).flatten.drop ((T.take k).flatten.length+n)):=by
 have hk:=(List.getElem?_eq_some_iff.1 hq).1
 rw[←FC hq,Ci (zB hq) (by rw[he,List.length_replicate,hn]),Cm hf (by omega),he,List.length_replicate]
theorem Tz{rm:Sv}{f:List UInt8→List UInt8}{T:List (List UInt8)}(hf: ∀x∈T,(f x).length=x.length):(dt rm 0 T).map (fun x=>x.sv)=(dt rm 0 (T.map f)).map (fun x=>x.sv):=Fz (by
 rw[List.map_map]
 exact(List.map_congr_left fun x hx=>(hf x hx)).symm)
theorem TA{rm:Sv}{lo n:Nat}(hn:rm.nil=false)(hs:rm.sp=none)(h:0<n):(fL rm lo (lo+n)).val= .slice (some ⟨rm.b,rm.o+lo,none⟩) n n:=by
 rw[Sv.iu (s:=fL rm lo (lo+n)) hn,show(fL rm lo (lo+n)).sp=rm.sp from rfl,hs,xh h,show(fL rm lo (lo+n)).len=n from Nat.add_sub_cancel_left ..,show(fL rm lo (lo+n)).cap=n from Nat.add_sub_cancel_left ..]
 rfl
theorem vr{c:Cp}{b:Int}:bv (c.blocks.xs.getD b.toNat oM)=aj (cv c) b:=by
 simp only[aj,cv,gF,List.getD_eq_getElem?_getD,List.getElem?_map]
 cases c.blocks.xs[b.toNat]? <;>rfl
theorem Cn{c:Cp}{b:Int}(h:gp (cv c) b=true):0≤b∧b.toNat<c.blocks.xs.length:=by
 obtain⟨_,h2,h3⟩:=gq.1 h
 simp only[cv,fB]at h3
 exact⟨h2,by omega⟩
theorem KQ{c:CV}{x:Cp}{B:Bk}{b u:Int}{l:List (List UInt8)}{rm:Sv}{off:Bool}(hx:cv x=c)(hB:bv B=aj c b):
  cv ⟨x.pages,x.size,⟨x.blocks.sv,x.blocks.xs.set b.toNat ⟨⟨B.pages.sv,dt rm 0 l⟩,u,B.aT+1,B.bad⟩⟩,x.ops+1,off,x.aQ⟩={c with ops:=c.ops+1,off:=off,blocks:=c.blocks.set b.toNat {aj c b with used:=u,aT:=(aj c b).aT+1,pages:=l}}:=by
 subst hx
 rw[←hB]
 simp only[cv,vq,bv,tK]
theorem TB{xs:List Bk}{i:Nat}{B B':Bk}(h:xs[i]? =some B)(hp:B'.pages=B.pages):((xs.set i B').map fun b:Bk=>eY b.pages)=xs.map fun b:Bk=>eY b.pages:=by
 rw[List.map_set,hp]
 refine tL ?_
 rw[List.getElem?_map,h];rfl
theorem TC{c:CV}{x:Cp}{B:Bk}{b:Int}(hx:cv x=c)(hB:bv B=aj c b):
  cv ⟨x.pages,x.size,⟨x.blocks.sv,x.blocks.xs.set b.toNat ⟨B.pages,B.used,B.aT,true⟩⟩,x.ops,x.off,x.aQ⟩={c with blocks:=c.blocks.set b.toNat {aj c b with bad:=true}}:=by
 subst hx
 rw[←hB]
 simp only[cv,vq,bv]
theorem FD{w0 w:World}{L:List ai}{s:Sv}{xs:List (Sl UInt8)}(h:Mem w0 (own (ca (τ:=UInt8)) 1 s xs::ai.all (xs.map fun p:Sl UInt8=>fz p)::L) w):Mem w0 (fz (⟨s,xs⟩:Sl (Sl UInt8))::L) w:=by
 have hs:=h.sat (own (ca (τ:=UInt8)) 1 s xs) (by simp)
 have ha:=h.sat (ai.all (xs.map fun p:Sl UInt8=>fz p)) (by simp)
 refine Mem.freeze (es:=[own (ca (τ:=UInt8)) 1 s xs,ai.all (xs.map fun p:Sl UInt8=>fz p)]) _ ⟨hs.1,fun x hx=>ai.y8 ha (fz x) (List.mem_map_of_mem hx)⟩ (fun k hk=> ?_) h
 rcases hk with⟨bW,rfl⟩|⟨x,hx,hk⟩
 ·
  exact⟨_,by simp,zw hs.1 bW⟩
 ·
  exact⟨ai.all (xs.map fun p:Sl UInt8=>fz p),by simp,ai.Cb (List.mem_map_of_mem (f:=fun p:Sl UInt8=>fz p) hx) hk⟩
theorem KR{w0 w:World}{L:List ai}{s:Sv}{xs:List Bk}(h:Mem w0 (own bN 4 s xs::ai.all (xs.map fun b:Bk=>fz b.pages)::L) w):Mem w0 (fz (⟨s,xs⟩:Sl Bk)::L) w:=by
 have hs:=h.sat (own bN 4 s xs) (by simp)
 have ha:=h.sat (ai.all (xs.map fun b:Bk=>fz b.pages)) (by simp)
 refine Mem.freeze (es:=[own bN 4 s xs,ai.all (xs.map fun b:Bk=>fz b.pages)]) _ ⟨hs.1,fun x hx=>ai.y8 ha (fz x.pages) (List.mem_map_of_mem (f:=fun b:Bk=>fz b.pages) hx)⟩ (fun k hk=> ?_) h
 rcases hk with⟨bW,rfl⟩|⟨x,hx,hk⟩
 ·
  exact⟨_,by simp,zw hs.1 bW⟩
 ·
  exact⟨ai.all (xs.map fun b:Bk=>fz b.pages),by simp,ai.Cb (List.mem_map_of_mem (f:=fun b:Bk=>fz b.pages) hx) hk⟩
theorem KS{w0 w:World}{L:List ai}{s:Sv}(hs:s.Ok)(hl:s.len=0)(h:Mem w0 L w):Mem w0 (fz (⟨s,[]⟩:Sl Ft)::L) w:=
 Mem.freeze (es:=[]) _ ⟨⟨hs,hl,fun i x hx=>by cases hx⟩,fun x hx=>by cases hx⟩ (fun k hk=>by
  rcases hk with⟨bW,_⟩|⟨x,hx,_⟩
  ·
   exact absurd rfl bW
  ·
   cases hx) h
theorem KT{w0 w:World}{L:List ai}{d:Cp}(hf:d.aQ=⟨Sv.none,[]⟩)(h:Mem w0 (own bN 4 d.blocks.sv d.blocks.xs::ai.all (d.blocks.xs.map fun b:Bk=>fz b.pages)::L) w):Mem w0 (fz d::L) w:=by
 have h1:=KS (s:=Sv.none) Sv.wE rfl (KR h)
 rw[←hf]at h1
 exact Cd (h1.perm (List.Perm.swap _ _ _))
theorem KU{zs:List Bk}{i:Nat}{z z':Bk}(h:zs[i]? =some z):((zs.take i).map fun b:Bk=>fz b.pages)++[fz z'.pages]=((zs.set i z').take (i+1)).map fun b:Bk=>fz b.pages:=by
 have hi:=(List.getElem?_eq_some_iff.1 h).1
 rw[List.take_add_one,List.getElem?_set_self hi,List.take_set_of_le (Nat.le_refl _),List.map_append]
 rfl
theorem FE{zs:List (Sl UInt8)}{i:Nat}{z z':Sl UInt8}(h:zs[i]? =some z):((zs.take i).map fun b:Sl UInt8=>fz b)++[fz z']=((zs.set i z').take (i+1)).map fun b:Sl UInt8=>fz b:=by
 have hi:=(List.getElem?_eq_some_iff.1 h).1
 rw[List.take_add_one,List.getElem?_set_self hi,List.take_set_of_le (Nat.le_refl _),List.map_append]
 rfl
theorem Co{α β:Type}{f:α→β}{zs:List α}{i:Nat}{z z':α}(h:zs[i]? =some z):((zs.set i z').take (i+1)).map f=(zs.take i).map f++[f z']:=by
 have hi:=(List.getElem?_eq_some_iff.1 h).1
 rw[List.take_add_one,List.getElem?_set_self hi,List.take_set_of_le (Nat.le_refl _),List.map_append]
 rfl
theorem Cq{b n:Nat}(h:n≤1000000):(⟨false,b,0,n,n,none⟩:Sv).Ok:=⟨fun h=>(by cases h),Nat.le_refl _,by simp only;omega,fun _=>rfl⟩
end Go.Kb
namespace Go.aA
theorem KV{P:Program}{N:cG}{w0:World}{env:Env}{L:List ai}{Q:Exit→Act→World→Prop}{c:Code}{X:Type}{pr:X→Prop}(Lx:X→List ai)(h: ∀w,Mem w0 L w→ ∃x,pr x∧Mem w0 (Lx x) w)(hk: ∀x,pr x→Cw P N w0 Q c env (Lx x)):Cw P N w0 Q c env L:=fun a w ha hw=>by
 obtain⟨x,h1,h2⟩:=h w hw
 exact hk x h1 a w ha h2
end Go.aA
namespace Go.Kb
open Go.aA
structure eC where
 kind:Int
 id:Int
 gen:UInt64
 body:Sl UInt8
def cN(x:eC):Array Value:= #[.int .i64 x.kind, .int .i64 x.id, .int .u64 x.gen.toNat,x.body.sv.val]
instance:bD cN 4:=⟨fun _=>rfl,fun x=>by
 simp only[cN,List.all_toArray,List.all_cons,List.all_nil,Sv.one,sD,sE,Bool.and_self]⟩
instance (x:eC):gm (cN x) 4:=⟨rfl,bD.one x⟩
instance (x:eC):cw (cN x) 0 (.int .i64 x.kind):=⟨rfl⟩
instance (x:eC):cw (cN x) 1 (.int .i64 x.id):=⟨rfl⟩
instance (x:eC):cw (cN x) 2 (.int .u64 x.gen.toNat):=⟨rfl⟩
instance (x:eC):cw (cN x) 3 (x.body.sv.val):=⟨rfl⟩
instance:Deep eC where
 c:=4
 cells:=cN
 size:=bD.size
 one:=bD.one
 bb h x:=Deep.bb h x.body
 cx x:=Deep.cx x.body
 kl h x hs:=Deep.kl h x.body hs
 mono w w' x hg hb:=Deep.mono w w' x.body hg hb
instance {w0:World}{L:List ai}{x:eC}[q:aW w0 L x]:aW w0 L x.body:=⟨fun w hw=>(q.h w hw)⟩
instance {w0:World}{L:List ai}{kind:Int}{id:Int}{gen:UInt64}{body:Sl UInt8}[q0:aW w0 L body]:aW w0 L (eC.mk kind id gen body):=⟨fun w hw=>q0.h w hw⟩
def nt:eC:=⟨0,0,0,⟨Sv.none,[]⟩⟩
structure dk where
 gen:UInt64
 at_:Sl Int
def dH(x:dk):Array Value:= #[.int .u64 x.gen.toNat,x.at_.sv.val]
instance:bD dH 2:=⟨fun _=>rfl,fun x=>by
 simp only[dH,List.all_toArray,List.all_cons,List.all_nil,Sv.one,sD,sE,Bool.and_self]⟩
instance (x:dk):gm (dH x) 2:=⟨rfl,bD.one x⟩
instance (x:dk):cw (dH x) 0 (.int .u64 x.gen.toNat):=⟨rfl⟩
instance (x:dk):cw (dH x) 1 (x.at_.sv.val):=⟨rfl⟩
instance:Deep dk where
 c:=2
 cells:=dH
 size:=bD.size
 one:=bD.one
 bb h x:=Deep.bb h x.at_
 cx x:=Deep.cx x.at_
 kl h x hs:=Deep.kl h x.at_ hs
 mono w w' x hg hb:=Deep.mono w w' x.at_ hg hb
instance {w0:World}{L:List ai}{x:dk}[q:aW w0 L x]:aW w0 L x.at_:=⟨fun w hw=>(q.h w hw)⟩
instance {w0:World}{L:List ai}{gen:UInt64}{at_:Sl Int}[q0:aW w0 L at_]:aW w0 L (dk.mk gen at_):=⟨fun w hw=>q0.h w hw⟩
def k8:dk:=⟨0,⟨Sv.none,[]⟩⟩
structure ay where
 live:Int
 used:Int
 aT:Int
 bad:Bool
 deriving DecidableEq
def bw(x:ay):Array Value:= #[.int .i64 x.live, .int .i64 x.used, .int .i64 x.aT, .bool x.bad]
instance:bD bw 4:=⟨fun _=>rfl,fun x=>by
 simp only[bw,List.all_toArray,List.all_cons,List.all_nil,Sv.one,sD,sE,Bool.and_self]⟩
instance (x:ay):gm (bw x) 4:=⟨rfl,bD.one x⟩
instance (x:ay):cw (bw x) 0 (.int .i64 x.live):=⟨rfl⟩
instance (x:ay):cw (bw x) 1 (.int .i64 x.used):=⟨rfl⟩
instance (x:ay):cw (bw x) 2 (.int .i64 x.aT):=⟨rfl⟩
instance (x:ay):cw (bw x) 3 (.bool x.bad):=⟨rfl⟩
def dO:ay:=⟨0,0,0,false⟩
structure bO where
 ae:Cp
 at_:Sl Int
 gen:UInt64
 last:Int
def bI(x:bO):Array Value:= #[.int .i64 x.ae.pages, .int .i64 x.ae.size,x.ae.blocks.sv.val, .int .i64 x.ae.ops, .bool x.ae.off,x.ae.aQ.sv.val,x.at_.sv.val, .int .u64 x.gen.toNat, .int .i64 x.last]
instance:bD bI 9:=⟨fun _=>rfl,fun x=>by
 simp only[bI,List.all_toArray,List.all_cons,List.all_nil,Sv.one,sD,sE,Bool.and_self]⟩
instance (x:bO):gm (bI x) 9:=⟨rfl,bD.one x⟩
instance (x:bO):cw (bI x) 0 (.int .i64 x.ae.pages):=⟨rfl⟩
instance (x:bO):cw (bI x) 1 (.int .i64 x.ae.size):=⟨rfl⟩
instance (x:bO):cw (bI x) 2 (x.ae.blocks.sv.val):=⟨rfl⟩
instance (x:bO):cw (bI x) 4 (.bool x.ae.off):=⟨rfl⟩
instance (x:bO):cw (bI x) 6 (x.at_.sv.val):=⟨rfl⟩
instance (x:bO):cw (bI x) 7 (.int .u64 x.gen.toNat):=⟨rfl⟩
instance (x:bO):cw (bI x) 8 (.int .i64 x.last):=⟨rfl⟩
instance (x:bO):oA (bI x) 0 6 (aD x.ae):=⟨rfl,fun j hj=>by
 match j,hj with
 |0,_=>rfl
 |1,_=>rfl
 |2,_=>rfl
 |3,_=>rfl
 |4,_=>rfl
 |5,_=>rfl⟩
instance:Deep bO where
 c:=9
 cells:=bI
 size:=bD.size
 one:=bD.one
 bb h x:=Deep.bb h x.ae∧Deep.bb h x.at_
 cx x:= .two (Deep.cx x.ae) (Deep.cx x.at_)
 kl h x hs:=⟨Deep.kl h x.ae hs.1,Deep.kl h x.at_ hs.2.1⟩
 mono w w' x hg hb:=⟨Deep.mono w w' x.ae hg.1 hb,Deep.mono w w' x.at_ hg.2 hb⟩
instance:fK bO where
 reach x k:=fK.reach x.ae k∨fK.reach x.at_ k
 congr h h' x e hg:=⟨fK.congr h h' x.ae (fun k hk=>e k (.inl hk)) hg.1,fK.congr h h' x.at_ (fun k hk=>e k (.inr hk)) hg.2⟩
instance {w0:World}{L:List ai}{x:bO}[q:aW w0 L x]:aW w0 L x.ae:=⟨fun w hw=>(q.h w hw).1⟩
instance {w0:World}{L:List ai}{x:bO}[q:aW w0 L x]:aW w0 L x.at_:=⟨fun w hw=>(q.h w hw).2⟩
instance {w0:World}{L:List ai}{ae:Cp}{at_:Sl Int}{gen:UInt64}{last:Int}[q0:aW w0 L ae][q1:aW w0 L at_]:aW w0 L (bO.mk ae at_ gen last):=⟨fun w hw=>⟨q0.h w hw,q1.h w hw⟩⟩
def k9:bO:=⟨gn,⟨Sv.none,[]⟩,0,0⟩
structure aR where
 ak:bO
 beyond:Bool
def aM(x:aR):Array Value:= #[.int .i64 x.ak.ae.pages, .int .i64 x.ak.ae.size,x.ak.ae.blocks.sv.val, .int .i64 x.ak.ae.ops, .bool x.ak.ae.off,x.ak.ae.aQ.sv.val,x.ak.at_.sv.val, .int .u64 x.ak.gen.toNat, .int .i64 x.ak.last, .bool x.beyond]
instance (x:aR):cw (aM x) 0 (.int .i64 x.ak.ae.pages):=⟨rfl⟩
instance (x:aR):cw (aM x) 1 (.int .i64 x.ak.ae.size):=⟨rfl⟩
instance (x:aR):cw (aM x) 2 (x.ak.ae.blocks.sv.val):=⟨rfl⟩
instance (x:aR):cw (aM x) 6 (x.ak.at_.sv.val):=⟨rfl⟩
instance (x:aR):cw (aM x) 7 (.int .u64 x.ak.gen.toNat):=⟨rfl⟩
instance (x:aR):cw (aM x) 8 (.int .i64 x.ak.last):=⟨rfl⟩
instance (x:aR):cw (aM x) 9 (.bool x.beyond):=⟨rfl⟩
instance (x:aR):oA (aM x) 0 9 (bI x.ak):=⟨rfl,fun j hj=>by
 match j,hj with
 |0,_=>rfl
 |1,_=>rfl
 |2,_=>rfl
 |3,_=>rfl
 |4,_=>rfl
 |5,_=>rfl
 |6,_=>rfl
 |7,_=>rfl
 |8,_=>rfl⟩
instance (x:aR):oA (aM x) 0 6 (aD x.ak.ae):=⟨rfl,fun j hj=>by
 match j,hj with
 |0,_=>rfl
 |1,_=>rfl
 |2,_=>rfl
 |3,_=>rfl
 |4,_=>rfl
 |5,_=>rfl⟩
structure iz where
 w:ay
 pages:Int
 deriving DecidableEq
def dv(x:iz):Array Value:= #[.int .i64 x.w.live, .int .i64 x.w.used, .int .i64 x.w.aT, .bool x.w.bad, .int .i64 x.pages]
instance:bD dv 5:=⟨fun _=>rfl,fun x=>by
 simp only[dv,List.all_toArray,List.all_cons,List.all_nil,Sv.one,sD,sE,Bool.and_self]⟩
instance (x:iz):gm (dv x) 5:=⟨rfl,bD.one x⟩
instance (x:iz):cw (dv x) 0 (.int .i64 x.w.live):=⟨rfl⟩
instance (x:iz):cw (dv x) 1 (.int .i64 x.w.used):=⟨rfl⟩
instance (x:iz):cw (dv x) 2 (.int .i64 x.w.aT):=⟨rfl⟩
instance (x:iz):cw (dv x) 3 (.bool x.w.bad):=⟨rfl⟩
instance (x:iz):cw (dv x) 4 (.int .i64 x.pages):=⟨rfl⟩
def TD:iz:=⟨dO,0⟩
end Go.Kb
namespace Go.aA
open Go.Kb
section
variable {P:Program} {N:cG} {w0:World} {env:Env} {L:List ai} {d:Option Tmp} {ty:TypeId} {ps:String} {af:Array Edge} {gd:Option (Nat×Bool)}
theorem TE{p:Nat}(h:p<2^32):4294967295^^^p=4294967295 -p:=by
 have e:(BitVec.allOnes 32^^^BitVec.ofNat 32 p).toNat=(~~~(BitVec.ofNat 32 p)).toNat:=by rw[BitVec.allOnes_xor]
 rw[BitVec.toNat_xor,BitVec.toNat_not,BitVec.toNat_allOnes,BitVec.toNat_ofNat,Nat.mod_eq_of_lt h]at e
 simpa using e
theorem KW{x:Operand}{a:Int}{p:Nat}{t:TypeId}(hx:ev env x=some (.int .u32 a))(ea:a=(p:Int))(hp:p<2^32):
  Ry P N w0 env L ⟨d, .unOp .xor t x,ty,ps,af,gd⟩ (.int .u32 ((4294967295 -p:Nat):Int)):=fun a w ha _=>by
 subst ea
 have h1:(Op.intBits .xor .u32 4294967295 (p:Int)).run P w= .ok (.int .u32 ((4294967295 -p:Nat):Int)) w:=by
  have e2:(BitVec.ofInt 32 4294967295^^^BitVec.ofInt 32 (p:Int)).toNat=4294967295 -p:=by
   rw[wz,BitVec.toNat_xor,BitVec.toNat_ofNat,Nat.mod_eq_of_lt hp,←TE hp];rfl
  show Sem.run P (pure (Value.int .u32 (IntKind.u32.wrap ((BitVec.ofInt 32 4294967295^^^BitVec.ofInt 32 (p:Int)).toNat:Int)))) w=_
  rw[e2,pn (k:= .u32) (by show 4294967295 -p<4294967296;omega)];rfl
 have h2:Op.unary .xor (.int .u32 (p:Int))=Op.intBits .xor .u32 4294967295 (p:Int):=rfl
 simp only[execOp,ha.ev hx,h2,Sem.run_bind,h1,Sem.run_pure,Result.andThen]
theorem TF{x y:Operand}{p:Nat}{a:Int}{k':IntKind}{t u:TypeId}(hx:ev env x=some (.int .u64 a))(hy:ev env y=some (.int k' 8))(ea:a=(p:Int))(hp:p*256<2^64):
  Ry P N w0 env L ⟨d, .binOp .shl t x y u,ty,ps,af,gd⟩ (.int .u64 ((p*256:Nat):Int)):=by
 subst ea
 have h:=Jm (P:=P) (N:=N) (w0:=w0) (L:=L) (d:=d) (ty:=ty) (ps:=ps) (af:=af) (gd:=gd) (t:=t) (u:=u) hx hy (by decide)
 have e:IntKind.u64.wrap ((p:Int)*2^min (Int.toNat 8) IntKind.u64.bits)=((p*256:Nat):Int):=by
  have e1:(p:Int)*2^min (Int.toNat 8) IntKind.u64.bits=((p*256:Nat):Int):=by
   rw[show(2:Int)^min (Int.toNat 8) IntKind.u64.bits=256 from by decide];omega
  rw[e1];exact pn hp
 rw[e]at h;exact h
theorem TG{n many i:Nat}(h:i<many):(List.replicate (many -i) (0:UInt8)++be n i).set (many -1 -i) (b8 (n/256^i))=List.replicate (many -(i+1)) 0++be n (i+1):=by
 rw[List.set_append_left _ _ (by simp;omega)]
 have e:List.replicate (many -i) (0:UInt8)=List.replicate (many -(i+1)) 0++[0]:=by
  rw[show many -i=many -(i+1)+1 by omega,List.replicate_succ',]
 rw[e,List.set_append_right _ _ (by simp;omega)]
 simp only[List.length_replicate,show many -1 -i -(many -(i+1))=0 by omega,List.set_cons_zero,List.append_assoc]
 rfl
end
end Go.aA
namespace Go.Kb
open Go.aA
def cU(n:Int):UInt8:=b8 (n%256).toNat
theorem TH(n:Nat):cU (n:Int)=b8 n:=by
 unfold cU
 rw[show((n:Int)%256).toNat=n%256 by omega,Jv]
theorem xi(n:Int):IntKind.u8.wrap n=((cU n).toNat:Int):=by
 unfold cU
 rw[qj];simp[IntKind.wrap,IntKind.bits,IntKind.signed];omega
def eP(r:Rt):List UInt8:=
 [if r.p.bits=128 then 1 else 0,cU r.p.len]++(List.range 16).map (fun i=>b8 (cM r.p.key i))++[b8 (r.dK.toNat/256),b8 r.dK.toNat]
theorem oN(r:Rt):(eP r).length=20:=by simp[eP]
theorem KX(r:Rt):(eP r)[0]? =some (if r.p.bits=128 then 1 else 0):=by simp[eP]
theorem KY(r:Rt):(eP r)[1]? =some (cU r.p.len):=by simp[eP]
theorem KZ(r:Rt)(i:Nat)(h:i<16):(eP r)[2+i]? =some (b8 (cM r.p.key i)):=by
 unfold eP
 rw[List.append_assoc,List.getElem?_append_right (by simp),List.getElem?_append_left (by simp;omega)]
 simp[h]
theorem K0(r:Rt):(eP r)[18]? =some (b8 (r.dK.toNat/256)):=by simp[eP]
theorem K1(r:Rt):(eP r)[19]? =some (b8 r.dK.toNat):=by simp[eP]
theorem K2(r:Rt){xj:Array Value}(h0:xj.size=20)(hz:xj[0]? =some (.int .u8 (if r.p.bits=128 then 1 else 0:Nat))):
  (((cW (xj.setIfInBounds 1 (.int .u8 (cU r.p.len).toNat)) 2 (cT r.p.key)).setIfInBounds 18 (.int .u8 (b8 (r.dK.toNat/256)).toNat)).setIfInBounds 19 (.int .u8 (b8 r.dK.toNat).toNat))=(aL aN (eP r)).toArray:=by
 have hs:(cW (xj.setIfInBounds 1 (.int .u8 (cU r.p.len).toNat)) 2 (cT r.p.key)).size=20:=by rw[m9 (by simp[gS,h0])];simpa using h0
 refine Array.ext_getElem? fun j=> ?_
 have hf: ∀b,(eP r)[j]? =some b→(aL aN (eP r)).toArray[j]? =some (.int .u8 b.toNat):=fun b hb=>by
  have:=na (enc:=aN) (eP r) j b hb 0 (by decide)
  simp only[Nat.mul_one,Nat.add_zero]at this
  simpa[aN]using this
 have hk:2+(cT r.p.key).size≤(xj.setIfInBounds 1 (.int .u8 (cU r.p.len).toNat)).size:=by simp[gS,h0]
 rw[Array.getElem?_setIfInBounds,Array.getElem?_setIfInBounds]
 by_cases K3:19=j
 ·
  subst K3;rw[hf _ (K1 r)];simp[hs]
 by_cases zC:18=j
 ·
  subst zC;rw[hf _ (K0 r)];simp[hs]
 rw[if_neg K3,if_neg zC,uX hk,gS]
 by_cases h2:2≤j∧j<2+16
 ·
  rw[if_pos h2,lU _ _ (by omega)]
  have:=KZ r (j -2) (by omega)
  rw[show 2+(j -2)=j by omega]at this
  rw[hf _ this,qj]
  have:=oE r.p.key (j -2)
  rw[Nat.mod_eq_of_lt this]
 rw[if_neg h2,Array.getElem?_setIfInBounds]
 by_cases h1:1=j
 ·
  subst h1;rw[hf _ (KY r)];simp[h0]
 rw[if_neg h1]
 by_cases hj:j=0
 ·
  subst hj
  rw[hz,hf _ (KX r)]
  split<;>rfl
 ·
  have e1:xj[j]? =none:=by simp;omega
  rw[e1]
  have:(aL aN (eP r)).length=20:=by rw[hK,oN]
  simp;omega
open Go.aA
structure PV where
 kind:Int
 id:Int
 gen:Nat
 body:List UInt8
 deriving DecidableEq
def jI:PV:=⟨0,0,0,[]⟩
def cK(p:eC):PV:=⟨p.kind,p.id,p.gen.toNat,p.body.xs⟩
def l5(n:Int):Bool:=decide (24≤n)&&decide (n≤256)
theorem qu{n:Int}:l5 n=true↔24≤n∧n≤256:=by simp only[l5,Bool.and_eq_true,decide_eq_true_eq]
def dC(n:Int):Int:=if l5 n=true then n -16 else 0
def kH(p:PV)(n:Int):Bool:=l5 n&&(decide (p.kind=1)||decide (p.kind=2))&&decide (0≤p.id)&&decide (p.id<64)&&decide (p.gen<281474976710656)&&decide ((p.body.length:Int)≤dC n)
theorem pF{p:PV}{n:Int}:kH p n=true↔l5 n=true∧(p.kind=1∨p.kind=2)∧0≤p.id∧p.id<64∧p.gen<281474976710656∧(p.body.length:Int)≤dC n:=by
 simp only[kH,Bool.and_eq_true,Bool.or_eq_true,decide_eq_true_eq,and_assoc]
def jo(b:List UInt8):Bool:=b.all fun x=>decide (x=255)
theorem zD{b:List UInt8}:jo b=true↔ ∀x∈b,x=255:=by simp only[jo,List.all_eq_true,decide_eq_true_eq]
def jq(p:PV)(n:Nat):List UInt8:=[cU p.kind,cU p.id]++be p.gen 6++be p.body.length 2++p.body++List.replicate (n -4 -10 -p.body.length) 0
def dg(p:PV)(n:Int):List UInt8×Int:=if kH p n=true then(jq p n.toNat++be (lY (jq p n.toNat)) 4,0)else([],1)
def sG(b:List UInt8):PV:=⟨(b.getD 0 0).toNat,(b.getD 1 0).toNat,de ((b.drop 2).take (8 -2)),[]⟩
def gT(b:List UInt8):Nat:=de ((b.drop 8).take (10 -8))
def la(b:List UInt8):List UInt8:=(b.drop 0).take (b.length -4 -0)
def vt(b:List UInt8):List UInt8:=(b.drop (b.length -4)).take (b.length -(b.length -4))
def mH(b:List UInt8):List UInt8:=((la b).drop (10+gT b)).take ((la b).length -(10+gT b))
def tM(b:List UInt8):Bool:=b.all fun x=>decide (x=0)
theorem FF{b:List UInt8}:tM b=true↔ ∀x∈b,x=0:=by simp only[tM,List.all_eq_true,decide_eq_true_eq]
def nu(b:List UInt8):Bool:=decide ((gT b:Int)≤dC b.length)&&kH (sG b) b.length
def cy(b:List UInt8):PV×Int:=
 if l5 b.length=false then(jI,3)
 else if jo b=true then(jI,0)
 else if de (vt b)≠lY (la b)then(jI,4)
 else if nu b=false then(jI,2)
 else if tM (mH b)=false then(jI,2)
 else({sG b with body:=(b.drop 10).take (10+gT b -10)},0)
theorem K4(b:List UInt8):gT b<65536:=by
 have h:=Kx ((b.drop 8).take (10 -8))
 have h2:((b.drop 8).take (10 -8)).length≤2:=by rw[List.length_take];omega
 have h3:=Nat.pow_le_pow_right (show 0<256 by decide) h2
 rw[gT];omega
theorem FG(b:List UInt8):de ((b.drop 2).take (8 -2))<281474976710656:=by
 have h:=Kx ((b.drop 2).take (8 -2))
 have h2:((b.drop 2).take (8 -2)).length≤6:=by rw[List.length_take];omega
 have h3:=Nat.pow_le_pow_right (show 0<256 by decide) h2
 omega
def sH(b:List UInt8):eC:=⟨(b.getD 0 0).toNat,(b.getD 1 0).toNat,UInt64.ofNat (de ((b.drop 2).take (8 -2))),⟨Sv.none,[]⟩⟩
theorem K5(b:List UInt8):(UInt64.ofNat (de ((b.drop 2).take (8 -2)))).toNat=de ((b.drop 2).take (8 -2)):=by
 have:=FG b
 rw[UInt64.toNat_ofNat'];omega
theorem K6(b:List UInt8)(s:Sv)(l:List UInt8):cK {sH b with body:=⟨s,l⟩}={sG b with body:=l}:=by
 simp only[cK,sH,K5];rfl
theorem FH(b:List UInt8):cK (sH b)=sG b:=K6 b Sv.none []
theorem TI(b:List UInt8):(la b).length=b.length -4:=by rw[la,List.length_take,List.length_drop];omega
theorem TJ{M:Nat}{k d:UInt8}(h:2≤M):((List.replicate M (0:UInt8)).set 0 k).set 1 d=[k,d]++List.replicate (M -2) 0:=by
 obtain⟨m,rfl⟩: ∃m,M=m+2:=⟨M -2,by omega⟩
 simp[List.replicate_succ]
theorem FI{A Y:List UInt8}{k N:Nat}(hk:k=A.length):(A++List.replicate N 0).take k++(Y++(A++List.replicate N 0).drop (k+Y.length))=A++Y++List.replicate (N -Y.length) 0:=by
 subst hk
 rw[List.take_left',List.drop_append,List.drop_eq_nil_of_le (by omega),Nat.add_sub_cancel_left,List.drop_replicate,List.nil_append,List.append_assoc]
 rfl
theorem TK{p:PV}{n:Nat}(h:p.body.length+14≤n):(jq p n).length=n -4:=by
 simp only[jq,List.length_append,iv,List.length_replicate,List.length_cons,List.length_nil];omega
theorem FJ(b:List UInt8):(cy b).1.body.length≤65536:=by
 have h:=K4 b
 rw[cy]
 split
 ·
  simp[jI]
 ·
  split
  ·
   simp[jI]
  ·
   split
   ·
    simp[jI]
   ·
    split
    ·
     simp[jI]
    ·
     split
     ·
      simp[jI]
     ·
      simp only[List.length_take];omega
open Go.aA
structure RV where
 gen:Nat
 at_:List Int
 deriving DecidableEq
def gH:RV:=⟨0,[]⟩
def dm(r:dk):RV:=⟨r.gen.toNat,r.at_.xs⟩
def jd(n:Int):Int:=min 64 (dC n/2)
def vu(x:Int):Bool:=decide (0≤x)&&decide (x≤65535)
theorem zE{x:Int}:vu x=true↔0≤x∧x≤65535:=by simp only[vu,Bool.and_eq_true,decide_eq_true_eq]
def mI(r:RV)(n:Int):Bool:= !decide (dC n=0)&&decide (r.gen<281474976710656)&&decide ((r.at_.length:Int)≤jd n)&&r.at_.all vu
theorem tN{r:RV}{n:Int}:mI r n=true↔dC n≠0∧r.gen<281474976710656∧(r.at_.length:Int)≤jd n∧ ∀x∈r.at_,vu x=true:=by
 simp only[mI,Bool.and_eq_true,Bool.not_eq_true',decide_eq_true_eq,decide_eq_false_iff_not,and_assoc,List.all_eq_true,ne_eq]
def pG(b:List UInt8)(i:Nat):Int:=((rk (b.getD (2*i) 0) (b.getD (2*i+1) 0)).toNat:Int)
def n9(b:List UInt8):List Int:=(List.range (b.length/2)).map (pG b)
def sI(p:PV):Bool:=decide (p.kind=2)&&decide (p.body.length%2=0)&&decide (p.id=max 0 ((p.body.length/2:Nat) -1:Int))
def bE(b:List UInt8):RV×Int:=
 if(cy b).2≠0 then(gH,(cy b).2)
 else if(cy b).1.kind=0 then(gH,6)
 else if sI (cy b).1=false then(gH,2)
 else(⟨(cy b).1.gen,n9 (cy b).1.body⟩,0)
def Cr(x:Int):List UInt8:=[cU (x/256),cU x]
def gv(l:List Int):List UInt8:=(l.map Cr).flatten
def cO(r:RV)(n:Int):List UInt8×Int:=if mI r n=true then dg ⟨2,max 0 ((r.at_.length:Int) -1),r.gen,gv r.at_⟩ n else([],1)
theorem TL{b:List UInt8}{i:Nat}(h:i<b.length/2):(n9 b).take (i+1)=(n9 b).take i++[pG b i]:=by
 rw[List.take_add_one,n9,List.getElem?_map,List.getElem?_range h];rfl
theorem Cs(b:List UInt8):(n9 b).length=b.length/2:=by simp[n9]
theorem TM{l:List Int}{i:Nat}{x:Int}(h:l[i]? =some x):gv (l.take (i+1))=gv (l.take i)++Cr x:=by
 simp[gv,List.take_add_one,h]
theorem xk(l:List Int):(gv l).length=2*l.length:=by
 induction l with
 |nil=>rfl
 |cons x l ih=>
  have:gv (x::l)=Cr x++gv l:=by simp[gv]
  rw[this,List.length_append,ih]
  simp only[Cr,List.length_cons,List.length_nil];omega
structure NS where
 at_:Int
 new:RV
 found:Bool
 blank:Bool
 deriving DecidableEq
def vw(s:NS)(i:Nat)(b:List UInt8):NS:=
 if(bE b).2=0∧(s.found=false∨s.new.gen≤(bE b).1.gen)then⟨i,(bE b).1,true,s.blank&&jo b⟩else{s with blank:=s.blank&&jo b}
def dq(l:List (List UInt8)):Nat→NS
 |0=>⟨0,gH,false,true⟩
 |k+1=>vw (dq l k) k (l.getD k [])
def fq(l:List (List UInt8)):Int×RV×Int:=
 if(dq l l.length).found=true then((dq l l.length).at_,(dq l l.length).new,0)else if(dq l l.length).blank=true then(0,gH,6)else(0,gH,2)
theorem K7{l:List (List UInt8)}{i:Nat}{b:List UInt8}(hb:l[i]? =some b)(h:(bE b).2=0∧((dq l i).found=false∨(dq l i).new.gen≤(bE b).1.gen)):dq l (i+1)=⟨i,(bE b).1,true,(dq l i).blank&&jo b⟩:=by
 rw[dq,show l.getD i []=b by simp[List.getD,hb],vw,if_pos h]
theorem K8{l:List (List UInt8)}{i:Nat}{b:List UInt8}(hb:l[i]? =some b)(h: ¬((bE b).2=0∧((dq l i).found=false∨(dq l i).new.gen≤(bE b).1.gen))):dq l (i+1)={dq l i with blank:=(dq l i).blank&&jo b}:=by
 rw[dq,show l.getD i []=b by simp[List.getD,hb],vw,if_neg h]
open Go.aA
structure VV where
 ae:CV
 at_:List Int
 gen:Nat
 last:Int
 deriving DecidableEq
def TN:CV:=⟨0,0,[],0,false,[]⟩
def ko:VV:=⟨TN,[],0,0⟩
def vv(v:bO):VV:=⟨cv v.ae,v.at_.xs,v.gen.toNat,v.last⟩
def fF(c:CV):Bool:=aV c&&decide (4≤(c.blocks.length:Int))&&decide (2≤c.pages)&&decide (24≤c.size)
theorem ft{c:CV}:fF c=true↔aV c=true∧4≤(c.blocks.length:Int)∧2≤c.pages∧24≤c.size:=by simp only[fF,Bool.and_eq_true,decide_eq_true_eq,and_assoc]
def bF(c:CV)(k:Int):List UInt8:=(aj c (k/c.pages)).pages.getD (k%c.pages).toNat []
def jX(c:CV)(k:Int):Bool:=decide (2≤k/c.pages)&&decide (k/c.pages<(c.blocks.length:Int))&&decide (k%c.pages<(aj c (k/c.pages)).used)
theorem lz{c:CV}{k:Int}:jX c k=true↔2≤k/c.pages∧k/c.pages<(c.blocks.length:Int)∧k%c.pages<(aj c (k/c.pages)).used:=by simp only[jX,Bool.and_eq_true,decide_eq_true_eq,and_assoc]
def Ct(p:PV×Int)(id:Int):Bool:=decide (p.2=0)&&decide (p.1.kind=1)&&decide (p.1.id=id)
def l6(c:CV)(id n:Int):Bool:=jX c (n -1)&&Ct (cy (bF c (n -1))) id
theorem TO(c:CV):{w9 c c.aQ with off:=c.off}=c:=by
 rw[w9];split<;>rfl
open Go.aA
def pH(c:CV)(l:List Int)(i:Nat):Bool:=decide (l.getD i 0=0)||(!(l.take i).contains (l.getD i 0)&&l6 c (i:Int) (l.getD i 0))
def ry(c:CV)(l:List Int):Bool:=(List.range l.length).all (pH c l)
theorem zF{c:CV}{l:List Int}:ry c l=true↔ ∀i,i<l.length→pH c l i=true:=by simp only[ry,List.all_eq_true,List.mem_range]
def jY(l:List Int)(i:Nat):Int→Option Unit:=fun x=>if x≠0∧x∈l.take i then some ()else none
theorem zG{l:List Int}{i:Nat}{x:Int}:(jY l i x).isSome=decide (x≠0∧x∈l.take i):=by
 unfold jY;split<;>simp_all
theorem K9{l:List Int}:(fun _=>none)=jY l 0:=by
 funext x;simp[jY]
theorem La{l:List Int}{i:Nat}(h:l[i]? =some 0):jY l (i+1)=jY l i:=by
 funext x
 unfold jY
 rw[List.take_add_one,h]
 by_cases hx:x=0
 ·
  simp[hx]
 ·
  simp[hx]
theorem Lb{l:List Int}{i:Nat}{y:Int}(h:l[i]? =some y)(hy:y≠0):(fun z=>if z=y then some ()else jY l i z)=jY l (i+1):=by
 funext x
 unfold jY
 rw[List.take_add_one,h]
 by_cases hx:x=y
 ·
  subst hx;simp[hy]
 ·
  simp[hx]
theorem ob{l:List Int}{i:Nat}{y:Int}(h:l[i]? =some y):l.getD i 0=y:=by simp[List.getD,h]
def fc(l:List (Sl (Sl UInt8))):List (Sl UInt8):=(l.map Sl.xs).flatten
theorem Cu{l:List (Sl (Sl UInt8))}{i:Nat}{x:Sl (Sl UInt8)}(h:l[i]? =some x):fc (l.take (i+1))=fc (l.take i)++x.xs:=by
 rw[fc,List.take_add_one,h];simp[fc]
theorem TP(l:List (Sl (Sl UInt8)))(i:Nat):(fc (l.take i)).length≤(fc l).length:=by
 have e:fc l=fc (l.take i)++fc (l.drop i):=by
  unfold fc
  rw[←List.flatten_append,←List.map_append,List.take_append_drop]
 rw[e,List.length_append];omega
class Lc(w0:World)(l:List (Sl UInt8)):Prop where
 h: ∀y∈l,Deep.bb (hp w0) y
instance aW.row{w0:World}{L:List ai}{x:Sv}{l:List (Sl UInt8)}{i:Nat}[q:fJ L x (ca (τ:=UInt8)) 1 l i][m:Lc w0 l]:aW w0 L (⟨x,l⟩:Sl (Sl UInt8)):=
 ⟨fun w hw=>⟨(hw.get q.h).1,fun y hy=>Deep.mono w0 w y (m.h y hy) hw.below⟩⟩
open Go.aA
def bL(c:CV):Int×RV×Int:=fq ((aj c 0).pages++(aj c 1).pages)
def lA(c:CV):Bool:=decide ((bL c).1%c.pages<(aj c ((bL c).1/c.pages)).used)&&ry c (bL c).2.1.at_
def bx(c:CV):VV×Int:=
 if fF c=false then(ko,1)
 else if c.off=true then(ko,7)
 else if(bL c).2.2≠0 then(ko,(bL c).2.2)
 else if lA c=false then(ko,2)
 else(⟨c,(bL c).2.1.at_,(bL c).2.1.gen,(bL c).1/c.pages⟩,0)
theorem Ld(l:List (List UInt8)): ∀k,k≤l.length→(dq l k).at_=0∨(0≤(dq l k).at_∧(dq l k).at_<k)
 |0,_=> .inl rfl
 |k+1,h=>by
  have:=Ld l k (by omega)
  rw[dq,vw]
  split
  ·
   exact .inr ⟨by simp only;omega,by simp only;omega⟩
  ·
   simp only;omega
theorem FK{l:List (List UInt8)}(h:0<l.length):0≤(fq l).1∧(fq l).1<l.length:=by
 have:=Ld l l.length (Nat.le_refl _)
 rw[fq]
 split
 ·
  simp only;omega
 ·
  split<;>(simp only;omega)
theorem TQ(b:List UInt8): ∀x∈n9 b,0≤x∧x≤65535:=by
 intro x hx
 obtain⟨i,_,rfl⟩:=List.mem_map.1 hx
 have:=(rk (b.getD (2*i) 0) (b.getD (2*i+1) 0)).toNat_lt
 simp only[pG];omega
theorem TR(b:List UInt8): ∀x∈(bE b).1.at_,0≤x∧x≤65535:=by
 rw[bE]
 split
 ·
  simp[gH]
 ·
  split
  ·
   simp[gH]
  ·
   split
   ·
    simp[gH]
   ·
    exact TQ _
theorem Le(l:List (List UInt8)): ∀k,∀x∈(dq l k).new.at_,0≤x∧x≤65535
 |0=>by simp[dq,gH]
 |k+1=>by
  have:=Le l k
  rw[dq,vw]
  split
  ·
   exact TR _
  ·
   exact this
theorem Lf(l:List (List UInt8)): ∀x∈(fq l).2.1.at_,0≤x∧x≤65535:=by
 rw[fq]
 split
 ·
  exact Le _ _
 ·
  split<;>simp[gH]
theorem FL(a b:Sl (Sl UInt8)):aK (fc [a,b])=aK a.xs++aK b.xs:=by simp[aK,fc]
theorem FM{c:Cp}{i:Nat}{B:Bk}(h:c.blocks.xs[i]? =some B):aj (cv c) (i:Int)=bv B:=by
 rw[←vr];simp[List.getD,h]
theorem TS(b:List UInt8):(bE b).1.at_.length≤65536:=by
 have h:=FJ b
 rw[bE]
 split
 ·
  simp[gH]
 ·
  split
  ·
   simp[gH]
  ·
   split
   ·
    simp[gH]
   ·
    simp only[Cs];omega
theorem Lg(l:List (List UInt8)): ∀k,(dq l k).new.at_.length≤65536
 |0=>by simp[dq,gH]
 |k+1=>by
  have:=Lg l k
  rw[dq,vw]
  split
  ·
   exact TS _
  ·
   exact this
theorem TT(l:List (List UInt8)):(fq l).2.1.at_.length≤65536:=by
 rw[fq]
 split
 ·
  exact Lg _ _
 ·
  split<;>simp[gH]
theorem Lh(c:CV):(bx c).1.at_.length≤65536:=by
 have h:=TT ((aj c 0).pages++(aj c 1).pages)
 rw[bx]
 split
 ·
  simp[ko]
 ·
  split
  ·
   simp[ko]
  ·
   split
   ·
    simp[ko]
   ·
    split
    ·
     simp[ko]
    ·
     exact h
theorem FN{c:CV}(h:(bx c).2=0):fF c=true:=by
 cases hb:fF c with
 |true=>rfl
 |false=>rw[bx,if_pos hb]at h;cases h
def kI(x:VV):Bool:=decide ((bx {x.ae with off:=false}).2=0)&&decide ((bx {x.ae with off:=false}).1.gen=x.gen)&&decide ((bx {x.ae with off:=false}).1.last=x.last)&&decide ((bx {x.ae with off:=false}).1.at_=x.at_)
theorem TU{w0 w:World}{L:List ai}(h:Mem w0 L w):Mem w0 (fz gn::L) w:=
 Cd (d:=gn) (Mem.freeze (es:=[]) _ ⟨bQ.nil _ _ _,fun x hx=>by cases hx⟩ (fun k hk=>by
  rcases hk with⟨bW,_⟩|⟨x,hx,_⟩
  ·
   exact absurd rfl bW
  ·
   cases hx) (KS (s:=Sv.none) Sv.wE rfl h))
class Li(a:Cp)(b:outParam Cp):Prop where
 h:a=b
instance aW.ac0{w0:World}{L:List ai}{v:bO}{c:Cp}[e:Li v.ae c][q1:aW w0 L c][q2:aW w0 L v.at_]:aW w0 L v:=
 ⟨fun w hw=>⟨by rw[e.h];exact q1.h w hw,q2.h w hw⟩⟩
def iT(c:CV)(n:Int):List UInt8:=if(cy (bF c (n -1))).2=0 then(cy (bF c (n -1))).1.body else[]
open Go.aA
theorem FO{c:CV}(h:(bx c).2=0):fF c=true∧lA c=true∧bx c=(⟨c,(bL c).2.1.at_,(bL c).2.1.gen,(bL c).1/c.pages⟩,0):=by
 have hb:=FN h
 by_cases h1:c.off=true
 ·
  rw[bx,if_neg (by rw[hb];simp),if_pos h1]at h;cases h
 ·
  by_cases h2:(bL c).2.2≠0
  ·
   rw[bx,if_neg (by rw[hb];simp),if_neg h1,if_pos h2]at h;exact absurd h h2
  ·
   cases h3:lA c with
   |false=>rw[bx,if_neg (by rw[hb];simp),if_neg h1,if_neg h2,if_pos h3]at h;cases h
   |true=>exact⟨hb,rfl,by rw[bx,if_neg (by rw[hb];simp),if_neg h1,if_neg h2,if_neg (by rw[h3];simp)]⟩
theorem zH{x:VV}(h:kI x=true):aV x.ae=true∧ry x.ae x.at_=true∧ ∀y∈x.at_,0≤y∧y≤65535:=by
 simp only[kI,Bool.and_eq_true,decide_eq_true_eq]at h
 obtain⟨⟨⟨h1,h2⟩,h3⟩,h4⟩:=h
 obtain⟨hb,hl,hf⟩:=FO h1
 rw[hf]at h4
 simp only at h4
 simp only[lA,Bool.and_eq_true,decide_eq_true_eq]at hl
 rw[h4]at hl
 refine⟨(ft.1 hb).1,hl.2,?_⟩
 rw[←h4]
 exact Lf _
theorem Lj{x:VV}(h:kI x=true){i:Nat}{y:Int}(hy:x.at_[i]? =some y)(h0:y≠0):1≤y∧y≤1000000∧jX x.ae (y -1)=true:=by
 obtain⟨h1,h2,h3⟩:=zH h
 have hr:=h3 y (List.mem_of_getElem? hy)
 have hp:=zF.1 h2 i (List.getElem?_eq_some_iff.1 hy).1
 rw[pH,ob hy]at hp
 simp only[Bool.or_eq_true,decide_eq_true_eq,Bool.and_eq_true]at hp
 rcases hp with hp|hp
 ·
  exact absurd hp h0
 ·
  have hn:=hp.2
  rw[l6,Bool.and_eq_true]at hn
  exact⟨by omega,by omega,hn.1⟩
open Go.aA
def l8(l:List Int)(j:Nat):Bool:=decide (l.getD j 0≠0)&& !(l.take j).contains (l.getD j 0)
def jJ(pages:Int)(l:List Int)(k i:Nat):Nat:=((List.range k).filter fun j=>l8 l j&&decide ((l.getD j 0 -1)/pages=(i:Int)+2)).length
def rz(b:BV)(live:Nat):ay:=⟨live,b.used,b.aT,b.bad⟩
def jK(c:CV)(l:List Int)(k:Nat):List ay:=(List.range (c.blocks.length -2)).map fun i:Nat=>rz (aj c ((i:Int)+2)) (jJ c.pages l k i)
def iU(c:CV)(l:List Int):List ay:=jK c l l.length
theorem xm(c:CV)(l:List Int)(k:Nat):(jK c l k).length=c.blocks.length -2:=by simp[jK]
theorem zI(pages:Int)(l:List Int)(k i:Nat):jJ pages l (k+1) i=jJ pages l k i+(if l8 l k&&decide ((l.getD k 0 -1)/pages=(i:Int)+2)then 1 else 0):=by
 rw[jJ,List.range_succ,List.filter_append,List.length_append,jJ]
 congr 1
 simp only[List.filter_cons,List.filter_nil]
 split<;>rfl
theorem TV{c:CV}{l:List Int}{k:Nat}(h:l8 l k=false):jK c l (k+1)=jK c l k:=by
 refine List.map_congr_left fun i _=> ?_
 rw[zI,h];simp
theorem TW{l:List Int}{i:Nat}{y:Int}(h:l[i]? =some y)(hy:y≠0∧y∈l.take i):jY l (i+1)=jY l i:=by
 funext x
 unfold jY
 rw[List.take_add_one,h]
 by_cases hx:x=y
 ·
  subst hx;simp[hy.1,hy.2]
 ·
  simp[hx]
theorem TX{c:CV}{l:List Int}{k i:Nat}{x:ay}(h:l8 l k=true)(hi:(l.getD k 0 -1)/c.pages=(i:Int)+2)(hx:(jK c l k)[i]? =some x):jK c l (k+1)=(jK c l k).set i {x with live:=x.live+1}:=by
 have eX:i<c.blocks.length -2:=by have:=(List.getElem?_eq_some_iff.1 hx).1;rwa [xm]at this
 have jZ:x=rz (aj c ((i:Int)+2)) (jJ c.pages l k i):=by
  rw[jK,List.getElem?_map,List.getElem?_range eX]at hx
  exact(Option.some.inj hx).symm
 refine List.ext_getElem? fun j=> ?_
 rw[List.getElem?_set]
 by_cases hj:i=j
 ·
  subst hj
  rw[if_pos rfl,if_pos (by rw[xm];exact eX),jK,List.getElem?_map,List.getElem?_range eX,Option.map_some,zI,h,hi,jZ]
  simp[rz]
 ·
  rw[if_neg hj,jK,jK,List.getElem?_map,List.getElem?_map]
  rcases Nat.lt_or_ge j (c.blocks.length -2)with jA|jA
  ·
   rw[List.getElem?_range jA,Option.map_some,Option.map_some,zI,h,hi]
   simp only[Bool.true_and]
   rw[decide_eq_false (by omega)];simp
  ·
   rw[List.getElem?_eq_none (by simpa using jA)];rfl
def aw(l:List (Sl Int)):List Int:=(l.map Sl.xs).flatten
theorem Lk{l:List (Sl Int)}{i:Nat}{x:Sl Int}(h:l[i]? =some x):aw (l.take (i+1))=aw (l.take i)++x.xs:=by
 rw[aw,List.take_add_one,h];simp[aw]
theorem TY{l:List (Sl Int)}{i j:Nat}{x:Sl Int}{y:Int}(h:l[i]? =some x)(hy:x.xs[j]? =some y):(aw l)[(aw (l.take i)).length+j]? =some y:=by
 have hj:=(List.getElem?_eq_some_iff.1 hy).1
 have e:aw l=aw (l.take (i+1))++aw (l.drop (i+1)):=by
  unfold aw
  rw[←List.flatten_append,←List.map_append,List.take_append_drop]
 rw[e,Lk h,List.getElem?_append_left (by rw[List.length_append];omega),List.getElem?_append_right (by omega),Nat.add_sub_cancel_left,hy]
def qv(c:CV)(l:List Int):Prop:=(aV c=true∧l.length≤1000000)∧2≤c.blocks.length∧ ∀n∈l,n=0∨(1≤n∧n≤1000000∧2≤(n -1)/c.pages∧(n -1)/c.pages<(c.blocks.length:Int))
theorem TZ(c:CV)(l:List Int):jK c l 0=(List.range (c.blocks.length -2)).map fun i:Nat=>rz (aj c ((i:Int)+2)) 0:=by
 refine List.map_congr_left fun i _=> ?_
 simp[jJ]
theorem Ll(pages:Int)(l:List Int)(k i:Nat):jJ pages l k i≤k:=by
 rw[jJ]
 exact Nat.le_trans (List.length_filter_le _ _) (by simp)
theorem T0{c:CV}{l:List Int}{k i:Nat}{z:ay}(h:(jK c l k)[i]? =some z):0≤z.live∧z.live≤k:=by
 rw[jK,List.getElem?_map,Option.map_eq_some_iff]at h
 obtain⟨j,_,rfl⟩:=h
 have:=Ll c.pages l k j
 simp only[rz];omega
open Go.aA
def tO(a b:Int):Int:=if a<b then -1 else if b<a then 1 else 0
def lB(p:Int)(x:ay):Bool:= !x.bad&&decide (x.used<p)
def lb(x:ay):Bool:= !x.bad&&decide (x.live=0)&&decide (0<x.used)
def vz(p:Int)(x:ay):Bool:=if x.bad=true then decide (0<x.live)else decide (x.used=p)&&decide (0<x.live)&&decide (x.live<p)
def xn(a b:ay):Int:=tO b.used a.used
def qw(a b:ay):Int:=tO a.aT b.aT
def FP(a b:ay):Int:=tO a.live b.live
def xo(a b:ay):Int:=if a.bad=b.bad then 0 else if a.bad=true then -1 else 1
def tP(p:Int)(x:ay):Bool:=decide (0≤x.live)&&decide (x.live≤x.used)&&decide (x.used≤p)&&decide (0≤x.aT)&&decide (x.aT≤cP)
theorem pI{p:Int}{x:ay}:tP p x=true↔0≤x.live∧x.live≤x.used∧x.used≤p∧0≤x.aT∧x.aT≤cP:=by
 simp only[tP,Bool.and_eq_true,decide_eq_true_eq,and_assoc]
def kJ(l:List ay)(p:Int):Bool:=decide (1≤(l.length:Int))&&decide ((l.length:Int)≤32)&&decide (1≤p)&&decide (p≤16)&&l.all (tP p)
theorem qx{l:List ay}{p:Int}:kJ l p=true↔1≤(l.length:Int)∧(l.length:Int)≤32∧1≤p∧p≤16∧ ∀x∈l,tP p x=true:=by
 simp only[kJ,Bool.and_eq_true,decide_eq_true_eq,and_assoc,List.all_eq_true]
def qy(a b:ay):List (ay→ay→Int)→Bool
 |[]=>false
 |o::r=>if o a b≠0 then decide (o a b<0)else qy a b r
def xp(l:List ay)(dX:ay→Bool)(os:List (ay→ay→Int))(i:Nat)(s:Int×Bool):Int×Bool:=
 if dX (l.getD i dO)=true∧(s.2=false∨qy (l.getD i dO) (l.getD s.1.toNat dO) os=true)then((i:Int),true)else s
def hO(l:List ay)(dX:ay→Bool)(os:List (ay→ay→Int)):Nat→Int×Bool
 |0=>(0,false)
 |k+1=>xp l dX os k (hO l dX os k)
def fu(l:List ay)(p:Int)(dX:ay→Bool)(os:List (ay→ay→Int)):Int×Bool:=
 if kJ l p=true then hO l dX os l.length else(0,false)
def eM(l:List ay)(p:Int):Int×Bool:=fu l p (lB p) [xn,qw]
def eQ(l:List ay)(p:Int):Int×Bool:=fu l p lb [qw]
def qz(l:List ay)(p:Int):Int×Bool:=fu l p (vz p) [xo,FP,qw]
def mJ(p:Int)(x:ay):Int:=if lb x=true then p else if lB p x=true then p -x.used else 0
def fv:List Int→Int
 |[]=>0
 |x::r=>x+fv r
def zJ(l:List ay)(p:Int):Int:=if kJ l p=true then fv (l.map (mJ p))else 0
theorem Lm(a b:List Int):fv (a++b)=fv a+fv b:=by
 induction a with
 |nil=>simp[fv]
 |cons x r ih=>simp only[List.cons_append,fv,ih];omega
theorem FQ(l:List ay)(dX:ay→Bool)(os:List (ay→ay→Int)): ∀k,0≤(hO l dX os k).1∧(hO l dX os k).1≤k∧((hO l dX os k).2=true→(hO l dX os k).1<k∧dX (l.getD (hO l dX os k).1.toNat dO)=true)
 |0=>⟨by simp[hO],by simp[hO],fun h=>by simp[hO]at h⟩
 |k+1=>by
  obtain⟨h1,h2,h3⟩:=FQ l dX os k
  rw[hO,xp]
  split
  ·
   rename_i h
   exact⟨by simp only;omega,by simp only;omega,fun _=>⟨by simp only;omega,by simpa using h.1⟩⟩
  ·
   exact⟨h1,by omega,fun h=>⟨by have:=(h3 h).1;omega,(h3 h).2⟩⟩
theorem Lo{l:List ay}{dX:ay→Bool}{os:List (ay→ay→Int)}: ∀{k},(hO l dX os k).2=false→ ∀i,i<k→dX (l.getD i dO)=false
 |0,_,i,hi=>by omega
 |k+1,h,i,hi=>by
  rw[hO,xp]at h
  split at h
  ·
   cases h
  ·
   rename_i hn
   by_cases e:i=k
   ·
    subst e
    cases hr:dX (l.getD i dO)with
    |false=>rfl
    |true=>exact absurd ⟨hr, .inl h⟩ hn
   ·
    exact Lo h i (by omega)
theorem xq{l:List ay}{p:Int}{dX:ay→Bool}{os:List (ay→ay→Int)}(h:(fu l p dX os).2=true):kJ l p=true∧0≤(fu l p dX os).1∧(fu l p dX os).1<l.length∧dX (l.getD (fu l p dX os).1.toNat dO)=true:=by
 unfold fu at h⊢
 split at h
 ·
  rename_i hw
  rw[if_pos hw]
  obtain⟨h1,h2,h3⟩:=FQ l dX os l.length
  exact⟨hw,h1,(h3 h).1,(h3 h).2⟩
 ·
  cases h
theorem rA{l:List ay}{p:Int}{dX:ay→Bool}{os:List (ay→ay→Int)}(hw:kJ l p=true)(h:(fu l p dX os).2=false): ∀x∈l,dX x=false:=fun x hx=>by
 unfold fu at h
 rw[if_pos hw]at h
 obtain⟨i,hi⟩:=List.getElem?_of_mem hx
 have eX:=(List.getElem?_eq_some_iff.1 hi).1
 have:=Lo h i eX
 rwa [show l.getD i dO=x by simp[List.getD,hi]]at this
theorem xr{α:Type}{l:List α}{i:Nat}{e:α}(he:l[i]? =some e):l.drop i=e::l.drop (i+1):=by
 obtain⟨hi,rfl⟩:=List.getElem?_eq_some_iff.1 he
 rw[List.getElem_cons_drop]
theorem T1{p:Int}{x:ay}(h:tP p x=true)(hp:1≤p):0≤mJ p x∧mJ p x≤p:=by
 obtain⟨h1,h2,h3,_⟩:=pI.1 h
 rw[mJ]
 split
 ·
  omega
 ·
  split<;>omega
theorem Lp(p:Int): ∀l:List ay,(∀x∈l,tP p x=true)→1≤p→0≤fv (l.map (mJ p))∧fv (l.map (mJ p))≤(l.length:Int)*p
 |[],_,_=>by simp[fv]
 |x::r,h,hp=>by
  have h1:=Lp p r (fun y hy=>h y (List.mem_cons_of_mem _ hy)) hp
  have h2:=T1 (h x List.mem_cons_self) hp
  rw[List.map_cons,fv,List.length_cons,Int.natCast_add,Int.add_mul]
  omega
theorem room_le{n:Nat}{p:Int}(h:n≤32)(h1:1≤p)(h2:p≤16):(n:Int)*p≤512:=by
 have:(n:Int)*p≤32*16:=Int.mul_le_mul (by omega) h2 (by omega) (by omega)
 omega
open Go.aA
structure dx(c d:CV):Prop where
 pages:d.pages=c.pages
 size:d.size=c.size
 len:d.blocks.length=c.blocks.length
theorem dx.cZ(c:CV):dx c c:=⟨rfl,rfl,rfl⟩
theorem dx.trans{c d e:CV}(h:dx c d)(g:dx d e):dx c e:=⟨g.pages.trans h.pages,g.size.trans h.size,g.len.trans h.len⟩
theorem T2(c:CV)(b g:Int)(p:List UInt8):dx c (fR c b g p):=by
 rw[fR];split
 ·
  exact⟨rfl,rfl,by simp[gG]⟩
 ·
  exact .cZ c
theorem T3(c:CV)(b:Int):dx c (fE c b):=by
 rw[fE];split
 ·
  exact⟨rfl,rfl,by simp[jH]⟩
 ·
  exact .cZ c
theorem T4(c:CV)(b:Int):dx c (kG c b):=by
 rw[kG];split
 ·
  exact⟨rfl,rfl,by simp⟩
 ·
  exact .cZ c
theorem FR{c:CV}(h:aV c=true){o:Int}{f:Bool}(h0:0≤o)(h1:o≤cP){i:Nat}{B:BV}(hB:mE c.pages c.size B=true):aV {c with ops:=o,off:=f,blocks:=c.blocks.set i B}=true:=by
 obtain⟨k1,k2,k3,k4,k5⟩:=eZ.1 h
 refine eZ.2 ⟨by simpa using k1,h0,h1,k4,fun b hb=> ?_⟩
 rcases List.mem_or_eq_of_mem_set hb with hb|rfl
 ·
  exact k5 b hb
 ·
  exact hB
theorem FT{c:CV}(h:aV c=true)(b g:Int)(p:List UInt8):aV (fR c b g p)=true:=by
 rw[fR];split
 ·
  rename_i hk
  obtain⟨k1,k2,k3,k4⟩:=hk
  obtain⟨j1,j2,j3,j4,j5⟩:=iS.1 k1
  obtain⟨o1,o2,o3,o4,o5,o6⟩:=dV.1 (n8 j1)
  have:=(eZ.1 h).2.1
  refine FR h (by omega) (by omega) (dV.2 ⟨by simpa using o1,by simp only;omega,by simp only;omega,o4,o5,fun x hx=> ?_⟩)
  rcases List.mem_or_eq_of_mem_set hx with hx|rfl
  ·
   exact o6 x hx
  ·
   rw[mG];split
   ·
    simpa[cX]using j4
   ·
    exact j4
 ·
  exact h
theorem FU{c:CV}(h:aV c=true)(b:Int):aV (fE c b)=true:=by
 rw[fE];split
 ·
  rename_i hk
  obtain⟨k1,k2,k3⟩:=hk
  obtain⟨j1,j2,j3⟩:=np.1 k1
  obtain⟨o1,o2,o3,o4,o5,o6⟩:=dV.1 (n8 j1)
  have:=(eZ.1 h).2.1
  have hs:=jW.1 (eZ.1 h).1
  have hl:(pD c (aj c b).pages).length=(aj c b).pages.length:=by rw[pD];split<;>simp
  refine FR h (by omega) (by omega) (dV.2 ⟨by rw[hl];exact o1,?_,?_,by simp only;omega,by simp only;omega,fun x hx=> ?_⟩)
  ·
   simp only;split<;>omega
  ·
   simp only;split<;>omega
  ·
   rw[pD]at hx
   split at hx
   ·
    obtain⟨y,hy,rfl⟩:=List.mem_map.1 hx
    simpa[cX]using o6 y hy
   ·
    obtain⟨y,hy,rfl⟩:=List.mem_map.1 hx
    simp only[gu,List.length_replicate];omega
 ·
  exact h
theorem Lr{c:CV}(h:aV c=true)(b:Int):aV (kG c b)=true:=by
 rw[kG];split
 ·
  rename_i hk
  have hh:gp c b=true:=by
   rw[nq]at hk
   split at hk
   ·
    assumption
   ·
    cases hk
  obtain⟨o1,o2,o3,o4,o5,o6⟩:=dV.1 (n8 hh)
  have k:=eZ.1 h
  exact FR (o:=c.ops) (f:=c.off) h k.2.1 k.2.2.1 (dV.2 ⟨o1,o2,o3,o4,o5,o6⟩)
 ·
  exact h
def dD(c:CV)(b:Int):Int:=if(aj c b).bad=true then 0 else c.pages -(aj c b).used
def iV(c:CV)(b e:Int):CV:=if e=9 then kG c b else c
def bC(c:CV)(b:Int)(p:List UInt8):Int:=jG c b (aj c b).used p
def bn(c:CV)(b:Int)(p:List UInt8):CV:=iV (fR c b (aj c b).used p) b (bC c b p)
def cY(c:CV)(b:Int):CV:=iV (fE c b) b (dG c b)
def hQ(c:CV):List UInt8:=(dg ⟨1,0,0,[]⟩ c.size).1
def fe:Nat→CV→Int→CV×Int
 |0,c,b=>(cY c b,dG c b)
 |n+1,c,b=>if bC c b (hQ c)≠0 then(bn c b (hQ c),bC c b (hQ c))else fe n (bn c b (hQ c)) b
def cA(c:CV)(b:Int):CV×Int:=fe (dD c b).toNat c b
theorem Ls{c:CV}(h:aV c=true)(b e:Int):aV (iV c b e)=true:=by
 rw[iV];split
 ·
  exact Lr h b
 ·
  exact h
theorem Cv(c:CV)(b e:Int):dx c (iV c b e):=by
 rw[iV];split
 ·
  exact T4 c b
 ·
  exact .cZ c
theorem kK{c:CV}(h:aV c=true)(b:Int)(p:List UInt8):aV (bn c b p)=true:=Ls (FT h _ _ _) _ _
theorem gU(c:CV)(b:Int)(p:List UInt8):dx c (bn c b p):=(T2 _ _ _ _).trans (Cv _ _ _)
theorem zK{c:CV}(h:aV c=true)(b:Int):aV (cY c b)=true:=Ls (FU h _) _ _
theorem sJ(c:CV)(b:Int):dx c (cY c b):=(T3 _ _).trans (Cv _ _ _)
theorem Lt: ∀(n:Nat) {c:CV} (b:Int),aV c=true→aV (fe n c b).1=true∧dx c (fe n c b).1
 |0,c,b,h=>⟨zK h b,sJ c b⟩
 |n+1,c,b,h=>by
  rw[fe];split
  ·
   exact⟨kK h _ _,gU _ _ _⟩
  ·
   have:=Lt n b (kK h b (hQ c))
   exact⟨this.1,(gU _ _ _).trans this.2⟩
theorem tT{c:CV}(b:Int)(h:aV c=true):aV (cA c b).1=true∧dx c (cA c b).1:=Lt _ b h
theorem nv{c:CV}{b:Int}{p:List UInt8}(h:bC c b p=0):mF c b (aj c b).used p=true∧c.off=false∧(aj c b).bad=false∧(br c).2=false∧bn c b p=gG c b (aj c b).used p:=by
 have h0:=h
 rw[bC,jG]at h
 by_cases h1:mF c b (aj c b).used p=true
 ·
  rw[if_pos h1]at h
  by_cases h2:c.off=true
  ·
   rw[if_pos h2]at h;cases h
  ·
   rw[if_neg h2]at h
   by_cases h3:(aj c b).bad=true∨(aj c b).used≠(aj c b).used
   ·
    rw[if_pos h3]at h;cases h
   ·
    rw[if_neg h3]at h
    have wx:(aj c b).bad=false:=by
     cases hb:(aj c b).bad with
     |false=>rfl
     |true=>exact absurd (.inl hb) h3
    by_cases h4:(br c).2=true
    ·
     rw[if_pos h4,kF]at h
     split at h<;>cases h
    ·
     refine⟨h1,by simpa using h2,wx,by simpa using h4,?_⟩
     rw[bn,iV,h0,if_neg (by decide),fR,if_pos ⟨h1,by simpa using h2,wx,rfl⟩]
 ·
  rw[if_neg h1]at h;cases h
theorem mK{c:CV}{b:Int}(h:gp c b=true){o:Int}{f:Bool}{B:BV}:aj {c with ops:=o,off:=f,blocks:=c.blocks.set b.toNat B} b=B:=by
 obtain⟨_,h2,h3⟩:=gq.1 h
 simp only[aj,List.getD,List.getElem?_set_self (show b.toNat<c.blocks.length by omega),Option.getD_some]
theorem Lu{c:CV}{b:Int}{p:List UInt8}(h:bC c b p=0):dD (bn c b p) b=dD c b -1:=by
 obtain⟨h1,h2,h3,h4,h5⟩:=nv h
 have hh:=(iS.1 h1).1
 rw[h5,dD,dD,gG,mK hh]
 simp only[h3]
 simp only[Bool.false_eq_true,if_false];omega
theorem T5{c:CV}{b:Int}(h:0<dD c b):cA c b=if bC c b (hQ c)≠0 then(bn c b (hQ c),bC c b (hQ c))else cA (bn c b (hQ c)) b:=by
 obtain⟨n,hn⟩: ∃n,(dD c b).toNat=n+1:=⟨(dD c b).toNat -1,by omega⟩
 rw[cA,hn,fe]
 split
 ·
  rfl
 ·
  rename_i h0
  have pB:bC c b (hQ c)=0:=by simpa using h0
  rw[cA,Lu pB,show(dD c b -1).toNat=n by omega]
theorem T6{c:CV}{b:Int}(h: ¬0<dD c b):cA c b=(cY c b,dG c b):=by
 rw[cA,show(dD c b).toNat=0 by omega];rfl
theorem zL(c:CV)(b e:Int):(iV c b e).ops=c.ops:=by
 rw[iV];split
 ·
  rw[kG];split<;>rfl
 ·
  rfl
theorem T7(c:CV)(b g:Int)(p:List UInt8):c.ops≤(fR c b g p).ops:=by
 rw[fR];split
 ·
  simp only[gG];omega
 ·
  omega
theorem T8(c:CV)(b:Int):c.ops≤(fE c b).ops:=by
 rw[fE];split
 ·
  simp only[jH];omega
 ·
  omega
theorem rB{c:CV}{b:Int}{p:List UInt8}(hb:(aj c b).bad=false)(he:bC c b p=9∨bC c b p=0):(bn c b p).ops=c.ops+1:=by
 rw[bn,zL,fR]
 rw[bC,jG]at he
 by_cases h1:mF c b (aj c b).used p=true
 ·
  rw[if_pos h1]at he
  by_cases h2:c.off=true
  ·
   rw[if_pos h2]at he;omega
  ·
   rw[if_pos ⟨h1,by simpa using h2,hb,rfl⟩];rfl
 ·
  rw[if_neg h1]at he;omega
theorem T9{c:CV}{b:Int}(hb:(aj c b).bad=false)(he:dG c b=9∨dG c b=0):(cY c b).ops=c.ops+1:=by
 rw[cY,zL,fE]
 rw[dG]at he
 by_cases h1:nn c b=true
 ·
  rw[if_pos h1]at he
  by_cases h2:c.off=true
  ·
   rw[if_pos h2]at he;omega
  ·
   rw[if_pos ⟨h1,by simpa using h2,hb⟩];rfl
 ·
  rw[if_neg h1]at he;omega
theorem Ua{c:CV}{b:Int}{p:List UInt8}(h:bC c b p=0):(aj (bn c b p) b).bad=false:=by
 obtain⟨h1,h2,h3,h4,h5⟩:=nv h
 rw[h5,gG,mK (iS.1 h1).1];exact h3
theorem vA(c:CV)(b:Int)(p:List UInt8):c.ops≤(bn c b p).ops:=by rw[bn,zL];exact T7 _ _ _ _
theorem Lw(c:CV)(b:Int):c.ops≤(cY c b).ops:=by rw[cY,zL];exact T8 _ _
theorem xt: ∀(n:Nat) (c:CV) (b:Int),c.ops≤(fe n c b).1.ops
 |0,c,b=>Lw c b
 |n+1,c,b=>by
  rw[fe];split
  ·
   exact vA _ _ _
  ·
   have:=xt n (bn c b (hQ c)) b
   have:=vA c b (hQ c)
   omega
theorem Ly: ∀(n:Nat) {c:CV} {b:Int},(aj c b).bad=false→(fe n c b).2=9∨(fe n c b).2=0→c.ops<(fe n c b).1.ops
 |0,c,b,hb,he=>by have:=T9 hb he;simp only[fe];omega
 |n+1,c,b,hb,he=>by
  rw[fe]at he⊢
  by_cases h0:bC c b (hQ c)≠0
  ·
   rw[if_pos h0]at he⊢
   have:=rB hb (p:=hQ c) (he.imp id fun h=>h)
   simp only;omega
  ·
   rw[if_neg h0]at he⊢
   have pB:bC c b (hQ c)=0:=by simpa using h0
   have:=Ly n (Ua pB) he
   have:=vA c b (hQ c)
   omega
theorem Cx{c:CV}{b:Int}(hb:(aj c b).bad=false)(he:(cA c b).2=9∨(cA c b).2=0):c.ops<(cA c b).1.ops:=Ly _ hb he
def bl:ay:=⟨0,0,0,true⟩
def nw(x:ay):ay:=if x.bad=true then bl else x
def av(c:CV)(fl:List Int):List ay:=(iU c fl).map nw
def gV(R:ay→Bool)(x:ay):ay:=if x.bad=true∨R x=false then bl else x
def bS(R:ay→Bool)(l:List ay):List ay:=l.map (gV R)
theorem kL(c:CV)(fl:List Int):(av c fl).length=c.blocks.length -2:=by rw[av,List.length_map,iU,xm]
theorem tU(R:ay→Bool)(l:List ay):(bS R l).length=l.length:=by simp[bS]
open Go.aA
structure WV where
 v:VV
 beyond:Bool
 deriving DecidableEq
def WV.on(x:WV)(c:CV):WV:={x with v:={x.v with ae:=c}}
theorem rC{c:Cp}{b:Int}{B:Bk}(h:c.blocks.xs[b.toNat]? =some B):aj (cv c) b=bv B:=by
 rw[←vr];simp[List.getD,h]
def lC(c:CV):Nat:=(c.blocks.filter fun b=>b.bad).length
def iW(p:List UInt8):Nat:=if(bE p).2=0 then(bE p).1.gen else 0
def pJ(l:List (List UInt8)):Nat:=l.foldl (fun m p=>max m (iW p)) 0
def gW(c:CV)(b:Int):Nat:=pJ (aj c b).pages
theorem Ub{l:List (List UInt8)}{i:Nat}{p:List UInt8}(h:l[i]? =some p):pJ (l.take (i+1))=max (pJ (l.take i)) (iW p):=by
 rw[pJ,List.take_add_one,h];simp[pJ]
theorem Lz(b:List UInt8):(cy b).1.gen<281474976710656:=by
 have:=FG b
 rw[cy]
 split
 ·
  simp[jI]
 ·
  split
  ·
   simp[jI]
  ·
   split
   ·
    simp[jI]
   ·
    split
    ·
     simp[jI]
    ·
     split
     ·
      simp[jI]
     ·
      exact this
theorem LA(p:List UInt8):iW p<281474976710656:=by
 rw[iW];split
 ·
  rw[bE];split
  ·
   simp[gH]
  ·
   split
   ·
    simp[gH]
   ·
    split
    ·
     simp[gH]
    ·
     exact Lz p
 ·
  omega
theorem FW(l:List (List UInt8)):pJ l<281474976710656:=by
 have: ∀(l:List (List UInt8)) (m:Nat),m<281474976710656→l.foldl (fun m p=>max m (iW p)) m<281474976710656:=by
  intro l
  induction l with
  |nil=>intro m h;exact h
  |cons p r ih=>
   intro m h
   have:=LA p
   exact ih _ (Nat.max_lt.2 ⟨h,this⟩)
 exact this l 0 (by omega)
def pK(c:CV)(b:Int):Bool:= !(aj c b).bad&&(decide (0<(aj c b).used)||(decide (b<2)&&decide (0<gW c b)))
def fG(c:CV)(b:Int):Nat:=max 1 (gW c (1 -b)+(1 -b).toNat)
def rD(c:CV)(last:Int):Int:=if(aj c (1 -last)).bad=true then dD c last else if(aj c last).bad=true∧0<dD c (1 -last)then dD c (1 -last)else c.pages
def vB(g:Nat):Bool:=decide (281474976710656≤g+2)
def jr(e:Int):Int:=if e=9 then 0 else e
theorem LB{f:ay→ay}{l:List ay}{i:Nat}{x:ay}(h:l[i]? =some x):((l.take i).map f++l.drop i).set i (f x)=(l.take (i+1)).map f++l.drop (i+1):=by
 have hi:=(List.getElem?_eq_some_iff.1 h).1
 have hl:((l.take i).map f).length=i:=by rw[List.length_map,List.length_take];omega
 rw[List.set_append_right _ _ (by omega),hl,Nat.sub_self,xr h,List.set_cons_zero,List.take_add_one,h]
 simp
theorem LC{f:ay→ay}{l:List ay}{i:Nat}{x:ay}(h:l[i]? =some x)(hf:f x=x):(l.take i).map f++l.drop i=(l.take (i+1)).map f++l.drop (i+1):=by
 rw[xr h,List.take_add_one,h]
 simp[hf]
theorem LD{f:ay→ay}{l:List ay}{i:Nat}{x:ay}(h:l[i]? =some x):((l.take i).map f++l.drop i)[i]? =some x:=by
 have hi:=(List.getElem?_eq_some_iff.1 h).1
 have hl:((l.take i).map f).length=i:=by rw[List.length_map,List.length_take];omega
 rw[List.getElem?_append_right (by omega),hl,Nat.sub_self,List.getElem?_drop,Nat.add_zero,h]
theorem Uc{l:List BV}{i:Nat}{x:BV}(h:l[i]? =some x):((l.take (i+1)).filter fun b=>b.bad).length=((l.take i).filter fun b=>b.bad).length+(if x.bad=true then 1 else 0):=by
 rw[List.take_add_one,h,List.filter_append,List.length_append]
 congr 1
 simp only[Option.toList_some,List.filter_cons,List.filter_nil]
 split<;>simp_all
end Go.Kb
