/- Part of a proof. -/
import Derived.Test.YtaipiecplldinaaGreatD1
import Derived.Lib.AppendZerosOnto
import Derived.Lib.Overlaps
import Derived.Lib.AppendZeros
set_option maxRecDepth 20000
set_option linter.unusedSimpArgs false
set_option linter.unusedVariables false
namespace Go.aC
structure mU where
 X:Type
 v:X→Value
 e:X→ai
section
variable {P:Program} {l:List Oper} {Q:Exit→Act→World→Prop} {fs:List Nat} {mk:Nat→mU} {w0:World}
def rY(P:Program)(o:Oper)(ρ:Operand→Value)(m:mU):Prop:= ∀(w0 w:World) (L:List ai),Mem w0 L w→ ∃(x:m.X) (w':World),(execOp ρ o).run P w= .ok (.value (m.v x)) w'∧Mem w0 (m.e x::L) w'
def upon(P:Program)(w:World)(R:Value→World→Prop):Result Next→Prop
 | .ok (.value v) w'=>R v w'
 | .ok .skip w'=>R undef w'
 | .ok (.enter f args) w'=>w'=w∧Calls P f args w fun e n7=> ∃v,e= .returned v∧R v n7
 |_=>False
def p0(P:Program)(l:List Oper)(fs:List Nat)(mk:Nat→mU)(Q:Exit→Act→World→Prop)(w0:World):List Nat→Act→List ai→List ai→Prop
 |[],af,L,_=> ∀w,Mem w0 L w→Q .normal af w
 |k::ord,af,L,Lq=> ∃o,l[k]? =some o∧(if fs.contains k=true then(∀i∈ord,fs.contains (i+2000)=true→ ∃oi,l[i]? =some oi∧oi.guard=none∧rY P oi af.eval (mk i))∧(if fs.contains (k+2000)=true then
  o.guard=none∧rY P o af.eval (mk k)∧ ∀x:(mk k).X,p0 P l fs mk Q w0 ord (af.put o.dst ((mk k).v x)) ((mk k).e x::L) Lq
  else
   Region.wanted o (yielded l.toArray af.tmps)=true∧(∀w,Mem w0 L w→upon P w (fun v w'=> ∃L' fU,Mem w0 L' w'∧(∀w,Mem w0 L' w→Mem w0 fU w)∧(∀w,Mem w0 fU w→Mem w0 Lq w)∧(fs.contains (k+5000)=true→ ∀w,Mem w0 L' w→Mem w0 L w)∧p0 P l fs mk Q w0 ord (af.put o.dst v) L' fU) ((execOp af.eval o).run P w))∧
   (fs.contains (k+4000)=true→ ∀e w,Mem w0 (e::L) w→upon P w (fun v w'=> ∃L' fU,Mem w0 (e::L') w'∧(∀w,Mem w0 L' w→Mem w0 fU w)∧(∀w,Mem w0 fU w→Mem w0 Lq w)∧(fs.contains (k+5000)=true→ ∀w,Mem w0 L' w→Mem w0 L w)∧p0 P l fs mk Q w0 ord (af.put o.dst v) L' fU) ((execOp af.eval o).run P w)))
  else∃v,(Region.wanted o (yielded l.toArray af.tmps)=true→rO P o af (Mem w0 (if fs.contains (k+1000)=true then L else Lq)) v)∧(Region.wanted o (yielded l.toArray af.tmps)=false→v=undef)∧p0 P l fs mk Q w0 ord (af.put o.dst v) L Lq)
def yG(o:Oper):List Nat:=(o.after.toList.filter fun e=>Region.binds .any e).map (·.on)
def D9(l:List Oper)(fs:List Nat)(A:List (List Nat))(prev seen:List Nat)(k:Nat)(o:Oper):Bool:=
 (!fs.contains k||fs.contains (k+2000)||fs.contains (k+5000)||(prev.all fun j=> !fs.contains (j+1000)||(A.getD k []).contains j))&&
 (match o.op with| .select .. =>false|_=>true)&&
 ((yG o).all fun j=>decide (j<k))&&
 (fs.contains (k+2000)||seen.all fun f=>(A.getD k []).contains f)&&
 ((A.getD k []).all fun f=>(yG o).any fun j=>j==f||(A.getD j []).contains f)&&
 ((List.range l.length).all fun j=>match dC l j with
  |none=>true
  |some d=>(!(o.looksAt l.toArray).contains d||(prev.contains j&&(yG o).contains j&&(!fs.contains (k+2000)|| !fs.contains j)))&&(j==k||o.dst !=some d))
def rZ(l:List Oper)(fs:List Nat)(A:List (List Nat)):List Nat→List Nat→List Nat→Bool
 |_,_,[]=>true
 |prev,seen,k::ord=>(match l[k]?with|none=>false|some o=>D9 l fs A prev seen k o)&&(!fs.contains k||fs.contains (k+2000)||(ord.all fun j=> !fs.contains (j+2000))||(fs.contains (k+4000)&&decide ((ord.filter fun j=>fs.contains (j+2000)).length≤1)))&&rZ l fs A (k::prev) (if fs.contains k then k::seen else seen) ord
def A9(l:List Oper)(fs:List Nat)(A:List (List Nat))(ord:List Nat):Bool:=
 ((List.range l.length).all fun j=>ord.contains j)&&decide ord.Nodup&&(ord.all fun j=>decide (j<l.length))&&(fs.all fun j=>decide (j<2000))&&rZ l fs A [] [] ord
def Ba(l:List Oper)(fs:List Nat)(A:List (List Nat))(ord:List Nat):Bool:=
 ((List.range l.length).all fun j=>ord.contains j)&&decide ord.Nodup&&(ord.all fun j=>decide (j<l.length))&&rZ l fs A [] [] ord
structure Ea(l:List Oper)(fs:List Nat)(A:List (List Nat))(prev seen:List Nat)(k:Nat)(o:Oper):Prop where
 tmp:fs.contains k=true→fs.contains (k+2000)=false→fs.contains (k+5000)=false→ ∀j∈prev,fs.contains (j+1000)=true→j∈A.getD k []
 sO: ∀cs b,o.op≠ .select cs b
 back: ∀e∈o.after,Region.binds .any e=true→e.on<k
 QP:fs.contains (k+2000)=false→ ∀f∈seen,f∈A.getD k []
 cert: ∀f∈A.getD k [],∃e∈o.after,Region.binds .any e=true∧(e.on=f∨f∈A.getD e.on [])
 reads: ∀j d,j<l.length→dC l j=some d→d∈o.looksAt l.toArray→j∈prev∧ ∃e∈o.after,Region.binds .any e=true∧e.on=j
 one: ∀j d,j<l.length→dC l j=some d→j≠k→o.dst≠some d
 QQ:fs.contains (k+2000)=true→ ∀j d,j<l.length→dC l j=some d→d∈o.looksAt l.toArray→fs.contains j=false
theorem Eb{o:Oper}{j:Nat}:j∈yG o↔ ∃e∈o.after,Region.binds .any e=true∧e.on=j:=by
 unfold yG
 simp only[List.mem_map,List.mem_filter]
 constructor
 ·
  rintro⟨e,⟨h1,h2⟩,h3⟩;exact⟨e,by simpa using h1,h2,h3⟩
 ·
  rintro⟨e,h1,h2,h3⟩;exact⟨e,⟨by simpa using h1,h2⟩,h3⟩
theorem QR{A:List (List Nat)}{prev seen:List Nat}{k:Nat}{o:Oper}(h:D9 l fs A prev seen k o=true):Ea l fs A prev seen k o:=by
 simp only[D9,Bool.and_eq_true]at h
 obtain⟨⟨⟨⟨⟨h0,h1⟩,h2⟩,h3⟩,h4⟩,h5⟩:=h
 refine⟨fun hk og QS j hj ht=>by
  rw[hk,og,QS,Bool.not_true,Bool.false_or,Bool.false_or,Bool.false_or]at h0
  have:=List.all_eq_true.1 h0 j hj
  rw[ht]at this
  simpa using this,fun cs b e=>by rw[e]at h1;simp at h1,fun e he hb=> ?_,fun dD f hf=> ?_,fun f hf=> ?_,fun j d hj hd hl=> ?_,fun j d hj hd bW=> ?_,fun hk j d hj hd hl=> ?_⟩
 ·
  have:=List.all_eq_true.1 h2 e.on (Eb.2 ⟨e,he,hb,rfl⟩)
  simpa using this
 ·
  rw[dD,Bool.false_or]at h3
  have:=List.all_eq_true.1 h3 f hf
  simpa using this
 ·
  have:=List.all_eq_true.1 h4 f hf
  obtain⟨j,hj,dz⟩:=List.any_eq_true.1 this
  obtain⟨e,he,hb,rfl⟩:=Eb.1 hj
  exact⟨e,he,hb,by simpa using dz⟩
 ·
  have:=List.all_eq_true.1 h5 j (List.mem_range.2 hj)
  rw[hd]at this
  simp only[Bool.and_eq_true,Bool.or_eq_true,Bool.not_eq_true']at this
  rcases this.1 with h6|h6
  ·
   exact absurd hl (by simpa using h6)
  ·
   exact⟨by simpa using h6.1.1,Eb.1 (by simpa using h6.1.2)⟩
 ·
  have:=List.all_eq_true.1 h5 j (List.mem_range.2 hj)
  rw[hd]at this
  simp only[Bool.and_eq_true,Bool.or_eq_true,beq_iff_eq]at this
  rcases this.2 with h6|h6
  ·
   exact absurd h6 bW
  ·
   simpa using h6
 ·
  have:=List.all_eq_true.1 h5 j (List.mem_range.2 hj)
  rw[hd]at this
  simp only[Bool.and_eq_true,Bool.or_eq_true,Bool.not_eq_true']at this
  rcases this.1 with h6|h6
  ·
   exact absurd hl (by simpa using h6)
  ·
   rcases h6.2 with h7|h7
   ·
    rw[hk]at h7;cases h7
   ·
    exact h7
theorem te{A:List (List Nat)}: ∀(ord prev seen:List Nat),rZ l fs A prev seen ord=true→ ∀(x:List Nat) (k:Nat) (y:List Nat),ord=x++k::y→
  ∃o,l[k]? =some o∧Ea l fs A (x.reverse++prev) ((x.filter fun j=>fs.contains j).reverse++seen) k o∧(fs.contains k=true→fs.contains (k+2000)=false→(∀j∈y,fs.contains (j+2000)=false)∨(fs.contains (k+4000)=true∧(y.filter fun j=>fs.contains (j+2000)).length≤1))
 |[],_,_,_,x,k,y,e=>by simp at e
 |k0::ord,prev,seen,h,x,k,y,e=>by
  simp only[rZ,Bool.and_eq_true]at h
  cases x with
  |nil=>
   simp only[List.nil_append,List.cons.injEq]at e
   obtain⟨rfl,rfl⟩:=e
   cases ho:l[k0]?with
   |none=>rw[ho]at h;simp at h
   |some o=>
    rw[ho]at h
    refine⟨o,rfl,by simpa using QR h.1.1,fun h1 h2=> ?_⟩
    have h3:=h.1.2
    rw[h1,h2]at h3
    simp only[Bool.not_true,Bool.false_or,Bool.or_eq_true,Bool.and_eq_true,decide_eq_true_eq]at h3
    refine h3.imp (fun h4 j hj=> ?_) id
    have:=List.all_eq_true.1 h4 j hj
    simpa using this
  |cons x0 x=>
   simp only[List.cons_append,List.cons.injEq]at e
   obtain⟨rfl,rfl⟩:=e
   obtain⟨o,ho,hk,hy⟩:=te _ _ _ h.2 x k y rfl
   refine⟨o,ho,?_,hy⟩
   have e1:(k0::x).reverse++prev=x.reverse++(k0::prev):=by simp
   have e2:(((k0::x).filter fun j=>fs.contains j).reverse++seen)=(x.filter fun j=>fs.contains j).reverse++(if fs.contains k0 then k0::seen else seen):=by
    cases hc:fs.contains k0 with
    |true=>
     rw[List.filter_cons,if_pos hc,List.reverse_cons,List.append_assoc];rfl
    |false=>
     rw[List.filter_cons,if_neg (by rw[hc];exact Bool.false_ne_true)];rfl
   rw[e1,e2];exact hk
def nC(N0 d:Nat)(v:Value)(a:Act):Prop:=a.tmps[d]? =if d<N0 then some v else none
theorem we{N0 d:Nat}{v:Value}{a:Act}(h:a.tmps.size=N0):nC N0 d v (a.put (some d) v):=by
 subst h
 unfold nC
 simp[Act.put,Array.getElem?_setIfInBounds]
def Ec(P:Program)(l:List Oper)(w0:World)(N0 k:Nat)(af:Act)(Lq:List ai):Prop:=
 ∃o v,l[k]? =some o∧(∀d,o.dst=some d→nC N0 d v af)∧(Region.wanted o (yielded l.toArray af.tmps)=true→rO P o af (Mem w0 Lq) v)∧(Region.wanted o (yielded l.toArray af.tmps)=false→v=undef)
def Early(l:List Oper)(fs:List Nat)(mk:Nat→mU)(N0:Nat)(gC:List Nat)(bf:Array Bool)(a:Act)(e:Nat×ai):Prop:=
 e.1∈gC∧bf.getD e.1 true=true∧fs.contains e.1=true∧fs.contains (e.1+2000)=true∧ ∃o,∃x:(mk e.1).X,l[e.1]? =some o∧e.2=(mk e.1).e x∧ ∀d,o.dst=some d→nC N0 d ((mk e.1).v x) a
structure Core(P:Program)(l:List Oper)(fs:List Nat)(mk:Nat→mU)(Q:Exit→Act→World→Prop)(w0:World)(ord:List Nat)(a0:Act)(pre gC:List Nat)(af:Act)(L Lq:List ai)(E:List (Nat×ai))(bf:Array Bool)(a:Act)(w:World):Prop where
 ord:ord=pre++gC
 inv:HeadInv .any l.toArray l.length bf
 mem:Mem w0 (E.map (·.2)++L) w
 ou: ∀e∈E,Early l fs mk a0.tmps.size gC bf a e
 keys:(E.map (·.1)).Nodup
 wg: ∀w,Mem w0 L w→Mem w0 Lq w
 uK:p0 P l fs mk Q w0 gC af L Lq
 size:a.tmps.size=a0.tmps.size
 oS:af.tmps.size=a0.tmps.size
 defers:a.defers=a0.defers
 qL:af.defers=a0.defers
 sub: ∀j,j<l.length→bf.getD j true=true→j∈pre∨j∈E.map (·.1)
 fresh: ∀j∈pre,fs.contains j=true→bf.getD j true=true
 tg: ∀j∈pre,bf.getD j true=false→Ec P l w0 a0.tmps.size j af (if fs.contains (j+1000)=true then L else Lq)
 done: ∀j d,j<l.length→bf.getD j true=true→j∈pre→dC l j=some d→a.tmps[d]? =af.tmps[d]?
 rest: ∀d,(∀j,j<l.length→bf.getD j true=true→dC l j≠some d)→a.tmps[d]? =a0.tmps[d]?
 full: ∀d,(∀j∈pre,dC l j≠some d)→af.tmps[d]? =a0.tmps[d]?
variable {A:List (List Nat)} {ord:List Nat} {a0:Act}
theorem yH{o:Oper}(hn: ∀cs b,o.op≠ .select cs b){a b:Act}(h: ∀t∈o.looksAt l.toArray,a.tmps[t]? =b.tmps[t]?):
  execOp a.eval o=execOp b.eval o∧Region.wanted o (yielded l.toArray a.tmps)=Region.wanted o (yielded l.toArray b.tmps):=
 ⟨execOp_congr o hn (DC h),Ib h⟩
theorem Ja{o:Oper}{a b:Act}{C D:World→Prop}{v:Value}(e:execOp a.eval o=execOp b.eval o)(hD: ∀w,D w→C w)(h:rO P o a C v):rO P o b D v:=fun w hw=>by
 have:=h w (hD w hw)
 unfold Oper.quietAt at this⊢
 rw[←e];exact this
theorem wh{pre gC:List Nat}{i k N0:Nat}{af:Act}{Lq fU:List ai}{oi:Oper}{u:Value}(hB:rZ l fs A [] [] ord=true)(ct:ord.Nodup)(bp: ∀j∈ord,j<l.length)(ho:ord=pre++i::gC)(ui:l[i]? =some oi)(hk:k∈pre)(hq: ∀w,Mem w0 fU w→Mem w0 Lq w)
  (h:Ec P l w0 N0 k af Lq):Ec P l w0 N0 k (af.put oi.dst u) fU:=by
 obtain⟨o,v,h1,h2,h3,h4⟩:=h
 obtain⟨x,y,rfl⟩:=List.append_of_mem hk
 have ny:ord=x++k::(y++i::gC):=by rw[ho];simp
 obtain⟨o',nD,bP,-⟩:=te ord [] [] hB x k _ ny
 have:o'=o:=by rw[h1]at nD;exact(Option.some.inj nD).symm
 subst this
 have eP:i<l.length:=(List.getElem?_eq_some_iff.1 ui).1
 have ki:dC l i=oi.dst:=by simp[dC,ui]
 have mh:i≠k:=fun e=>by
  subst e
  rw[ny]at ct
  have:=(List.nodup_append.1 ct).2.1
  exact(List.nodup_cons.1 this).1 (by simp)
 have Jb:i∉x:=fun hx=>by
  rw[ny]at ct
  exact(List.nodup_append.1 ct).2.2 i hx i (by simp) rfl
 have Ed: ∀t∈o'.looksAt l.toArray,af.tmps[t]? =(af.put oi.dst u).tmps[t]? :=fun t ht=>by
  refine(jk _ _ _ _ fun e=> ?_).symm
  obtain⟨hp,_⟩:=bP.reads i t eP (by rw[ki];exact e) ht
  rw[List.append_nil,List.mem_reverse]at hp
  exact Jb hp
 obtain⟨e1,e2⟩:=yH bP.sO Ed
 refine⟨o',v,h1,fun d hd=> ?_,fun hw=>Ja e1 hq (h3 (by rw[e2];exact hw)),fun hw=>h4 (by rw[e2];exact hw)⟩
 have:=h2 d hd
 unfold nC at this⊢
 rw[jk _ _ _ _ fun e=> ?_]
 ·
  exact this
 ·
  exact bP.one i d eP (by rw[ki];exact e) mh hd
theorem QT{E:List (Nat×ai)}{k:Nat}(h:k∈E.map (·.1)): ∃E1 x E2,E=E1++(k,x)::E2:=by
 obtain⟨e,he,rfl⟩:=List.mem_map.1 h
 obtain⟨E1,E2,rfl⟩:=List.append_of_mem he
 exact⟨E1,e.2,E2,rfl⟩
theorem Bb(hB:rZ l fs A [] [] ord=true)(ct:ord.Nodup)(bp: ∀j∈ord,j<l.length): ∀(gC pre:List Nat) (af:Act) {L Lq:List ai} {E:List (Nat×ai)} {bf:Array Bool} {a:Act} {w:World},Core P l fs mk Q w0 ord a0 pre gC af L Lq E bf a w→
  ∃QU Ee QV L' E',Core P l fs mk Q w0 ord a0 QU Ee QV L' Lq E' bf a w∧(Ee=[]∨ ∃f r,Ee=f::r∧fs.contains f=true∧f∉E'.map (·.1))
 |[],pre,af,L,_,E,_,_,_,H=>⟨pre,[],af,L,E,H, .inl rfl⟩
 |k::gC,pre,af,L,Lq,E,bf,a,w,H=>by
  have mi:k∉pre:=fun h=>by
   have nE:=ct
   rw[H.ord]at nE
   exact(List.nodup_append.1 nE).2.2 k h k (by simp) rfl
  have g9: ∀j,j∈pre→j≠k:=fun j hj e=>mi (e▸hj)
  have hks:k∉gC:=fun h=>by
   have nE:=ct
   rw[H.ord]at nE
   exact(List.nodup_cons.1 (List.nodup_append.1 nE).2.1).1 h
  obtain⟨o',p6,bP,-⟩:=te ord [] [] hB pre k gC H.ord
  have yI:k<l.length:=(List.getElem?_eq_some_iff.1 p6).1
  have Bc:dC l k=o'.dst:=by simp[dC,p6]
  cases hf:fs.contains k with
  |true=>
   by_cases hE:k∈E.map (·.1)
   ·
    obtain⟨E1,x,E2,rfl⟩:=QT hE
    obtain⟨_,eQ,_,dD,oe,b,Jc,hx,nF⟩:=H.ou (k,x) (by simp)
    simp only at eQ dD Jc hx nF
    have e0:oe=o':=by rw[Jc]at p6;exact Option.some.inj p6
    subst e0
    obtain⟨o,nD,hl⟩:=H.uK
    rw[if_pos hf,if_pos dD]at hl
    have e1:o=oe:=by rw[nD]at p6;exact Option.some.inj p6
    subst e1
    obtain⟨_,_,_,wi⟩:=hl
    have QW:(((E1++(k,x)::E2).map (·.2))++L).Perm (((E1++E2).map (·.2))++x::L):=by
     simp only[List.map_append,List.map_cons,List.append_assoc,List.cons_append]
     exact List.Perm.append_left _ (List.perm_middle.symm)
    have Ef:=H.keys
    simp only[List.map_append,List.map_cons]at Ef
    have QX: ∀e∈E1++E2,e.1≠k:=fun e he e2=>by
     obtain⟨n1,n2,n3⟩:=List.nodup_append.1 Ef
     rcases List.mem_append.1 he with h|h
     ·
      exact n3 e.1 (List.mem_map_of_mem h) k (by simp) e2
     ·
      exact(List.nodup_cons.1 n2).1 (e2▸List.mem_map_of_mem h)
    refine Bb hB ct bp gC (pre++[k]) (af.put o.dst ((mk k).v b)) (L:=x::L) (E:=E1++E2) ⟨by rw[H.ord];simp,H.inv,H.mem.perm QW,fun e he=> ?_,?_,fun w hw=>H.wg w (hw.sub (List.sublist_cons_self _ _)),by rw[hx];exact wi b,H.size,by rw[qI];exact H.oS,H.defers,by rw[qJ];exact H.qL,fun j hj hl=> ?_,fun j hj pQ=> ?_,fun j hj hl=> ?_,fun j d hj hl qV hd=> ?_,H.rest,fun d hd=> ?_⟩
    ·
     have hm:e∈E1++(k,x)::E2:=by
      rcases List.mem_append.1 he with h|h
      ·
       exact List.mem_append_left _ h
      ·
       exact List.mem_append_right _ (List.mem_cons_of_mem _ h)
     obtain⟨g1,g2⟩:=H.ou e hm
     exact⟨(List.mem_cons.1 g1).resolve_left (QX e he),g2⟩
    ·
     rw[List.map_append]
     exact Ef.sublist (List.Sublist.append_left (List.sublist_cons_self _ _) _)
    ·
     rcases H.sub j hj hl with h|h
     ·
      exact .inl (List.mem_append_left _ h)
     ·
      simp only[List.map_append,List.map_cons,List.mem_append,List.mem_cons]at h
      rcases h with h|h|h
      ·
       exact .inr (by simp only[List.map_append,List.mem_append];exact .inl h)
      ·
       exact .inl (by rw[h];simp)
      ·
       exact .inr (by simp only[List.map_append,List.mem_append];exact .inr h)
    ·
     rcases List.mem_append.1 hj with h|h
     ·
      exact H.fresh j h pQ
     ·
      obtain rfl:=List.mem_singleton.1 h;exact eQ
    ·
     rcases List.mem_append.1 hj with h|h
     ·
      have hp:=H.tg j h hl
      cases uL:fs.contains (j+1000)with
      |true=>
       rw[uL]at hp
       simp only[if_true]at hp⊢
       exact wh hB ct bp H.ord nD h (fun w hw=>hw.sub (List.sublist_cons_self _ _)) hp
      |false=>
       rw[uL]at hp
       simp only[Bool.false_eq_true,if_false]at hp⊢
       exact wh hB ct bp H.ord nD h (fun _ h=>h) hp
     ·
      obtain rfl:=List.mem_singleton.1 h
      rw[eQ]at hl;cases hl
    ·
     rcases List.mem_append.1 qV with h|h
     ·
      rw[jk _ _ _ _ (bP.one j d hj hd (g9 j h))]
      exact H.done j d hj hl h hd
     ·
      obtain rfl:=List.mem_singleton.1 h
      rw[Bc]at hd
      have h3:=nF d hd
      rw[hd]
      have h4:nC a0.tmps.size d ((mk j).v b) (af.put (some d) ((mk j).v b)):=we H.oS
      unfold nC at h3 h4
      rw[h3,h4]
    ·
     rw[jk _ _ _ _ (by have:=hd k (by simp);rwa [Bc]at this)]
     exact H.full d fun j hj=>hd j (List.mem_append_left _ hj)
   ·
    exact⟨pre,k::gC,af,L,E,H, .inr ⟨k,gC,rfl,hf,hE⟩⟩
  |false=>
   obtain⟨o,nD,hl⟩:=H.uK
   rw[if_neg (by rw[hf];exact Bool.false_ne_true)]at hl
   obtain⟨v,h1,h2,h3⟩:=hl
   have:o'=o:=by rw[nD]at p6;exact(Option.some.inj p6).symm
   subst this
   have Ed: ∀t∈o'.looksAt l.toArray,af.tmps[t]? =(af.put o'.dst v).tmps[t]? :=fun t ht=>by
    refine(jk _ _ _ _ fun e=> ?_).symm
    obtain⟨hp,_⟩:=bP.reads k t yI (by rw[Bc];exact e) ht
    rw[List.append_nil,List.mem_reverse]at hp
    exact mi hp
   obtain⟨e1,e2⟩:=yH bP.sO Ed
   refine Bb hB ct bp gC (pre++[k]) (af.put o'.dst v) ⟨by rw[H.ord];simp,H.inv,H.mem,fun e he=> ?_,H.keys,H.wg,h3,H.size,by rw[qI];exact H.oS,H.defers,by rw[qJ];exact H.qL,fun j hj hl=>(H.sub j hj hl).imp_left fun h=>List.mem_append_left _ h,fun j hj pQ=> ?_,fun j hj hl=> ?_,fun j d hj hl qV hd=> ?_,H.rest,fun d hd=> ?_⟩
   ·
    obtain⟨g1,g2,g3,g4⟩:=H.ou e he
    exact⟨(List.mem_cons.1 g1).resolve_left (fun e2=>by rw[e2,hf]at g3;cases g3),g2,g3,g4⟩
   ·
    rcases List.mem_append.1 hj with h|h
    ·
     exact H.fresh j h pQ
    ·
     obtain rfl:=List.mem_singleton.1 h
     rw[hf]at pQ;cases pQ
   ·
    rcases List.mem_append.1 hj with h|h
    ·
     exact wh hB ct bp H.ord nD h (fun _ h=>h) (H.tg j h hl)
    ·
     obtain rfl:=List.mem_singleton.1 h
     refine⟨o',v,nD,fun d hd=>by rw[hd];exact we H.oS,fun hw=>Ja e1 (fun _ h=>h) (h1 (by rw[e2];exact hw)),fun hw=>h2 (by rw[e2];exact hw)⟩
   ·
    rcases List.mem_append.1 qV with h|h
    ·
     rw[jk _ _ _ _ (bP.one j d hj hd (g9 j h))]
     exact H.done j d hj hl h hd
    ·
     obtain rfl:=List.mem_singleton.1 h
     rcases H.sub j hj hl with h5|h5
     ·
      exact absurd h5 mi
     ·
      obtain⟨e,he,QY⟩:=List.mem_map.1 h5
      obtain⟨_,_,g3,_⟩:=H.ou e he
      rw[QY,hf]at g3;cases g3
   ·
    rw[jk _ _ _ _ (by have:=hd k (by simp);rwa [Bc]at this)]
    exact H.full d fun j hj=>hd j (List.mem_append_left _ hj)
theorem Jd{x p1 y y':List Nat}{i:Nat}(hn:(p1++i::y').Nodup)(h:x++i::y=p1++i::y'):x=p1:=by
 induction x generalizing p1 with
 |nil=>
  cases p1 with
  |nil=>rfl
  |cons q p1=>
   simp only[List.nil_append,List.cons_append,List.cons.injEq]at h
   obtain⟨rfl,_⟩:=h
   exact absurd (by simp) (List.nodup_cons.1 hn).1
 |cons c x ih=>
  cases p1 with
  |nil=>
   simp only[List.nil_append,List.cons_append,List.cons.injEq]at h
   obtain⟨rfl,h2⟩:=h
   rw[←h2]at hn
   exact absurd (by simp) (List.nodup_cons.1 hn).1
  |cons q p1=>
   simp only[List.cons_append,List.cons.injEq]at h
   obtain⟨rfl,h2⟩:=h
   rw[ih (List.nodup_cons.1 hn).2 h2]
theorem Je{bf:Array Bool}(hB:rZ l fs A [] [] ord=true)(gL: ∀j,j<l.length→j∈ord)(inv:HeadInv .any l.toArray l.length bf): ∀(k:Nat) (o:Oper),l[k]? =some o→(∀e∈o.after,Region.binds .any e=true→bf.getD e.on false=true)→
  ∀f∈A.getD k [],bf.getD f false=true:=by
 intro k
 induction k using Nat.strongRecOn with
 |_ k ih=>
  intro o nD hd f hf
  obtain⟨x,y,hx⟩:=List.append_of_mem (gL k (List.getElem?_eq_some_iff.1 nD).1)
  obtain⟨o',p6,bP,-⟩:=te ord [] [] hB x k y hx
  have:o'=o:=by rw[nD]at p6;exact(Option.some.inj p6).symm
  subst this
  obtain⟨e,he,hb,h⟩:=bP.cert f hf
  have hl:=hd e he hb
  rcases h with rfl|h
  ·
   exact hl
  ·
   have bp:=bP.back e he hb
   have Bd:e.on<l.length:=by have:=(List.getElem?_eq_some_iff.1 nD).1;omega
   exact ih e.on bp l[e.on] (by simp[Bd]) (inv.closed e.on _ (by simp[Bd]) hl) f h
theorem Be{bf:Array Bool}{i:Nat}(hi:i<bf.size)(h:bf.getD i false=true):bf.getD i true=true:=by
 simp[hi]at h⊢;exact h
theorem Bf(hB:rZ l fs A [] [] ord=true)(ct:ord.Nodup)(bp: ∀j∈ord,j<l.length)(gL: ∀j,j<l.length→j∈ord)(wj: ∀k,k<l.length→fs.contains k=false→fs.contains (k+2000)=false):
  ∀(m:Nat) (pre gC:List Nat) (af:Act) (L Lq:List ai) (E:List (Nat×ai)) (bf:Array Bool) (a:Act) (w:World),left l.length bf=m→Core P l fs mk Q w0 ord a0 pre gC af L Lq E bf a w→wpAny P .any l.toArray Q m bf a w
 |0,Eg,Eh,Ei,L0,Lq,E0,bf,a,w,hm,H0=>by
  obtain⟨pre,gC,af,L,E,H,Ej⟩:=Bb hB ct bp Eh Eg Ei H0
  have hG: ∀j,j<l.length→bf.getD j true=true:=fun j hj=>by
   cases h:bf.getD j true with
   |true=>rfl
   |false=>
    have:j∈(List.range l.length).filter fun i=> !bf.getD i true:=List.mem_filter.2 ⟨List.mem_range.2 hj,by rw[h];rfl⟩
    rw[List.length_eq_zero_iff.1 hm]at this
    cases this
  have hr:Region.ready .any l.toArray bf=[]:=by
   refine List.eq_nil_iff_forall_not_mem.2 fun i hi=> ?_
   obtain⟨h1,o,h2,_⟩:=mem_ready.1 hi
   rw[hG i (by have:=(Array.getElem?_eq_some_iff.1 h2).1;simpa using this)]at h1;cases h1
  have Ek:gC=[]:=by
   rcases Ej with h|⟨k,r,hs,_,hE⟩
   ·
    exact h
   ·
    exfalso
    have hk:k∈ord:=by rw[H.ord,hs];simp
    rcases H.sub k (bp k hk) (hG k (bp k hk))with this|this
    ·
     have nE:=ct
     rw[H.ord,hs]at nE
     exact absurd rfl ((List.nodup_append.1 nE).2.2 k this k (by simp))
    ·
     exact hE this
  have hE:E=[]:=List.eq_nil_iff_forall_not_mem.2 fun e he=>by
   have:=(H.ou e he).1
   rw[Ek]at this;cases this
  have wi:=H.uK
  rw[Ek]at wi
  have El:=H.ord
  rw[Ek,List.append_nil]at El
  have e1:a=af:=by
   have:a.tmps=af.tmps:=by
    apply Array.ext_getElem?
    intro d
    by_cases hw: ∃j,j<l.length∧dC l j=some d
    ·
     obtain⟨j,hj,hd⟩:=hw
     exact H.done j d hj (hG j hj) (by rw[←El];exact gL j hj) hd
    ·
     have h1: ∀j,j<l.length→dC l j≠some d:=fun j hj hd=>hw ⟨j,hj,hd⟩
     rw[H.rest d fun j hj _=>h1 j hj,H.full d fun j hj=>h1 j (bp j (by rw[El];exact hj))]
   have h2:a.defers=af.defers:=by rw[H.defers,H.qL]
   cases a;cases af
   simp_all
  subst e1
  have ko:=H.mem
  rw[hE]at ko
  exact⟨hr,wi w (by simpa using ko)⟩
 |m+1,Eg,Eh,Ei,L0,Lq,E0,bf,a,w,hm,H0=>by
  obtain⟨pre,gC,af,L,E,H,Ej⟩:=Bb hB ct bp Eh Eg Ei H0
  have Jf:Mem w0 L w:=H.mem.sub (List.sublist_append_right _ _)
  obtain⟨i0,ye,AF,yf⟩: ∃i,i<l.length∧bf.getD i true=false∧ ∀j,j<i→bf.getD j true=true:=by
   have bW: ∃i,i<l.length∧bf.getD i true=false:=by
    cases hf:(List.range l.length).filter fun i=> !bf.getD i true with
    |nil=>rw[left,hf]at hm;cases hm
    |cons i r=>
     have:i∈(List.range l.length).filter fun i=> !bf.getD i true:=by rw[hf];simp
     obtain⟨h1,h2⟩:=List.mem_filter.1 this
     exact⟨i,List.mem_range.1 h1,by simpa using h2⟩
   obtain⟨i,h1,h2⟩:=bW
   induction i using Nat.strongRecOn with
   |_ i ih=>
    by_cases h: ∃j,j<i∧bf.getD j true=false
    ·
     obtain⟨j,hj,dz⟩:=h
     exact ih j hj (by omega) dz
    ·
     refine⟨i,h1,h2,fun j hj=> ?_⟩
     cases hh:bf.getD j true with
     |true=>rfl
     |false=>exact absurd ⟨j,hj,hh⟩ h
  have fc:bf.size=l.length:=by simpa using H.inv.size
  have ok: ∀k,k<l.length→ ∃x y o,ord=x++k::y∧l[k]? =some o∧Ea l fs A (x.reverse++[]) ((x.filter fun j=>fs.contains j).reverse++[]) k o:=fun k hk=>by
   obtain⟨x,y,hx⟩:=List.append_of_mem (gL k hk)
   obtain⟨o,ho,bP,-⟩:=te ord [] [] hB x k y hx
   exact⟨x,y,o,hx,ho,bP⟩
  have yg:i0∈Region.ready .any l.toArray bf:=by
   obtain⟨x,y,o,_,ho,bP⟩:=ok i0 ye
   refine mem_ready.2 ⟨AF,o,by simpa using ho,fun e he hb=> ?_⟩
   have h1:=bP.back e he hb
   have h2:=yf e.on h1
   have h3:e.on<bf.size:=by omega
   simp[h3]at h2⊢;exact h2
  refine⟨fun h=>(by rw[h]at yg;cases yg),fun i hi=> ?_⟩
  obtain⟨g9,o',ny,oT⟩:=mem_ready.1 hi
  have r8:i<l.length:=by have:=(Array.getElem?_eq_some_iff.1 ny).1;simpa using this
  obtain⟨x,y,o,hx,ho,bP⟩:=ok i r8
  have:o'=o:=by simpa[ho]using ny.symm
  subst this
  have qM:left l.length (bf.setIfInBounds i true)=m:=by have:=Ie r8 g9;omega
  have ki:dC l i=o'.dst:=by simp[dC,ho]
  have gD: ∀j,j≠i→(bf.setIfInBounds i true).getD j true=bf.getD j true:=fun j cn=>getD_set_ne true (Ne.symm cn)
  have n9:(bf.setIfInBounds i true).getD i true=true:=by simp[show i<bf.size by omega]
  have qW: ∀j d,j<l.length→dC l j=some d→j≠i→o'.dst≠some d:=bP.one
  have Jg:(∀j∈x,j∈pre)→ ∀t∈o'.looksAt l.toArray,a.tmps[t]? =af.tmps[t]? :=fun iB t ht=>by
   by_cases hw: ∃j,j<l.length∧dC l j=some t
   ·
    obtain⟨j,hj,hd⟩:=hw
    obtain⟨oR,e,he,hb,ft⟩:=bP.reads j t hj hd ht
    have hl:=oT e he hb
    rw[ft]at hl
    rw[List.append_nil,List.mem_reverse]at oR
    exact H.done j t hj (Be (by omega) hl) (iB j oR) hd
   ·
    have h1: ∀j,j<l.length→dC l j≠some t:=fun j hj hd=>hw ⟨j,hj,hd⟩
    rw[H.rest t fun j hj _=>h1 j hj,H.full t fun j hj=>h1 j (bp j (by rw[H.ord];exact List.mem_append_left _ hj))]
  by_cases p8:i∈pre
  ·
   have iB: ∀j∈x,j∈pre:=fun j hj=>by
    obtain⟨p1,p2,hp⟩:=List.append_of_mem p8
    have h1:=H.ord
    rw[hp,hx,List.append_assoc,List.cons_append]at h1
    have yJ:=ct
    rw[hx]at yJ
    have h2:x=p1:=Jd (h1▸yJ) h1
    rw[hp,←h2];exact List.mem_append_left _ hj
   obtain⟨ee,ew⟩:=yH bP.sO (Jg iB)
   obtain⟨op,v,dN,QZ,Bg,Q0⟩:=H.tg i p8 g9
   have:op=o':=by rw[ho]at dN;exact(Option.some.inj dN).symm
   subst this
   have jl:fs.contains i=false:=by
    cases h:fs.contains i with
    |false=>rfl
    |true=>have:=H.fresh i p8 h;rw[g9]at this;cases this
   have next: ∀w',Mem w [] w'→wpAny P .any l.toArray Q m (bf.setIfInBounds i true) (a.put op.dst v) w':=fun w' gB=>by
    refine Bf hB ct bp gL wj m pre gC af L Lq E _ _ w' qM ⟨H.ord,H.inv.set hi r8,by simpa using H.mem.call gB,fun e he=> ?_,H.keys,H.wg,H.uK,by rw[qI];exact H.size,H.oS,by rw[qJ];exact H.defers,H.qL,fun j hj hl=> ?_,fun j hj hf=> ?_,fun j hj hl=> ?_,fun j d hj hl qV hd=> ?_,fun d hd=> ?_,H.full⟩
    ·
     obtain⟨g1,g2,g3,g4,oe,b,g5,g7,g8⟩:=H.ou e he
     have yK:e.1≠i:=fun e2=>by
      have nE:=ct
      rw[H.ord]at nE
      exact(List.nodup_append.1 nE).2.2 i p8 e.1 g1 e2.symm
     refine⟨g1,by rw[gD _ yK];exact g2,g3,g4,oe,b,g5,g7,fun d hd=> ?_⟩
     have:=g8 d hd
     unfold nC at this⊢
     rw[jk _ _ _ _ (qW e.1 d (List.getElem?_eq_some_iff.1 g5).1 (by simp[dC,g5,hd]) yK)]
     exact this
    ·
     by_cases cn:j=i
     ·
      subst cn;exact .inl p8
     ·
      exact H.sub j hj (by rw[←gD j cn];exact hl)
    ·
     rw[gD j (fun e=>by subst e;rw[jl]at hf;cases hf)];exact H.fresh j hj hf
    ·
     exact H.tg j hj (by rw[←gD j (fun e=>by subst e;rw[n9]at hl;cases hl)];exact hl)
    ·
     by_cases cn:j=i
     ·
      subst cn
      rw[ki]at hd
      have h2:=QZ d hd
      rw[hd]
      have h3:nC a0.tmps.size d v (a.put (some d) v):=we H.size
      unfold nC at h2 h3
      rw[h2,h3]
     ·
      rw[gD j cn]at hl
      rw[jk _ _ _ _ (qW j d hj hd cn)]
      exact H.done j d hj hl qV hd
    ·
     have h1:op.dst≠some d:=by
      have:=hd i r8 n9
      rwa [ki]at this
     rw[jk _ _ _ _ h1]
     refine H.rest d fun j hj hl=> ?_
     by_cases cn:j=i
     ·
      subst cn;rw[ki];exact h1
     ·
      exact hd j hj (by rw[gD j cn];exact hl)
   unfold wpOp
   simp only[ny]
   rw[ew]
   split
   ·
    rename_i oU
    have h1:=Bg oU w (by
     split
     ·
      exact Jf
     ·
      exact H.wg w Jf)
    refine .inl ?_
    unfold Oper.wp
    rw[ee]
    unfold Oper.quietAt at h1
    generalize(execOp af.eval op).run P w=r at h1
    unfold Oper.quietUpon at h1
    split at h1
    ·
     obtain⟨rfl,rfl⟩:=h1;exact next _ (Mem.init _)
    ·
     obtain⟨rfl,e⟩:=h1;rw[e]at next;exact next _ (Mem.init _)
    ·
     obtain⟨rfl,rQ⟩:=h1
     exact rQ.mono fun e n7 ⟨he,hm⟩=>by subst he;exact next _ hm
    ·
     exact h1.elim
   ·
    rename_i oU
    have:=Q0 (by simpa using oU)
    rw[this]at next
    exact next w (Mem.init _)
  ·
   have Em:i∈gC:=by
    have:=gL i r8
    rw[H.ord]at this
    exact(List.mem_append.1 this).resolve_left p8
   rcases Ej with rfl|⟨f,r,rfl,ov,yL⟩
   ·
    cases Em
   have Q1: ∀(v:Value) (j d:Nat),j<l.length→(bf.setIfInBounds i true).getD j true=true→j∈pre→dC l j=some d→(a.put o'.dst v).tmps[d]? =af.tmps[d]? :=fun v j d hj hl qV hd=>by
    have cn:j≠i:=fun e=>p8 (e▸qV)
    rw[gD j cn]at hl
    rw[jk _ _ _ _ (qW j d hj hd cn)]
    exact H.done j d hj hl qV hd
   have Bh: ∀(v:Value) (d:Nat),(∀j,j<l.length→(bf.setIfInBounds i true).getD j true=true→dC l j≠some d)→(a.put o'.dst v).tmps[d]? =a0.tmps[d]? :=fun v d hd=>by
    have h1:o'.dst≠some d:=by
     have:=hd i r8 n9
     rwa [ki]at this
    rw[jk _ _ _ _ h1]
    refine H.rest d fun j hj hl=> ?_
    by_cases cn:j=i
    ·
     subst cn;rw[ki];exact h1
    ·
     exact hd j hj (by rw[gD j cn];exact hl)
   have En:i∉E.map (·.1):=fun h=>by
    obtain⟨e,he,rfl⟩:=List.mem_map.1 h
    have:=(H.ou e he).2.1
    rw[g9]at this;cases this
   have Jh: ∀(v:Value),∀e∈E,Early l fs mk a0.tmps.size (f::r) (bf.setIfInBounds i true) (a.put o'.dst v) e:=fun v e he=>by
    obtain⟨g1,g2,g3,g4,oe,b,g5,g7,g8⟩:=H.ou e he
    have yK:e.1≠i:=fun e2=>En (e2▸List.mem_map_of_mem he)
    refine⟨g1,by rw[gD _ yK];exact g2,g3,g4,oe,b,g5,g7,fun d hd=> ?_⟩
    have:=g8 d hd
    unfold nC at this⊢
    rw[jk _ _ _ _ (qW e.1 d (List.getElem?_eq_some_iff.1 g5).1 (by simp[dC,g5,hd]) yK)]
    exact this
   by_cases Ji:i=f
   ·
    subst Ji
    have iB: ∀j∈x,j∈pre:=fun j hj=>by
     have h1:=H.ord
     rw[hx]at h1
     have yJ:=ct
     rw[hx]at yJ
     have h2:x=pre:=Jd (h1▸yJ) h1
     rw[←h2];exact hj
    obtain⟨ee,ew⟩:=yH bP.sO (Jg iB)
    obtain⟨of,oV,hl⟩:=H.uK
    have:of=o':=by rw[ho]at oV;exact(Option.some.inj oV).symm
    subst this
    rw[if_pos ov]at hl
    replace hl:=hl.2
    have next: ∀v w' E' L' fU,E'=E→(∀e∈E,e.1∈r)→Mem w0 (E'.map (·.2)++L') w'→(∀w,Mem w0 L' w→Mem w0 fU w)→(∀w,Mem w0 fU w→Mem w0 Lq w)→(fs.contains (i+2000)=true∨fs.contains (i+5000)=true→ ∀w,Mem w0 L' w→Mem w0 L w)→p0 P l fs mk Q w0 r (af.put of.dst v) L' fU→wpAny P .any l.toArray Q m (bf.setIfInBounds i true) (a.put of.dst v) w':=fun v w' E' L' fU uM uN g1 g2 g3 Jj g4=>by
     subst uM
     refine Bf hB ct bp gL wj m (pre++[i]) r (af.put of.dst v) L' fU E' _ _ w' qM ⟨by rw[H.ord];simp,H.inv.set hi r8,g1,fun e he=> ?_,H.keys,g2,g4,by rw[qI];exact H.size,by rw[qI];exact H.oS,by rw[qJ];exact H.defers,by rw[qJ];exact H.qL,fun j hj mj=> ?_,fun j hj hf=> ?_,fun j hj mj=> ?_,fun j d hj mj qV hd=> ?_,Bh v,fun d hd=> ?_⟩
     ·
      obtain⟨g1',Q2⟩:=Jh v e he
      exact⟨uN e he,Q2⟩
     ·
      by_cases cn:j=i
      ·
       subst cn;exact .inl (by simp)
      ·
       exact(H.sub j hj (by rw[←gD j cn];exact mj)).imp_left fun h=>List.mem_append_left _ h
     ·
      rcases List.mem_append.1 hj with h|h
      ·
       by_cases cn:j=i
       ·
        subst cn;exact n9
       ·
        rw[gD j cn];exact H.fresh j h hf
      ·
       obtain rfl:=List.mem_singleton.1 h;exact n9
     ·
      rcases List.mem_append.1 hj with h|h
      ·
       have cn:j≠i:=fun e=>p8 (e▸h)
       cases uL:fs.contains (j+1000)with
       |true=>
        cases ow:fs.contains (i+2000)with
        |true=>
         have hp:=H.tg j h (by rw[←gD j cn];exact mj)
         rw[uL]at hp
         simp only[if_true]at hp⊢
         exact wh hB ct bp H.ord ho h (Jj (.inl ow)) hp
        |false=>
         cases h5:fs.contains (i+5000)with
         |true=>
          have hp:=H.tg j h (by rw[←gD j cn];exact mj)
          rw[uL]at hp
          simp only[if_true]at hp⊢
          exact wh hB ct bp H.ord ho h (Jj (.inr h5)) hp
         |false=>
          exfalso
          obtain⟨oi,sQ,Bi,-⟩:=te ord [] [] hB pre i r H.ord
          have e1:oi=of:=by rw[ho]at sQ;exact(Option.some.inj sQ).symm
          subst e1
          have Q3:=Bi.tmp ov ow h5 j (by rw[List.append_nil,List.mem_reverse];exact h) uL
          have jj:=Je hB gL H.inv i oi ho oT j Q3
          have Q4:j∈ord:=by rw[H.ord];exact List.mem_append_left _ h
          have:=Be (by have:=bp j Q4;omega) jj
          rw[gD j cn]at mj
          rw[this]at mj;cases mj
       |false=>
        have hp:=H.tg j h (by rw[←gD j cn];exact mj)
        rw[uL]at hp
        simp only[Bool.false_eq_true,if_false]at hp⊢
        exact wh hB ct bp H.ord ho h g3 hp
      ·
       obtain rfl:=List.mem_singleton.1 h
       rw[n9]at mj;cases mj
     ·
      rcases List.mem_append.1 qV with h|h
      ·
       have cn:j≠i:=fun e=>p8 (e▸h)
       rw[jk _ _ _ _ (qW j d hj hd cn),jk _ _ _ _ (qW j d hj hd cn)]
       rw[gD j cn]at mj
       exact H.done j d hj mj h hd
      ·
       obtain rfl:=List.mem_singleton.1 h
       rw[ki]at hd
       rw[hd]
       have h3:nC a0.tmps.size d v (a.put (some d) v):=we H.size
       have h4:nC a0.tmps.size d v (af.put (some d) v):=we H.oS
       unfold nC at h3 h4
       rw[h3,h4]
     ·
      have h1:of.dst≠some d:=by
       have:=hd i (by simp)
       rwa [ki]at this
      rw[jk _ _ _ _ h1]
      exact H.full d fun j hj=>hd j (List.mem_append_left _ hj)
    have uN: ∀e∈E,e.1∈r:=fun e he=>by
     have:=(H.ou e he).1
     exact(List.mem_cons.1 this).resolve_left fun e2=>En (e2▸List.mem_map_of_mem he)
    cases ow:fs.contains (i+2000)with
    |true=>
     rw[if_pos ow]at hl
     obtain⟨hg,Eo,wi⟩:=hl
     obtain⟨mx,w',fR,Ep⟩:=Eo w0 w (E.map (·.2)++L) H.mem
     unfold wpOp
     simp only[ny]
     rw[if_pos (by simp[Region.wanted,hg])]
     refine .inl ?_
     unfold Oper.wp
     rw[ee,fR]
     refine next _ _ E ((mk i).e mx::L) Lq rfl uN ?_ (fun w hw=>H.wg w (hw.sub (List.sublist_cons_self _ _))) (fun _ h=>h) (fun _ w hw=>hw.sub (List.sublist_cons_self _ _)) (wi _)
     exact Ep.perm (List.perm_middle.symm)
    |false=>
     rw[if_neg (by rw[ow];exact Bool.false_ne_true)]at hl
     obtain⟨hg,fR,Q5⟩:=hl
     have Bj:E=[]∨ ∃x,E=[x]∧fs.contains (i+4000)=true:=by
      obtain⟨oi,sQ,Bi,Q6⟩:=te ord [] [] hB pre i r H.ord
      rcases Q6 ov ow with h|⟨h4,h5⟩
      ·
       refine .inl (List.eq_nil_iff_forall_not_mem.2 fun e he=> ?_)
       have h1:=h e.1 (uN e he)
       rw[(H.ou e he).2.2.2.1]at h1;cases h1
      ·
       rcases uM:E with _|⟨x,_|⟨y,E'⟩⟩
       ·
        exact .inl rfl
       ·
        exact .inr ⟨x,rfl,h4⟩
       ·
        exfalso
        have m1:x.1∈r.filter fun j=>fs.contains (j+2000):=List.mem_filter.2 ⟨uN x (by rw[uM];simp),(H.ou x (by rw[uM];simp)).2.2.2.1⟩
        have m2:y.1∈r.filter fun j=>fs.contains (j+2000):=List.mem_filter.2 ⟨uN y (by rw[uM];simp),(H.ou y (by rw[uM];simp)).2.2.2.1⟩
        have Jk:=H.keys
        rw[uM]at Jk
        have bW:x.1≠y.1:=fun e=>(List.nodup_cons.1 Jk).1 (by simp[e])
        rcases ei:(r.filter fun j=>fs.contains (j+2000))with _|⟨z,_|⟨z2,fl⟩⟩
        ·
         rw[ei]at m1;cases m1
        ·
         rw[ei,List.mem_singleton]at m1 m2
         exact bW (m1.trans m2.symm)
        ·
         rw[ei]at h5;simp at h5
     have h1:upon P w (fun v w'=> ∃L' fU,Mem w0 (E.map (·.2)++L') w'∧(∀w,Mem w0 L' w→Mem w0 fU w)∧(∀w,Mem w0 fU w→Mem w0 Lq w)∧(fs.contains (i+5000)=true→ ∀w,Mem w0 L' w→Mem w0 L w)∧p0 P l fs mk Q w0 r (af.put of.dst v) L' fU) ((execOp af.eval of).run P w):=by
      have r9:=H.mem
      rcases Bj with hE|⟨x,hE,h4⟩
      ·
       rw[hE]at r9⊢
       exact fR w (by simpa using r9)
      ·
       rw[hE]at r9⊢
       exact Q5 h4 x.2 w (by simpa using r9)
     have Er: ∀v w',(∃L' fU,Mem w0 (E.map (·.2)++L') w'∧(∀w,Mem w0 L' w→Mem w0 fU w)∧(∀w,Mem w0 fU w→Mem w0 Lq w)∧(fs.contains (i+5000)=true→ ∀w,Mem w0 L' w→Mem w0 L w)∧p0 P l fs mk Q w0 r (af.put of.dst v) L' fU)→wpAny P .any l.toArray Q m (bf.setIfInBounds i true) (a.put of.dst v) w':=fun v w' ⟨L',fU,g1,g2,g3,g5,g4⟩=>
      next v w' E L' fU rfl uN g1 g2 g3 (fun h=>h.elim (fun h=>by rw[ow]at h;cases h) g5) g4
     unfold wpOp
     simp only[ny]
     rw[if_pos (by rw[ew];exact hg)]
     refine .inl ?_
     unfold Oper.wp
     rw[ee]
     generalize(execOp af.eval of).run P w=r' at h1
     unfold upon at h1
     split at h1
     ·
      exact Er _ _ h1
     ·
      exact Er _ _ h1
     ·
      obtain⟨rfl,rQ⟩:=h1
      exact rQ.mono fun e n7 ⟨u,he,hR⟩=>by subst he;exact Er u _ hR
     ·
      exact h1.elim
   ·
    have yh:i∈r:=(List.mem_cons.1 Em).resolve_left Ji
    cases ow:fs.contains (i+2000)with
    |false=>
     exfalso
     obtain⟨r1,r2,rfl⟩:=List.append_of_mem yh
     have yM:ord=(pre++f::r1)++i::r2:=by rw[H.ord];simp
     obtain⟨oi,sQ,Bi,-⟩:=te ord [] [] hB _ i r2 yM
     have e1:oi=o':=by rw[ho]at sQ;exact(Option.some.inj sQ).symm
     subst e1
     have yN:=Bi.QP ow f (by
      rw[List.append_nil,List.mem_reverse,List.mem_filter]
      exact⟨by simp,ov⟩)
     have ei:=Je hB gL H.inv i oi ho oT f yN
     have pQ:f∈ord:=by rw[H.ord];simp
     rcases H.sub f (bp f pQ) (Be (by have:=bp f pQ;omega) ei)with ue|ue
     ·
      have nE:=ct
      rw[H.ord]at nE
      exact(List.nodup_append.1 nE).2.2 f ue f (by simp) rfl
     ·
      exact yL ue
    |true=>
     obtain⟨of,oV,hl⟩:=H.uK
     rw[if_pos ov]at hl
     obtain⟨oa,Jl,Q7,Eo⟩:=hl.1 i yh ow
     have e1:oa=o':=by rw[ho]at Jl;exact(Option.some.inj Jl).symm
     subst e1
     have Q8: ∀t∈oa.looksAt l.toArray,a.tmps[t]? =af.tmps[t]? :=fun t ht=>by
      by_cases hw: ∃j,j<l.length∧dC l j=some t
      ·
       obtain⟨j,hj,hd⟩:=hw
       obtain⟨_,e,he,hb,ft⟩:=bP.reads j t hj hd ht
       have mj:=oT e he hb
       rw[ft]at mj
       have Jm:=Be (by omega) mj
       rcases H.sub j hj Jm with hp|hp
       ·
        exact H.done j t hj Jm hp hd
       ·
        obtain⟨e2,yO,rfl⟩:=List.mem_map.1 hp
        have g3:=(H.ou e2 yO).2.2.1
        rw[bP.QQ ow e2.1 t hj hd ht]at g3;cases g3
      ·
       have h1: ∀j,j<l.length→dC l j≠some t:=fun j hj hd=>hw ⟨j,hj,hd⟩
       rw[H.rest t fun j hj _=>h1 j hj,H.full t fun j hj=>h1 j (bp j (by rw[H.ord];exact List.mem_append_left _ hj))]
     obtain⟨ee,_⟩:=yH bP.sO Q8
     obtain⟨mx,w',fR,Ep⟩:=Eo w0 w (E.map (·.2)++L) H.mem
     have jl:fs.contains i=true:=by
      cases jl:fs.contains i with
      |true=>rfl
      |false=>
       exfalso
       obtain⟨r1,r2,rfl⟩:=List.append_of_mem yh
       exact absurd ow (by rw[wj i r8 jl];exact Bool.false_ne_true)
     unfold wpOp
     simp only[ny]
     rw[if_pos (by simp[Region.wanted,Q7])]
     refine .inl ?_
     unfold Oper.wp
     rw[ee,fR]
     refine Bf hB ct bp gL wj m pre (f::r) af L Lq ((i,(mk i).e mx)::E) _ _ _ qM ⟨H.ord,H.inv.set hi r8,Ep,fun e he=> ?_,List.nodup_cons.2 ⟨En,H.keys⟩,H.wg,H.uK,by rw[qI];exact H.size,H.oS,by rw[qJ];exact H.defers,H.qL,fun j hj hl=> ?_,fun j hj hf=> ?_,fun j hj hl=> ?_,Q1 _,Bh _,H.full⟩
     ·
      rcases List.mem_cons.1 he with rfl|he
      ·
       exact⟨Em,n9,jl,ow,oa,mx,ho,rfl,fun d hd=>by rw[hd];exact we H.size⟩
      ·
       exact Jh _ e he
     ·
      by_cases cn:j=i
      ·
       subst cn;exact .inr (by simp)
      ·
       exact(H.sub j hj (by rw[←gD j cn];exact hl)).imp_right fun h=>List.mem_cons_of_mem _ h
     ·
      have cn:j≠i:=fun e=>p8 (e▸hj)
      rw[gD j cn];exact H.fresh j hj hf
     ·
      have cn:j≠i:=fun e=>p8 (e▸hj)
      exact H.tg j hj (by rw[←gD j cn];exact hl)
theorem Jn{id:Nat}{ro:Option Nat}[jV Q]{a:Act}{w:World}{L Lq:List ai}(A:List (List Nat))(ord:List Nat)(ct:n0 l=true)(hm:P.follows .mixedOrders=true)(hB:Ba l fs A ord=true)(hC:Mem w0 L {w with drawn:=w.drawn+1})(lG: ∀w,Mem w0 L w→Mem w0 Lq w)
  (wj: ∀k,k<l.length→fs.contains k=false→fs.contains (k+2000)=false)
  (h:p0 P l fs mk Q w0 ord a L Lq):(Code.region id l.toArray true).wpIn (ld ro) 0 P Q a w:=by
 simp only[Ba,Bool.and_eq_true,decide_eq_true_eq]at hB
 obtain⟨⟨⟨h1,h2⟩,h3⟩,h4⟩:=hB
 have gL: ∀j,j<l.length→j∈ord:=fun j hj=>by have:=List.all_eq_true.1 h1 j (List.mem_range.2 hj);simpa using this
 have bp: ∀j∈ord,j<l.length:=fun j hj=>by have:=List.all_eq_true.1 h3 j hj;simpa using this
 refine Dy ct hm ?_
 have DF:HeadInv .any l.toArray l.length (Array.replicate l.toArray.size false):=
  ⟨by simp,fun j oj _ hl=>(by rw[getD_replicate_false]at hl;cases hl),fun t h1 h2=>by simp at h2;omega⟩
 have g9: ∀j,j<l.length→(Array.replicate l.toArray.size false).getD j true=false:=fun j hj=>by simp[hj]
 have qM:left l.length (Array.replicate l.toArray.size false)=l.length:=by
  unfold left
  rw[List.filter_eq_self.2 (fun j hj=> ?_),List.length_range]
  rw[g9 j (List.mem_range.1 hj)];rfl
 have:=Bf (P:=P) (Q:=Q) (w0:=w0) (a0:=a) h4 h2 bp gL wj l.length [] ord a L Lq [] (Array.replicate l.toArray.size false) a _ qM
  ⟨rfl,DF,hC,fun e he=>(by cases he),List.nodup_nil,lG,h,rfl,rfl,rfl,rfl,fun j hj hl=>(by rw[g9 j hj]at hl;cases hl),fun j hj=>(by cases hj),fun j hj=>(by cases hj),fun j d hj hl=>(by rw[g9 j hj]at hl;cases hl),fun _ _=>rfl,fun _ _=>rfl⟩
 simpa using this
theorem Q9{id:Nat}{ro:Option Nat}[jV Q]{a:Act}{w:World}{L Lq:List ai}(A:List (List Nat))(ord:List Nat)(ct:n0 l=true)(hm:P.follows .mixedOrders=true)(hB:A9 l fs A ord=true)(hC:Mem w0 L {w with drawn:=w.drawn+1})(lG: ∀w,Mem w0 L w→Mem w0 Lq w)
  (h:p0 P l fs mk Q w0 ord a L Lq):(Code.region id l.toArray true).wpIn (ld ro) 0 P Q a w:=by
 have h5: ∀k,fs.contains (k+2000)=false:=fun k=>by
  simp only[A9,Bool.and_eq_true]at hB
  cases hk:fs.contains (k+2000)with
  |false=>rfl
  |true=>
   have:=List.all_eq_true.1 hB.1.2 (k+2000) (by simpa using hk)
   have:=of_decide_eq_true this
   omega
 refine Jn A ord ct hm ?_ hC lG (fun k _ _=>h5 k) h
 simp only[A9,Ba,Bool.and_eq_true]at hB⊢
 exact⟨hB.1.1,hB.2⟩
end
open Go.RowKit
section
variable {P:Program} {N:cz} {w0:World} {env:Env} {L R R1 R2:List ai} {Q:Exit→Act→World→Prop} {d:Option Tmp} {ty:TypeId} {ps:String} {af:Array Edge} {gd:Option (Nat×Bool)} {K:Value→List ai→Prop}
def hU(P:Program)(N:cz)(w0:World)(env:Env)(L:List ai)(o:Oper)(K:Value→List ai→Prop):Prop:=
 ∀a w,db N env a→Mem w0 L w→upon P w (fun v w'=> ∃L',Mem w0 L' w'∧K v L') ((execOp a.eval o).run P w)
theorem th{o:Oper}(h: ∀a w,db N env a→Mem w0 L w→ ∃v w' L',(execOp a.eval o).run P w= .ok (.value v) w'∧Mem w0 L' w'∧K v L'):hU P N w0 env L o K:=fun a w ha hw=>by
 obtain⟨v,w',L',h1,h2,h3⟩:=h a w ha hw
 rw[h1];exact⟨L',h2,h3⟩
theorem Es{o:Oper}(h: ∀a w,db N env a→Mem w0 L w→ ∃w' L',(execOp a.eval o).run P w= .ok .skip w'∧Mem w0 L' w'∧K undef L'):hU P N w0 env L o K:=fun a w ha hw=>by
 obtain⟨w',L',h1,h2,h3⟩:=h a w ha hw
 rw[h1];exact⟨L',h2,h3⟩
theorem yP{w:World}{R R':Value→World→Prop}(h: ∀v w,R v w→R' v w){r:Result Next}(hr:upon P w R r):upon P w R' r:=by
 unfold upon at hr⊢
 split at hr
 ·
  exact h _ _ hr
 ·
  exact h _ _ hr
 ·
  exact⟨hr.1,hr.2.mono fun e n7 ⟨v,he,hv⟩=>⟨v,he,h _ _ hv⟩⟩
 ·
  exact hr.elim
theorem Jo{o:Oper}{K':Value→List ai→Prop}(h:hU P N w0 env L o K')(hk: ∀v L',K' v L'→ ∃Bm,(∀w,Mem w0 L' w→Mem w0 Bm w)∧K v Bm):hU P N w0 env L o K:=fun a w ha hw=>
 yP (fun v _ ⟨L',h1,h2⟩=>by obtain⟨Bm,h3,h4⟩:=hk v L' h2;exact⟨Bm,h3 _ h1,h4⟩) (h a w ha hw)
theorem nG{X:Type}{val:X→Value}{L':X→List ai}{pr:X→Prop}{pre:Prop}{f:FuncId}{xs:List Operand}{ts:Array TypeId}{vs:List Value}[hf:aQ P f](hx:hH env xs=some vs)
  [hc:cl P f w0 L vs X val L' pr pre] (hp:pre) (hk: ∀x,pr x→K (val x) (L' x)):
  hU P N w0 env L ⟨d, .call {callee:= .value (.func f),args:=xs.toArray,argTypes:=ts},ty,ps,af,gd⟩ K:=fun a w ha hw=>by
 rw[AL hf w rfl,ha.hH hx]
 exact⟨rfl,(hc.h hp w hw).mono fun e w' ⟨x,he,iB,hm⟩=>⟨val x,he,L' x,hm,hk x iB⟩⟩
section
variable {α:Type} {enc:α→Array Value} {c:Nat} {s:Sv} {xs ys:List α}
theorem Ra{t:TypeId}{z:Value}[hz:fe P t z](hk: ∀b,K ((.pointer (some ⟨b,0,none⟩))) ((ar b z.cells t::L))):
  hU P N w0 env L ⟨d, .alloc t,ty,ps,af,none⟩ K:=
 th fun a w ha hw=>⟨_,_,_,by simp only[execOp,Instr.alloc,newVar,newRow,Sem.run_bind,AJ w hz,newObj,Sem.run,Result.andThen,Sem.run_pure];rfl,hw.alloc z.cells t,hk _⟩
theorem Rb{t:TypeId}{cs:Array Value}[hz:fe P t (.agg cs)](hk: ∀b,K ((.pointer (some ⟨b,0,none⟩))) ((ar b cs t::L))):
  hU P N w0 env L ⟨d, .alloc t,ty,ps,af,none⟩ K:=Ra (z:= .agg cs) hk
theorem wk{t:TypeId}{x y:Operand}{i b o:Nat}{cs:Array Value}{T:TypeId}{v:Value}(hx:ev env x=some (.pointer (some ⟨b,o,none⟩)))(hy:ev env y=some v)[ht:gM P t][hh:Has L b cs T i](ho:o<cs.size)(hv:v.oneCell'=true){cs':Array Value}{L':List ai}(gF:cs.setIfInBounds o v=cs')[hu:fx L i (ar b cs' T) L'](hk:K undef (L')):
  hU P N w0 env L ⟨none, .store t x y,ty,ps,af,none⟩ K:=
 Es fun a w ha hw=>by
  have hi:=hh.h
  have hb:=hw.block hi
  have hc:w.cell? ⟨b,o,none⟩=some cs[o]:=by rw[hw.cell hi];simp[ho]
  have hf:w.frozen? ⟨b,o,none⟩=false:=frozen_of_row w b o cs T hb
  subst gF
  refine⟨w.setCell ⟨b,o,none⟩ v,_,?_,?_,hk⟩
  ·
   have h1:(storeCells ⟨b,o,none⟩ [v]).run P w= .ok () (w.setCell ⟨b,o,none⟩ v):=by
    have:=run_storeCells_at (P:=P) b o T [v] 0 cs w hb (by simp;omega) (by simpa using hv)
    rw[this,setCell_eq_setRow w b o cs T (0,0) v hb]
    congr 2
    apply Array.ext'
    simp[List.set_eq_take_append_cons_drop,ho]
   have gF:v.cells= #[v]:=by cases v<;>simp_all[Value.oneCell',Value.cells]
   simp only[execOp,ha.ev hx,ha.ev hy,Instr.storeAt,Instr.sureAddr,storeVar,Sem.run_bind,Sem.run_pure,Result.andThen,kL w ht.size,gF]
   simp[h1]
  ·
   rw[setCell_eq_setRow w b o cs T (0,0) v hb]
   rw[←hu.h]
   exact hw.setRow hi _
theorem Jp{t:TypeId}{x y:Operand}{i b o n:Nat}{cs vs:Array Value}{T:TypeId}(hx:ev env x=some (.pointer (some ⟨b,o,none⟩)))(hy:ev env y=some (.agg vs))[ht:gn P t n][hh:Has L b cs T i][hs:fW vs n](ho:o+n≤cs.size){cs':Array Value}{L':List ai}(gF:cP cs o vs=cs')[hu:fx L i (ar b cs' T) L'](hk:K undef (L')):
  hU P N w0 env L ⟨none, .store t x y,ty,ps,af,none⟩ K:=
 Es fun a w ha hw=>by
  have hi:=hh.h
  have hn:=hs.h
  have hv:=hs.one
  have hb:=hw.block hi
  subst gF
  refine⟨_,_,?_,by rw[←hu.h];exact hw.setRow hi _,hk⟩
  have h1:=run_storeCells_at (P:=P) b o T vs.toList 0 cs w hb (by simp;omega) (fun v kM=>(Array.all_eq_true_iff_forall_mem.1 hv) v (by simpa using kM))
  simp only[execOp,ha.ev hx,ha.ev hy,Instr.storeAt,Instr.sureAddr,storeVar,Value.cells,Sem.run_bind,Sem.run_pure,Result.andThen,kL w ht.size,hn]
  simp[h1,cP]
theorem ox{t:TypeId}{x y:Operand}{i b n:Nat}{cs vs:Array Value}{T:TypeId}(hx:ev env x=some (.pointer (some ⟨b,0,none⟩)))(hy:ev env y=some (.agg vs))[ht:gn P t n][hh:Has L b cs T i][hs:fW vs n][hc:fW cs n]{L':List ai}[hu:fx L i (ar b vs T) L'](hk:K undef (L')):
  hU P N w0 env L ⟨none, .store t x y,ty,ps,af,none⟩ K:=by
 have hn:=hs.h
 have PU:=hc.h
 refine Jp hx hy (by omega) (?_:cP cs 0 vs=vs) hk
 apply Array.ext'
 simp[cP];omega
theorem Rc{x y:Operand}{tx fS e:TypeId}{i b o dl dc sl sc:Nat}{a:Addr}{cs vs:Array Value}{T:TypeId}(hx:ev env x=some (.slice (some ⟨b,o,none⟩) dl dc))(hy:ev env y=some (.slice (some a) sl sc))
  [ht:eW P tx e 1] [hh:Has L b cs T i] (hn:vs.size=Nat.min sl dl) (lH: ∀w,Mem w0 L w→ ∀j,j<vs.size→w.cell? (a.add j)=vs[j]?) (hv:vs.all (·.oneCell')=true) (ho:o+vs.size≤cs.size)
  {cs':Array Value} {L':List ai} (gF:cP cs o vs=cs') [hu:fx L i (ar b cs' T) L'] (hk:K ((.int .i64 vs.size)) (L')):
  hU P N w0 env L ⟨d, .call {callee:= .builtin .copy,args:= #[x,y],argTypes:= #[tx,fS]},ty,ps,af,none⟩ K:=
 th fun aa w ha hw=>by
  have hi:=hh.h
  have hb:=hw.block hi
  subst gF
  have fR:=run_copy_row (P:=P) w tx fS ty e b o dl dc a sl sc cs T vs.toList ht.eA ht.size hb (by simpa using hn)
   (fun j v kM=>by
    have hj:j<vs.size:=by simpa using(List.getElem?_eq_some_iff.1 kM).1
    rw[lH w hw j hj];simpa using kM) (by simpa using ho) (fun v kM=>(Array.all_eq_true_iff_forall_mem.1 hv) v (by simpa using kM))
  refine⟨_,w.setRow b (cP cs o vs),_,?_,by rw[←hu.h];exact hw.setRow hi _,hk⟩
  simp[execOp,ha.ev hx,ha.ev hy,resolve,invoke,builtin,fR,Result.andThen,goInt,cP]
theorem Rd{t tx e:TypeId}{x y:Operand}{yv:Value}{cE i:Nat}[ht:fg P t e c cE][he:bu enc c](hx:ev env x=some s.val)(hy:ev env y=some yv)[q:fD L s enc c xs i](hc:0<c)
  (hs: ∀w,Mem w0 L w→Src P c tx yv ys.length (aK enc ys) w) (hb:(xs.length+ys.length)*cE≤140737488355328) (iS:xs.length+ys.length≤140737488355328) {L':Sv→List ai} [hu: ∀s',fx L i (own enc c s' (xs++ys)) (L' s')]
  (hk: ∀s':Sv,s'.Ok→s'.len=(xs++ys).length→K (s'.val) ((L' s'))):
  hU P N w0 env L ⟨d, .call {callee:= .builtin .append,args:= #[x,y],argTypes:= #[t,tx]},ty,ps,af,none⟩ K:=
 th fun a w ha hw=>by
  obtain⟨s',w',h1,h2,h3,h4⟩:=DX (ty:=ty) ht hc hw q.h (hs w hw) hb iS
  refine⟨s'.val,w',L' s',?_,by rw[←(hu s').h];exact h4,hk s' h2 h3⟩
  simp[execOp,ha.ev hx,ha.ev hy,resolve,invoke,builtin,h1,Result.andThen]
theorem Jq{t e:TypeId}{cE n:Nat}[ht:fg P t e c cE][he:bu enc c]{ops:List (Nat×Operand)}{vals:List Value}(xs:List α)(hx:jW env ops=some (idx vals 0))(hv:vals.map Value.cells=xs.map enc)(hn:xs.length=n)(hc:0<n*c)(rW:n*c≤16777216)
  (hk: ∀b,K ((Sv.val ⟨false,b,0,n,n,none⟩)) ((own enc c ⟨false,b,0,n,n,none⟩ xs::L))):
  hU P N w0 env L ⟨d, .buildSlice t n ops.toArray,ty,ps,af,none⟩ K:=
 th fun a w ha hw=>by
  subst hn
  have e1:(ops.toArray.map fun(p:Nat×Operand)=>match p with|(i,x)=>(i,a.eval x))=(idx vals 0).toArray:=by
   rw[←ha.jW hx];simp
  refine⟨_,_,_,?_,hw.call (v5 (enc:=enc) (c:=c) (xs:=xs) (cs:=(aK enc xs).toArray) (e:=e) rfl xs.length xs.length rfl (Nat.le_refl _) (DY hc rW) (by simp[gQ]) fun i x hx j hj=>by rw[←mR (enc:=enc) xs i x hx j hj];simp),hk _⟩
  simp only[execOp,e1,Sem.run_bind,DZ ht hv hc rW w,Result.andThen,Sem.run_pure];rfl
theorem Jr{t e:TypeId}{cE n cap:Nat}{z:Value}{x y:Operand}{k k':IntKind}{ix iy:Int}[ht:fg P t e c cE][hz:fe P e z](x0:α)(h0:enc x0=z.cells)(hx:ev env x=some (.int k ix))(hy:ev env y=some (.int k' iy))(ex:ix=(n:Int))(ey:iy=(cap:Int))(hle:n≤cap)(hb:cE*cap≤281474976710656)(iS:cap≤140737488355328)
  (hk: ∀b,K ((Sv.val ⟨false,b,0,n,cap,none⟩)) ((own enc c ⟨false,b,0,n,cap,none⟩ (List.replicate n x0)::L))):
  hU P N w0 env L ⟨d, .makeSlice t x y,ty,ps,af,none⟩ K:=
 th fun a w ha hw=>by
  subst ex ey
  obtain⟨w',h1,h2⟩:=D0 ht hz (k:=k) (k':=k') (n:=n) x0 h0 hle hb iS w
  exact⟨_,w',_,by simp only[execOp,ha.ev hx,ha.ev hy,Sem.run_bind,h1,Result.andThen,Sem.run_pure],hw.call h2,hk _⟩
theorem uO{t:TypeId}{x y:Operand}{i k j n p:Nat}{a a':α}{v:Value}(sz:(P.info? t).map (·.size)=some n)[he:bu enc c](hx:ev env x=some (.pointer (some ⟨s.b,p,none⟩)))(hy:ev env y=some v)[q:fD L s enc c xs i](gP:p=s.o+k*c+j)
  (ha:xs[k]? =some a) (hv:v.cells.all (·.oneCell')=true) (hn:v.cells.size=n) (hj:j+n≤c) (pU:cP (enc a) j v.cells=enc a') {L':List ai} [hu:fx L i (own enc c s (xs.set k a')) L'] (hk:K undef (L')):
  hU P N w0 env L ⟨none, .store t x y,ty,ps,af,none⟩ K:=
 Es fun aa w yw hw=>by
  subst gP hn
  obtain⟨w',h1,h2⟩:=IC (P:=P) hw q ha hv hj pU hu
  refine⟨w',_,?_,h2,hk⟩
  simp only[execOp,yw.ev hx,yw.ev hy,Instr.storeAt,Instr.sureAddr,storeVar,Sem.run_bind,Sem.run_pure,Result.andThen,kL w sz]
  simp[h1]
theorem Re{P:Program}{N:cz}{w0:World}{env:Env}{L:List ai}{ty:TypeId}{ps:String}{af:Array Edge}{τ:Type}{t:TypeId}{x y:Operand}{i k p:Nat}{s:Sv}{xs:List (Sl τ)}{a:Sl τ}(a':Sl τ)
  (sz:(P.info? t).map (·.size)=some 1) (hx:ev env x=some (.pointer (some ⟨s.b,p,none⟩))) (hy:ev env y=some a'.sv.val) [q:fD L s (bY (τ:=τ)) 1 xs i] (gP:p=s.o+k*1) (ha:xs[k]? =some a) {L':List ai} [hu:fx L i (own bY 1 s (xs.set k a')) L'] (hk:K undef (L')):
  hU P N w0 env L ⟨none, .store t x y,ty,ps,af,none⟩ K:=
 uO (j:=0) (a':=a') sz hx hy (q:=q) gP ha (by rw[Sv.iU];simp[Sv.one]) (by rw[Sv.iU];rfl) (by decide) (by rw[Sv.iU];rfl) hk
theorem Rf{α:Type}{enc:α→Array Value}{x y:Operand}{tx fS e:TypeId}{i b o dl dc:Nat}{sv:Sv}{ys:List α}{cs:Array Value}{T:TypeId}(hx:ev env x=some (.slice (some ⟨b,o,none⟩) dl dc))(hy:ev env y=some sv.val)
  [ht:eW P tx e 1] [hh:Has L b cs T i] [q:Hd w0 L sv enc 1 ys] [he:bu enc 1] (h0:0<ys.length) (hl:ys.length≤dl) (ho:o+ys.length≤cs.size)
  {cs':Array Value} {L':List ai} (gF:cP cs o (aK enc ys).toArray=cs') [hu:fx L i (ar b cs' T) L'] (hk:K ((.int .i64 (ys.length:Nat))) (L')):
  hU P N w0 env L ⟨d, .call {callee:= .builtin .copy,args:= #[x,y],argTypes:= #[tx,fS]},ty,ps,af,none⟩ K:=fun a w ha hw=>by
 have r:=q.h w hw
 have hn:=r.some (i:=0) h0
 have hlen:=r.len
 rw[Sv.hK hn,r.ok.sp (by have:=r.ok.le;omega)]at hy
 have hs:(aK enc ys).toArray.size=ys.length:=by rw[List.size_toArray,gQ,Nat.mul_one]
 have jF:=hk
 rw[←hs]at jF
 refine Rc (vs:=(aK enc ys).toArray) hx hy ?_ (fun w hw j hj=> ?_) ?_ (by rw[hs];exact ho) gF jF a w ha hw
 ·
  rw[hs];simp only[Nat.min_def];split<;>omega
 ·
  rw[hs]at hj
  have:=mR (enc:=enc) ys j ys[j] (by simp[hj]) 0 (by decide)
  have r2:=(q.h w hw).row j ys[j] (by simp[hj]) 0 (by decide)
  simp only[Nat.mul_one,Nat.add_zero]at this r2
  rw[Addr.gp,qP,r2,←this];simp
 ·
  rw[Array.all_eq_true_iff_forall_mem];intro v hv;exact s0 (enc:=enc) ys v (by simpa using hv)
end
section
variable {τ:Type} [dp:Deep τ] {enc:τ→Array Value} {c:Nat}
end
theorem Js{l:List Oper}{rest:List Oper}{o:Oper}(hg:o.guard=none)(hd:dk N o.dst=true)(h:hU P N w0 env L o (fun v L'=>Sq P N w0 l Q rest (cw env o.dst v) L')):Sq P N w0 l Q (o::rest) env L:=fun a w ha hw=>by
 unfold wpList
 rw[if_pos (pT hg)]
 refine .inl ?_
 have h1:=h a w ha hw
 unfold Oper.wp
 generalize(execOp a.eval o).run P w=r at h1
 unfold upon at h1
 split at h1
 ·
  obtain⟨L',h2,h3⟩:=h1;exact h3 _ _ (ha.put hd _) h2
 ·
  obtain⟨L',h2,h3⟩:=h1;exact h3 _ _ (ha.put hd _) h2
 ·
  obtain⟨rfl,hc⟩:=h1
  exact hc.mono fun e n7 ⟨v,he,L',h2,h3⟩=>by subst he;exact h3 _ _ (ha.put hd _) h2
 ·
  exact h1.elim
end
section
variable {P:Program} {N:cz} {w0:World} {env:Env} {L Lq:List ai} {l:List Oper} {fs ord:List Nat} {mk:Nat→mU} {Q:Exit→Act→World→Prop} {k:Nat} {o:Oper}
def Ln(P:Program)(N:cz)(w0:World)(l:List Oper)(fs:List Nat)(mk:Nat→mU)(Q:Exit→Act→World→Prop)(ord:List Nat)(env:Env)(L Lq:List ai):Prop:= ∀a,db N env a→p0 P l fs mk Q w0 ord a L Lq
def Cert(P:Program)(N:cz)(env:Env)(l:List Oper)(fs:List Nat)(mk:Nat→mU)(ord:List Nat):Prop:=
 ∀i∈ord,fs.contains (i+2000)=true→ ∃oi,l[i]? =some oi∧oi.guard=none∧ ∀a,db N env a→rY P oi a.eval (mk i)
theorem Cert.none(h:(ord.all fun i=> !fs.contains (i+2000))=true):Cert P N env l fs mk ord:=fun i hi hf=>by
 have:=List.all_eq_true.1 h i hi
 rw[hf]at this;cases this
theorem Cert.one{i:Nat}{m:mU}(ho:l[i]? =some o)(hg:o.guard=Option.none)(hm:mk i=m)(h: ∀a,db N env a→rY P o a.eval m)(hr:Cert P N env l fs mk (ord.filter fun j=> !(j==i))):Cert P N env l fs mk ord:=fun j hj hf=>by
 by_cases e:j=i
 ·
  subst e
  exact⟨o,ho,hg,by rw[hm];exact h⟩
 ·
  exact hr j (List.mem_filter.2 ⟨hj,by simpa using e⟩) hf
theorem Cert.at(h:Cert P N env l fs mk ord){a:Act}(ha:db N env a): ∀i∈ord,fs.contains (i+2000)=true→ ∃oi,l[i]? =some oi∧oi.guard=Option.none∧rY P oi a.eval (mk i):=fun i hi hf=>by
 obtain⟨oi,h1,h2,h3⟩:=h i hi hf
 exact⟨oi,h1,h2,h3 a ha⟩
theorem Bn(h:Ex N w0 Q .normal env L):Ln P N w0 l fs mk Q [] env L Lq:=fun a ha w hw=>h a w ha hw
theorem Jt{v:Value}(ho:l[k]? =some o)(hf:fs.contains k=false)(hd:dk N o.dst=true)(h1: ∀a,db N env a→Region.wanted o (yielded l.toArray a.tmps)=true→rO P o a (Mem w0 Lq) v)(h2: ∀a,db N env a→Region.wanted o (yielded l.toArray a.tmps)=false→v=undef)
  (hk:Ln P N w0 l fs mk Q ord (cw env o.dst v) L Lq) (kQ:fs.contains (k+1000)=false:=by rfl):Ln P N w0 l fs mk Q (k::ord) env L Lq:=fun a ha=>
 ⟨o,ho,by
  rw[if_neg (by rw[hf];exact Bool.false_ne_true)]
  exact⟨v,by rw[if_neg (by rw[kQ];exact Bool.false_ne_true)];exact h1 a ha,h2 a ha,hk _ (ha.put hd v)⟩⟩
theorem Rh{v:Value}(ho:l[k]? =some o)(h:Yl P N w0 env L o v)(hk:Ln P N w0 l fs mk Q ord (cw env o.dst v) L Lq)(hg:o.guard=none:=by rfl)(hd:dk N o.dst=true:=by rfl)(hf:fs.contains k=false:=by rfl)(kQ:fs.contains (k+1000)=true:=by rfl):Ln P N w0 l fs mk Q (k::ord) env L Lq:=fun a ha=>
 ⟨o,ho,by
  rw[if_neg (by rw[hf];exact Bool.false_ne_true)]
  exact⟨v,fun _=>by rw[if_pos kQ];exact h a ha,(fun hw=>by rw[pT hg]at hw;cases hw),hk _ (ha.put hd v)⟩⟩
theorem kr{v:Value}(ho:l[k]? =some o)(h:Ry P N w0 env L o v)(hk:Ln P N w0 l fs mk Q ord (cw env o.dst v) L Lq)(hg:o.guard=none:=by rfl)(hd:dk N o.dst=true:=by rfl)(hf:fs.contains k=false:=by rfl)(kQ:fs.contains (k+1000)=true:=by rfl):Ln P N w0 l fs mk Q (k::ord) env L Lq:=Rh ho h.yl hk hg hd hf kQ
theorem uP{v:Value}(ho:l[k]? =some o)(h:Yl P N w0 env Lq o v)(hk:Ln P N w0 l fs mk Q ord (cw env o.dst v) L Lq)(hg:o.guard=none:=by rfl)(hd:dk N o.dst=true:=by rfl)(hf:fs.contains k=false:=by rfl)(kQ:fs.contains (k+1000)=false:=by rfl):Ln P N w0 l fs mk Q (k::ord) env L Lq:=
 Jt (kQ:=kQ) ho hf hd (fun a ha _=>h a ha) (fun a ha hw=>by rw[pT hg]at hw;cases hw) hk
theorem al{v:Value}(ho:l[k]? =some o)(h:Ry P N w0 env Lq o v)(hk:Ln P N w0 l fs mk Q ord (cw env o.dst v) L Lq)(hg:o.guard=none:=by rfl)(hd:dk N o.dst=true:=by rfl)(hf:fs.contains k=false:=by rfl)(kQ:fs.contains (k+1000)=false:=by rfl):Ln P N w0 l fs mk Q (k::ord) env L Lq:=uP ho h.yl hk hg hd hf kQ
theorem Ju{v:Value}{j t:Nat}{g:Bool}(ho:l[k]? =some o)(hg:o.guard=some (j,false))(hj:(l[j]?).bind (·.dst)=some t)(hv:look env t=some (.bool g))(h:(!g)=true→Yl P N w0 env Lq o v)
  (hk:Ln P N w0 l fs mk Q ord (cw env o.dst (if(!g)=true then v else undef)) L Lq) (hd:dk N o.dst=true:=by rfl) (hf:fs.contains k=false:=by rfl) (kQ:fs.contains (k+1000)=false:=by rfl):Ln P N w0 l fs mk Q (k::ord) env L Lq:=
 Jt (kQ:=kQ) ho hf hd (fun a ha hw=>by
  rw[ux ha hg hj hv]at hw
  cases g
  ·
   exact h rfl a ha
  ·
   cases hw) (fun a ha hw=>by
  rw[ux ha hg hj hv]at hw
  cases g
  ·
   cases hw
  ·
   rfl) hk
theorem Ri(ho:l[k]? =some o)(h:hU P N w0 env L o fun v L'=> ∃fU,(∀w,Mem w0 L' w→Mem w0 fU w)∧(∀w,Mem w0 fU w→Mem w0 Lq w)∧Ln P N w0 l fs mk Q ord (cw env o.dst v) L' fU)(hg:o.guard=none:=by rfl)(hd:dk N o.dst=true:=by rfl)(hf:fs.contains k=true:=by rfl)(qX:fs.contains (k+2000)=false:=by rfl)(wm:fs.contains (k+4000)=false:=by rfl)(sa:fs.contains (k+5000)=false:=by rfl)(hC:Cert P N env l fs mk ord:=by exact Cert.none rfl):Ln P N w0 l fs mk Q (k::ord) env L Lq:=fun a ha=>
 ⟨o,ho,by
  rw[if_pos hf,if_neg (by rw[qX];exact Bool.false_ne_true)]
  exact⟨hC.at ha,pT hg,fun w hw=>yP (fun v w' ⟨L',h1,fU,h2,h3,h4⟩=>⟨L',fU,h1,h2,h3,(fun h=>by rw[sa]at h;cases h),h4 _ (ha.put hd v)⟩) (h a w ha hw),fun h=>by rw[wm]at h;cases h⟩⟩
theorem Jv(ho:l[k]? =some o)(h:hU P N w0 env L o fun v L'=>(∀w,Mem w0 L' w→Mem w0 Lq w)∧(∀w,Mem w0 L' w→Mem w0 L w)∧Ln P N w0 l fs mk Q ord (cw env o.dst v) L' Lq)(hg:o.guard=none:=by rfl)(hd:dk N o.dst=true:=by rfl)(hf:fs.contains k=true:=by rfl)(qX:fs.contains (k+2000)=false:=by rfl)(wm:fs.contains (k+4000)=false:=by rfl)(hC:Cert P N env l fs mk ord:=by exact Cert.none rfl):Ln P N w0 l fs mk Q (k::ord) env L Lq:=fun a ha=>
 ⟨o,ho,by
  rw[if_pos hf,if_neg (by rw[qX];exact Bool.false_ne_true)]
  exact⟨hC.at ha,pT hg,fun w hw=>yP (fun v w' ⟨L',h1,h2,h3,h4⟩=>⟨L',Lq,h1,h2,fun _ h=>h,(fun _=>h3),h4 _ (ha.put hd v)⟩) (h a w ha hw),fun h=>by rw[wm]at h;cases h⟩⟩
theorem Rj(K:Value→List ai→Prop)(ho:l[k]? =some o)(h:hU P N w0 env L o K)(hF: ∀e,hU P N w0 env (e::L) o fun v L'=> ∃L1,(∀w,Mem w0 L' w→Mem w0 (e::L1) w)∧K v L1)(hk: ∀v L',K v L'→(∀w,Mem w0 L' w→Mem w0 Lq w)∧Ln P N w0 l fs mk Q ord (cw env o.dst v) L' Lq)(hC:Cert P N env l fs mk ord)(hg:o.guard=none:=by rfl)(hd:dk N o.dst=true:=by rfl)(hf:fs.contains k=true:=by rfl)(qX:fs.contains (k+2000)=false:=by rfl)(sa:fs.contains (k+5000)=false:=by rfl):Ln P N w0 l fs mk Q (k::ord) env L Lq:=fun a ha=>
 ⟨o,ho,by
  rw[if_pos hf,if_neg (by rw[qX];exact Bool.false_ne_true)]
  exact⟨hC.at ha,pT hg,fun w hw=>yP (fun v w' ⟨L',h1,h2⟩=>⟨L',Lq,h1,(hk v L' h2).1,fun _ h=>h,(fun h=>by rw[sa]at h;cases h),(hk v L' h2).2 _ (ha.put hd v)⟩) (h a w ha hw),fun _ e w hw=>yP (fun v w' ⟨L',h1,L1,h2,h3⟩=>⟨L1,Lq,h2 _ h1,(hk v L1 h3).1,fun _ h=>h,(fun h=>by rw[sa]at h;cases h),(hk v L1 h3).2 _ (ha.put hd v)⟩) (hF e a w ha hw)⟩⟩
theorem sd{X:Type}{val:X→Value}{L':X→List ai}{L2:ai→X→List ai}{pr:X→Prop}{pre:Prop}{f:FuncId}{xs:List Operand}{ts:Array TypeId}{vs:List Value}{d:Option Tmp}{ty:TypeId}{ps:String}{af:Array Edge}[hf:aQ P f](ho:l[k]? =some ⟨d, .call {callee:= .value (.func f),args:=xs.toArray,argTypes:=ts},ty,ps,af,none⟩)(hx:hH env xs=some vs)
  [hc:cl P f w0 L vs X val L' pr pre] [Et: ∀e,cl P f w0 (e::L) vs X val (L2 e) pr pre] (hp:pre) (hP: ∀e x w,Mem w0 (L2 e x) w→Mem w0 (e::L' x) w) (hC:Cert P N env l fs mk ord) (hk: ∀x,pr x→(∀w,Mem w0 (L' x) w→Mem w0 Lq w)∧Ln P N w0 l fs mk Q ord (cw env d (val x)) (L' x) Lq)
  (hd:dk N d=true:=by rfl) (wo:fs.contains k=true:=by rfl) (qX:fs.contains (k+2000)=false:=by rfl) (sa:fs.contains (k+5000)=false:=by rfl):Ln P N w0 l fs mk Q (k::ord) env L Lq:=
 Rj (fun v L1=> ∃x,v=val x∧L1=L' x∧pr x) ho (nG hx hp fun x iB=>⟨x,rfl,rfl,iB⟩) (fun e=>Jo (nG (K:=fun v L1=> ∃x,v=val x∧L1=L2 e x∧pr x) hx hp fun x iB=>⟨x,rfl,rfl,iB⟩) fun v L1 ⟨x,h1,h2,h3⟩=>⟨L1,fun _ h=>h,L' x,fun w hw=>hP e x w (by rw[←h2];exact hw),x,h1,rfl,h3⟩)
  (fun v L1 ⟨x,h1,h2,h3⟩=>by subst h1;subst h2;exact hk x h3) hC rfl hd wo qX sa
theorem oy{m:mU}(ho:l[k]? =some o)(hm:mk k=m)(h: ∀a,db N env a→rY P o a.eval m)(hC:Cert P N env l fs mk ord)(hk: ∀x:m.X,Ln P N w0 l fs mk Q ord (cw env o.dst (m.v x)) (m.e x::L) Lq)(hg:o.guard=none:=by rfl)(hd:dk N o.dst=true:=by rfl)(hf:fs.contains k=true:=by rfl)(kQ:fs.contains (k+2000)=true:=by rfl):Ln P N w0 l fs mk Q (k::ord) env L Lq:=fun a ha=>by
 subst hm
 refine⟨o,ho,?_⟩
 rw[if_pos hf,if_pos kQ]
 exact⟨hC.at ha,hg,h a ha,fun x=>hk x _ (ha.put hd _)⟩
theorem dE(ho:l[k]? =some o)(h:hU P N w0 env L o fun v L'=>(∀w,Mem w0 L' w→Mem w0 Lq w)∧Ln P N w0 l fs mk Q ord (cw env o.dst v) L' Lq)(hg:o.guard=none:=by rfl)(hd:dk N o.dst=true:=by rfl)(hf:fs.contains k=true:=by rfl)(qX:fs.contains (k+2000)=false:=by rfl)(wm:fs.contains (k+4000)=false:=by rfl)(sa:fs.contains (k+5000)=false:=by rfl)(hC:Cert P N env l fs mk ord:=by exact Cert.none rfl):Ln P N w0 l fs mk Q (k::ord) env L Lq:=
 Ri (qX:=qX) (wm:=wm) (sa:=sa) (hC:=hC) ho (Jo h fun v L' ⟨h1,h2⟩=>⟨L',fun _ h=>h,Lq,h1,fun _ h=>h,h2⟩) hg hd hf
def Eu:List (Nat×mU)→Nat→mU
 |[],_=>⟨Unit,fun _=>undef,fun _=> .emp⟩
 |(i,m)::r,k=>match Nat.beq i k with
  |true=>m
  |false=>Eu r k
@[reducible] def kR (P:Program)(t:TypeId){z:Value}[_hz:fe P t z]:mU:=⟨Nat,fun b=> .pointer (some ⟨b,0,none⟩),fun b=>ar b z.cells t⟩
theorem jX{t:TypeId}{z:Value}[hz:fe P t z]{d:Option Tmp}{ty:TypeId}{ps:String}{af:Array Edge}{gd:Option (Nat×Bool)}: ∀a,db N env a→rY P ⟨d, .alloc t,ty,ps,af,gd⟩ a.eval (kR P t):=fun a _ w0 w L hw=>by
 refine⟨w.heap.size,w.alloc (.cells z.cells t),?_,hw.alloc z.cells t⟩
 simp only[execOp,Instr.alloc,newVar,newRow,Sem.run_bind,AJ w hz,newObj,Sem.run,Result.andThen,Sem.run_pure];rfl
@[reducible] def qY {α:Type}(enc:α→Array Value)(c n:Nat)(xs:List α):mU:=⟨Nat,fun b=>Sv.val ⟨false,b,0,n,n,none⟩,fun b=>own enc c ⟨false,b,0,n,n,none⟩ xs⟩
theorem Ev{α:Type}{enc:α→Array Value}{c:Nat}{t e:TypeId}{cE n:Nat}{d:Option Tmp}{ty:TypeId}{ps:String}{af:Array Edge}{gd:Option (Nat×Bool)}[ht:fg P t e c cE][he:bu enc c]{ops:List (Nat×Operand)}{vals:List Value}(xs:List α)(hx:jW env ops=some (idx vals 0))(hv:vals.map Value.cells=xs.map enc)(hn:xs.length=n)(hc:0<n*c)(rW:n*c≤16777216):
  ∀a,db N env a→rY P ⟨d, .buildSlice t n ops.toArray,ty,ps,af,gd⟩ a.eval (qY enc c n xs):=fun a ha w0 w L hw=>by
 subst hn
 have e1:(ops.toArray.map fun(p:Nat×Operand)=>match p with|(i,x)=>(i,a.eval x))=(idx vals 0).toArray:=by
  rw[←ha.jW hx];simp
 refine⟨w.heap.size,_,?_,hw.call (v5 (enc:=enc) (c:=c) (xs:=xs) (cs:=(aK enc xs).toArray) (e:=e) rfl xs.length xs.length rfl (Nat.le_refl _) (DY hc rW) (by simp[gQ]) fun i x hx j hj=>by rw[←mR (enc:=enc) xs i x hx j hj];simp)⟩
 simp only[execOp,e1,Sem.run_bind,DZ ht hv hc rW w,Result.andThen,Sem.run_pure];rfl
theorem qa{id:Nat}[jV Q](fs:List Nat)(A:List (List Nat))(ord:List Nat)(Lq:List ai)(mk:List (Nat×mU))(Rk:(fs.all fun j=>decide (j<2000)||decide (4000≤j)||fs.contains (j -2000))=true)(lG: ∀w,Mem w0 L w→Mem w0 Lq w)(hm:P.follows .mixedOrders=true)(hB:Ba l fs A ord=true)(h:Ln P N w0 l fs (Eu mk) Q ord env L Lq)(bp:l.length≤1000:=by decide)(ct:n0 l=true:=by kernel_rfl):Cw P N w0 Q (.region id l.toArray true) env L:=fun a _ ha hw=>by
 refine Jn A ord ct hm hB hw.Au lG (fun k yI hk=> ?_) (h a ha)
 cases h2:fs.contains (k+2000)with
 |false=>rfl
 |true=>
  have:=List.all_eq_true.1 Rk (k+2000) (by simpa using h2)
  rw[Bool.or_eq_true,Bool.or_eq_true,decide_eq_true_eq,decide_eq_true_eq]at this
  rcases this with(h|h)|h
  ·
   omega
  ·
   omega
  ·
   rw[Nat.add_sub_cancel,hk]at h;cases h
theorem jn{id:Nat}[jV Q](fs:List Nat)(A:List (List Nat))(ord:List Nat)(Lq:List ai)(lG: ∀w,Mem w0 L w→Mem w0 Lq w)(hm:P.follows .mixedOrders=true)(hB:A9 l fs A ord=true)(h:Ln P N w0 l fs (Eu []) Q ord env L Lq)(ct:n0 l=true:=by kernel_rfl):Cw P N w0 Q (.region id l.toArray true) env L:=fun a _ ha hw=>
 Q9 A ord ct hm hB hw.Au lG (h a ha)
end
open Go.RowKit
theorem Ry.n{P:Program}{N:cz}{w0:World}{env:Env}{L:List ai}{d:Option Tmp}{ty:TypeId}{ps:String}{af:Array Edge}{gd:Option (Nat×Bool)}{s:TypeId}{x:Operand}{fi off b o o':Nat}[hf:dO P s fi off](hx:ev env x=some (.pointer (some ⟨b,o,none⟩)))(ho:Nat.add o off=o':=by(simp only[Nat.add_eq,Nat.reduceAdd];exact rfl)):
  Ry P N w0 env L ⟨d, .fieldAddr s x fi,ty,ps,af,gd⟩ (.pointer (some ⟨b,o',none⟩)):=aH hx ho
theorem tS{P:Program}{N:cz}{w0:World}{l:List Oper}{Q:Exit→Act→World→Prop}{rest:List Oper}{env:Env}{L:List ai}{d:Option Tmp}{ty:TypeId}{ps:String}{af:Array Edge}(op:Op)(gd:Option (Nat×Bool))(h:Sq P N w0 l Q (⟨d,op,ty,ps,af,gd⟩::rest) env L):Sq P N w0 l Q (⟨d,op,ty,ps,af,gd⟩::rest) env L:=h
theorem tQ{P:Program}{N:cz}{w0:World}{l:List Oper}{fs:List Nat}{F:Act→Prop}{k:Nat}{rest:List Oper}{env:Env}{L:List ai}{d:Option Tmp}{ty:TypeId}{ps:String}{af:Array Edge}(op:Op)(gd:Option (Nat×Bool))(h:Qt P N w0 l fs F k (⟨d,op,ty,ps,af,gd⟩::rest) env L):Qt P N w0 l fs F k (⟨d,op,ty,ps,af,gd⟩::rest) env L:=h
theorem Gs{G G':Prop}(k:G')(h:G'→G:=by
 intro k
 first
 |(with_reducible refine tS (.move _) none ?_);exact ag (aD rfl) k
 |(with_reducible refine tS (.assign _) none ?_);exact ag (bl rfl) k
 |(with_reducible refine tS (.fieldAddr _ _ _) none ?_);exact ag (Ry.n rfl) k
 |(with_reducible refine tS (.load _ _) none ?_);exact ag (bH rfl) k
 |(with_reducible refine tS (.load _ _) none ?_);exact ag (fI rfl) k
 |(with_reducible refine tS (.binOp .add _ _ _ _) none ?_);exact ag (pR rfl rfl (by omega)) k
 |(with_reducible refine tS (.binOp .sub _ _ _ _) none ?_);exact ag (yj rfl rfl (by omega)) k
 |(with_reducible refine tS (.pick _ _ _) none ?_);exact ag (mL rfl rfl rfl) k
 |(with_reducible refine tS (.pick _ _ _) none ?_);exact ag (vK rfl rfl rfl) k
 |(with_reducible refine tS (.unOp _ _ _) none ?_);exact ag (iR rfl) k
 |(with_reducible refine tS (.binOp _ _ _ _ _) none ?_);exact ag (cx rfl rfl rfl) k
 |(with_reducible refine tS (.nilCheck _) none ?_);exact ag (jG rfl) k
 |(with_reducible refine tS (.call _) none ?_);exact ag (lg rfl) k
 |(with_reducible refine tS (.store _ _ _) none ?_);exact qN rfl rfl k
 |(with_reducible refine tS (.call _) none ?_);exact fy (cC rfl trivial) k):G:=h k
theorem Gq{G G':Prop}(k:G')(h:G'→G:=by
 intro k
 first
 |(with_reducible refine tQ (.move _) none ?_);exact bc (aD rfl) k
 |(with_reducible refine tQ (.assign _) none ?_);exact bc (bl rfl) k
 |(with_reducible refine tQ (.fieldAddr _ _ _) none ?_);exact bc (Ry.n rfl) k
 |(with_reducible refine tQ (.load _ _) none ?_);exact bc (bH rfl) k
 |(with_reducible refine tQ (.load _ _) none ?_);exact bc (fI rfl) k
 |(with_reducible refine tQ (.binOp .add _ _ _ _) none ?_);exact bc (pR rfl rfl (by omega)) k
 |(with_reducible refine tQ (.binOp .sub _ _ _ _) none ?_);exact bc (yj rfl rfl (by omega)) k
 |(with_reducible refine tQ (.pick _ _ _) none ?_);exact bc (mL rfl rfl rfl) k
 |(with_reducible refine tQ (.pick _ _ _) none ?_);exact bc (vK rfl rfl rfl) k
 |(with_reducible refine tQ (.unOp _ _ _) none ?_);exact bc (iR rfl) k
 |(with_reducible refine tQ (.binOp _ _ _ _ _) none ?_);exact bc (cx rfl rfl rfl) k
 |(with_reducible refine tQ (.nilCheck _) none ?_);exact bc (jG rfl) k
 |(with_reducible refine tQ (.call _) none ?_);exact bc (lg rfl) k):G:=h k
theorem Gg{G G':Prop}(k:G')(h:G'→G:=by
 intro k
 first
 |(with_reducible refine tS (.move _) (some (_,false)) ?_);exact bZ rfl rfl rfl (fun hg=>Ry.yl (aD rfl)) k
 |(with_reducible refine tS (.fieldAddr _ _ _) (some (_,false)) ?_);exact bZ rfl rfl rfl (fun hg=>Ry.yl (Ry.n rfl)) k
 |(with_reducible refine tS (.load _ _) (some (_,false)) ?_);exact bZ rfl rfl rfl (fun hg=>Ry.yl (bH (aG hg rfl))) k
 |(with_reducible refine tS (.binOp _ _ _ _ _) (some (_,false)) ?_);exact bZ rfl rfl rfl (fun hg=>Ry.yl (cx (aG hg rfl) rfl rfl)) k
 |(with_reducible refine tS (.binOp _ _ _ _ _) (some (_,false)) ?_);exact bZ rfl rfl rfl (fun hg=>Ry.yl (cx (aG hg rfl) (aG hg rfl) rfl)) k
 |(with_reducible refine tS (.call _) (some (_,false)) ?_);exact bZ rfl rfl rfl (fun hg=>Ry.yl (lg (aG hg rfl))) k
 |(with_reducible refine tS (.move _) (some (_,true)) ?_);exact gN rfl rfl rfl (fun hg=>Ry.yl (aD rfl)) k
 |(with_reducible refine tS (.fieldAddr _ _ _) (some (_,true)) ?_);exact gN rfl rfl rfl (fun hg=>Ry.yl (Ry.n rfl)) k
 |(with_reducible refine tS (.load _ _) (some (_,true)) ?_);exact gN rfl rfl rfl (fun hg=>Ry.yl (bH (aG hg rfl))) k
 |(with_reducible refine tS (.binOp _ _ _ _ _) (some (_,true)) ?_);exact gN rfl rfl rfl (fun hg=>Ry.yl (cx (aG hg rfl) rfl rfl)) k
 |(with_reducible refine tS (.binOp _ _ _ _ _) (some (_,true)) ?_);exact gN rfl rfl rfl (fun hg=>Ry.yl (cx (aG hg rfl) (aG hg rfl) rfl)) k
 |(with_reducible refine tS (.call _) (some (_,true)) ?_);exact gN rfl rfl rfl (fun hg=>Ry.yl (lg (aG hg rfl))) k):G:=h k
theorem Gh{G G':Prop}(k:G')(h:G'→G:=by
 intro k
 first
 |(with_reducible refine tQ (.move _) (some (_,false)) ?_);exact iH rfl rfl rfl (fun hg=>Ry.yl (aD rfl)) k
 |(with_reducible refine tQ (.fieldAddr _ _ _) (some (_,false)) ?_);exact iH rfl rfl rfl (fun hg=>Ry.yl (Ry.n rfl)) k
 |(with_reducible refine tQ (.load _ _) (some (_,false)) ?_);exact iH rfl rfl rfl (fun hg=>Ry.yl (bH (aG hg rfl))) k
 |(with_reducible refine tQ (.binOp _ _ _ _ _) (some (_,false)) ?_);exact iH rfl rfl rfl (fun hg=>Ry.yl (cx (aG hg rfl) rfl rfl)) k
 |(with_reducible refine tQ (.binOp _ _ _ _ _) (some (_,false)) ?_);exact iH rfl rfl rfl (fun hg=>Ry.yl (cx (aG hg rfl) (aG hg rfl) rfl)) k
 |(with_reducible refine tQ (.call _) (some (_,false)) ?_);exact iH rfl rfl rfl (fun hg=>Ry.yl (lg (aG hg rfl))) k
 |(with_reducible refine tQ (.move _) (some (_,true)) ?_);exact fC rfl rfl rfl (fun hg=>Ry.yl (aD rfl)) k
 |(with_reducible refine tQ (.fieldAddr _ _ _) (some (_,true)) ?_);exact fC rfl rfl rfl (fun hg=>Ry.yl (Ry.n rfl)) k
 |(with_reducible refine tQ (.load _ _) (some (_,true)) ?_);exact fC rfl rfl rfl (fun hg=>Ry.yl (bH (aG hg rfl))) k
 |(with_reducible refine tQ (.binOp _ _ _ _ _) (some (_,true)) ?_);exact fC rfl rfl rfl (fun hg=>Ry.yl (cx (aG hg rfl) rfl rfl)) k
 |(with_reducible refine tQ (.binOp _ _ _ _ _) (some (_,true)) ?_);exact fC rfl rfl rfl (fun hg=>Ry.yl (cx (aG hg rfl) (aG hg rfl) rfl)) k
 |(with_reducible refine tQ (.call _) (some (_,true)) ?_);exact fC rfl rfl rfl (fun hg=>Ry.yl (lg (aG hg rfl))) k):G:=h k
theorem tR{P:Program}{N:cz}{w0:World}{Q:Exit→Act→World→Prop}{env:Env}{L:List ai}{id:Nat}{l:Array Oper}(h:Cw P N w0 Q (.region id l false) env L):Cw P N w0 Q (.region id l false) env L:=h
theorem Gc{G G':Prop}(k:G')(h:G'→G:=by
 intro k
 repeat (first
  |(with_reducible refine aO ?_)
  |(with_reducible refine aN ?_)
  |(with_reducible refine aX ?_)
  |(with_reducible refine fT ?_)
  |(with_reducible refine eC ?_)
  |(with_reducible refine ff ?_)
  |(with_reducible refine l8 ?_)
  |(with_reducible refine lI ?_)
  |(with_reducible refine mN ?_)
  |(with_reducible refine rV ?_)
  |(with_reducible refine o8 ?_)
  |(with_reducible refine rU ?_)
  |(with_reducible refine Bn ?_)
  |(with_reducible refine vQ ?_)
  |(with_reducible refine tR ?_);refine aZ ?_)
 exact k):G:=h k
theorem Gi{G G':Prop}(k:G')(h:G'→G:=by
 intro k
 first
  |(with_reducible refine aO ?_)
  |(with_reducible refine aN ?_)
  |(with_reducible refine aX ?_)
  |(with_reducible refine fT ?_)
  |(with_reducible refine eC ?_)
  |(with_reducible refine ff ?_)
  |(with_reducible refine l8 ?_)
  |(with_reducible refine lI ?_)
  |(with_reducible refine mN ?_)
  |(with_reducible refine rV ?_)
  |(with_reducible refine o8 ?_)
  |(with_reducible refine rU ?_)
  |(with_reducible refine Bn ?_)
  |(with_reducible refine vQ ?_)
  |(with_reducible refine tR ?_);refine aZ ?_
 exact k):G:=h k
theorem bz{p q:Prop}(h:p)(e:p=q:=by(try simp only[Z0,Z1,Z2,Z3,Z4,Z5,Z6,Z7,Z8,Z9]);exact rfl):q:=e▸h
open Go.RowKit
theorem wq{A X V:List Value}{o:Nat}(h:o=A.length):cP (A++X).toArray o V.toArray=(A++(V++X.drop V.length)).toArray:=by
 subst h
 unfold cP
 simp only[List.size_toArray,List.append_assoc]
 rw[List.take_left,List.drop_append]
 simp
section
variable {α:Type} {enc:α→Array Value} {c:Nat} {s:Sv} {xs:List α}
theorem uQ(xs ys:List α):aK enc (xs++ys)=aK enc xs++aK enc ys:=by simp[aK]
theorem Rl[he:bu enc c](hc:0<c){cs:Array Value}{o:Nat}(fc:o+xs.length*c≤cs.size)(hr: ∀i x,xs[i]? =some x→ ∀j,j<c→cs[o+i*c+j]? =(enc x)[j]?):
  cs=(cs.toList.take o++(aK enc xs++cs.toList.drop (o+xs.length*c))).toArray:=by
 have key:(cs.toList.drop o).take (xs.length*c)=aK enc xs:=by
  refine List.ext_getElem? fun k=> ?_
  rcases Nat.lt_or_ge k (xs.length*c)with hk|hk
  ·
   rw[List.getElem?_take_of_lt hk,List.getElem?_drop,Array.getElem?_toList]
   have hd:k/c<xs.length:=Nat.div_lt_of_lt_mul (by rwa [Nat.mul_comm])
   have hm:=Nat.mod_lt k hc
   have e:k/c*c+k%c=k:=by rw[Nat.mul_comm];exact Nat.div_add_mod k c
   have h1:=hr (k/c) xs[k/c] (by simp[hd]) (k%c) hm
   have h2:=mR (enc:=enc) xs (k/c) xs[k/c] (by simp[hd]) (k%c) hm
   rw[e]at h2
   rw[h2,←h1];congr 1;omega
  ·
   rw[List.getElem?_eq_none (by simp;omega),List.getElem?_eq_none (by rw[gQ];omega)]
 apply Array.ext'
 simp only
 rw[←key,←List.append_assoc,show o+xs.length*c=o+xs.length*c from rfl,←List.drop_drop,List.append_assoc,List.take_append_drop,List.take_append_drop]
theorem Ew{a b:Nat}(h:a≤b):a=Nat.min a b:=(Nat.min_eq_left h).symm
theorem Rn{a b:Nat}(h:b≤a):b=Nat.min a b:=(Nat.min_eq_right h).symm
theorem Ro[he:bu enc c](hc:1<c){w0 w:World}{L:List ai}{i:Nat}(hw:Mem w0 L w)(hi:L[i]? =some (own enc c s xs))(hn:s.nil=false):
  ∃pre mid T,pre.length=s.o∧s.o+s.cap*c≤pre.length+(xs.length*c+mid.length)∧s.sp=none∧s.Ok∧s.len=xs.length∧Mem w0 (L.set i (ar s.b (pre++(aK enc xs++mid)).toArray T)) w:=by
 obtain⟨r,mS⟩:=hw.get hi
 obtain⟨gq,cs,T,fz,eO,fc,lL,mf⟩:=mS hn
 obtain rfl:=mf hc
 have hle:=r.ok.le
 have hlen:=r.len
 have hm:xs.length*c≤s.cap*c:=Nat.mul_le_mul_right _ (by omega)
 have e:=Rl (enc:=enc) (c:=c) (xs:=xs) (cs:=cs) (o:=s.o) (by omega) (by omega) fun i x hx j hj=>by
  rw[←r.row i x hx j hj];unfold mO;rw[eO]
 refine⟨cs.toList.take s.o,cs.toList.drop (s.o+xs.length*c),T,by simp;omega,by simp;omega,gq,r.ok,hlen,?_⟩
 rw[←e]
 exact hw.change hi (fun k (hk:k=s.b)=>⟨hn,hk⟩) (fun _ _=>rfl) rfl ⟨rfl,rfl,rfl⟩ eO
theorem Ey[he:bu enc c]{w0 w:World}{L:List ai}{i b:Nat}{pre mid:List Value}{T:TypeId}(hw:Mem w0 L w)(hi:L[i]? =some (ar b (pre++(aK enc xs++mid)).toArray T))(s':Sv)(bP:s'.Ok)(hn:s'.nil=false)(hb:s'.b=b)(gq:s'.sp=none)(ho:s'.o=pre.length)(hl:s'.len=xs.length)
  (uB:s'.o+s'.cap*c≤pre.length+(xs.length*c+mid.length)):Mem w0 (L.set i (own enc c s' xs)) w:=by
 subst hb
 have eO:hp w s'.b=some (.cells (pre++(aK enc xs++mid)).toArray T (0,0)):=hw.block hi
 refine hw.change hi (fun k hk=>hk.2) (fun _ _=>rfl) rfl ⟨rfl,rfl,rfl⟩ ⟨s8 bP hl eO fun k y hy j hj=> ?_,fun _=>⟨gq,_,_,_,eO,by simp[gQ];omega,DT _,fun _=>rfl⟩⟩
 have bp:k*c+j<(aK enc xs).length:=by
  rw[gQ]
  have h1:=(List.getElem?_eq_some_iff.1 hy).1
  calc k*c+j<k*c+c:=by omega
   _=(k+1)*c:=by rw[Nat.add_mul];omega
   _≤_:=Nat.mul_le_mul_right _ h1
 rw[List.getElem?_toArray,List.getElem?_append_right (by omega),List.getElem?_append_left (by omega),←mR (enc:=enc) xs k y hy j hj]
 congr 1;omega
theorem Sv.ti{lo hi:Nat}(h:lo<s.cap):(s.sub c lo hi).o=s.o+lo*c:=by simp only[Sv.sub];rw[if_neg (by omega)]
theorem Sv.yQ{hi:Nat}:(s.sub c 0 hi).o=s.o:=by simp only[Sv.sub];split<;>simp
theorem Sv.sub_eq{hi:Nat}(hn:s.nil=false)(gq:s.sp= .none):s.sub c 0 hi=⟨false,s.b,s.o,hi,s.cap, .none⟩:=by
 have h0:=Sv.yQ (s:=s) (c:=c) (hi:=hi)
 obtain⟨sn,sb,so,sl,sc,ss⟩:=s
 simp only[Sv.sub]at h0 hn gq⊢
 subst hn gq
 rw[h0];rfl
end
section
variable {P:Program} {N:cz} {w0:World} {env:Env} {L:List ai} {Q:Exit→Act→World→Prop} {l rest:List Oper} {d:Option Tmp} {ty:TypeId} {ps:String} {af:Array Edge} {gd:Option (Nat×Bool)} {K:Value→List ai→Prop}
variable {α:Type} {enc:α→Array Value} {c:Nat} {s:Sv} {xs:List α}
theorem Rp{w:World}{pre A mid:List Value}{T:TypeId}{b o:Nat}{L':List ai}(hw:Mem w0 (ar b (pre++(A++mid)).toArray T::L') w)(ho:pre.length=o){j:Nat}{u:Value}(hj:A[j]? =some u):w.cell? ⟨b,o+j,none⟩=some u:=by
 have jj:=(List.getElem?_eq_some_iff.1 hj).1
 have h0:(ar b (pre++(A++mid)).toArray T::L')[0]? =some (ar b (pre++(A++mid)).toArray T):=rfl
 rw[hw.cell h0,List.getElem?_toArray,List.getElem?_append_right (by omega),List.getElem?_append_left (by omega),←hj]
 congr 1;omega
theorem Jw{code:Code}[he:bu enc c]{i:Nat}(q:fD L s enc c xs i)(hc:1<c)(hn:0<xs.length){L':List Value→List Value→TypeId→List ai}[hu: ∀pre mid T,fx L i (ar s.b (pre++(aK enc xs++mid)).toArray T) (L' pre mid T)]
  (h: ∀pre mid T,pre.length=s.o→s.o+s.cap*c≤pre.length+(xs.length*c+mid.length)→s.nil=false→s.sp=none→s.Ok→s.len=xs.length→Cw P N w0 Q code env (L' pre mid T)):Cw P N w0 Q code env L:=fun a w ha hw=>by
 have mV:=(hw.get q.h).1.some hn
 obtain⟨pre,mid,T,h1,h2,h3,h4,h5,h6⟩:=Ro hc hw q.h mV
 rw[(hu pre mid T).h]at h6
 exact h pre mid T h1 h2 mV h3 h4 h5 a w ha h6
theorem Bp{code:Code}{i:Nat}(q:fD L s enc c xs i)(hn:0<xs.length)(h:s.nil=false→s.sp=none→s.Ok→s.len=xs.length→Cw P N w0 Q code env L):Cw P N w0 Q code env L:=fun a w ha hw=>by
 obtain⟨r,mS⟩:=hw.get q.h
 have mV:=r.some hn
 exact h mV (mS mV).1 r.ok r.len a w ha hw
theorem Jx[he:bu enc c](hc:0<c){i:Nat}(q:fD L s enc c xs i){w:World}(hw:Mem w0 L w){j:Nat}{v:Value}(hj:(aK enc xs)[j]? =some v):w.cell? ⟨s.b,s.o+j,none⟩=some v:=by
 obtain⟨x,hx,hv⟩:=AU hc hj
 have r:=(hw.get q.h).1
 rw[qP,←hv,←r.row _ x hx (j%c) (Nat.mod_lt _ hc)]
 congr 1
 have:=Nat.div_add_mod j c
 rw[Nat.mul_comm]at this;omega
theorem Rq(w:World)(dT sT ty elem:TypeId)(b o Jy Rr:Nat)(a:Addr)(Jz Rs n:Nat)(cur:Array Value)(t:TypeId)(vs:List Value)
  (hu:P.underlying dT=some (.slice elem)) (hs:(P.info? elem).map (·.size)=some c) (hg:w.heap[b]? =some (.cells cur t (0,0))) (hn:n=Nat.min Jz Jy) (hv:vs.length=n*c)
  (lH: ∀j v,vs[j]? =some v→w.cell? (a.add j)=some v) (iI:o+vs.length≤cur.size) (h1: ∀v∈vs,v.oneCell'=true):
  (Builtin.copy_ #[dT,sT] ty #[.slice (some ⟨b,o,none⟩) Jy Rr, .slice (some a) Jz Rs]).run P w= .ok (goInt n) (w.setRow b (cP cur o vs.toArray)):=by
 have hl:=run_loadCells_list (P:=P) w a vs lH
 have bA:=run_storeCells_at P b o t vs 0 cur w hg (by simpa using iI) h1
 rw[hv]at hl
 cases hq:P.info? elem with
 |none=>simp[hq]at hs
 |some i=>
  have hi:i.size=c:=by simpa[hq]using hs
  simp[Builtin.copy_,run_underlying hu,Builtin.lenOf,Builtin.firstCells,sizeOf,typeInfo,hq,hi,←hn,hl,bA,cP]
theorem Bq{D S:Sv}{x y:Operand}{tx fS e:TypeId}{i b o n:Nat}{cs:Array Value}{T:TypeId}{vs:List Value}(hx:ev env x=some D.val)(hy:ev env y=some S.val)
  (lO:D.nil=false) (mW:D.sp=none) (oz:D.b=b) (qb:D.o=o) (yR:S.nil=false) (yS:S.sp=none) [ht:eW P tx e c] [hh:Has L b cs T i] (hn:n=Nat.min S.len D.len) (hv:vs.length=n*c)
  (lH: ∀w,Mem w0 L w→ ∀j v,vs[j]? =some v→w.cell? ⟨S.b,S.o+j,none⟩=some v) (h1: ∀v∈vs,v.oneCell'=true) (ho:o+vs.length≤cs.size) {cs':Array Value} {L':List ai} (gF:cP cs o vs.toArray=cs') [hu:fx L i (ar b cs' T) L']
  (hk:Sq P N w0 l Q rest (cw env d (.int .i64 n)) L') (hd:dk N d=true:=by rfl):
  Sq P N w0 l Q (⟨d, .call {callee:= .builtin .copy,args:= #[x,y],argTypes:= #[tx,fS]},ty,ps,af,none⟩::rest) env L:=
 mM rfl hd fun aa w ha hw=>by
  rw[Sv.hK lO,mW,oz,qb]at hx
  rw[Sv.hK yR,yS]at hy
  have hb:=hw.block hh.h
  have fR:=Rq (P:=P) w tx fS ty e b o D.len D.cap ⟨S.b,S.o,none⟩ S.len S.cap n cs T vs ht.eA ht.size hb hn hv (fun j v hj=>by rw[Addr.gp];exact lH w hw j v hj) ho h1
  refine⟨_,_,_,?_,by rw[←hu.h,←gF];exact hw.setRow hh.h _,hk⟩
  simp[execOp,ha.ev hx,ha.ev hy,resolve,invoke,builtin,fR,Result.andThen,goInt]
theorem Ru{D S:Sv}{x y:Operand}{tx fS e e':TypeId}{cE i b o n:Nat}{cs:Array Value}{T:TypeId}{vs:List Value}(hx:ev env x=some D.val)(hy:ev env y=some S.val)
  (lO:D.nil=false) (mW:D.sp=none) (oz:D.b=b) (qb:D.o+D.len*c=o) (yR:S.nil=false) (yS:S.sp=none) [ht:fg P tx e c cE] (wu:P.underlying fS=some (.slice e')) [hh:Has L b cs T i] (hn:S.len=n) (hv:vs.length=n*c) (nz:D.len+n≤D.cap)
  (lH: ∀w,Mem w0 L w→ ∀j v,vs[j]? =some v→w.cell? ⟨S.b,S.o+j,none⟩=some v) (h1: ∀v∈vs,v.oneCell'=true) (ho:o+vs.length≤cs.size) {cs':Array Value} {L':List ai} (gF:cP cs o vs.toArray=cs') [hu:fx L i (ar b cs' T) L']
  {R:Sv} (hR:R=⟨false,b,D.o,D.len+n,D.cap,none⟩) (hk:Sq P N w0 l Q rest (cw env d R.val) L') (hd:dk N d=true:=by rfl):
  Sq P N w0 l Q (⟨d, .call {callee:= .builtin .append,args:= #[x,y],argTypes:= #[tx,fS]},ty,ps,af,none⟩::rest) env L:=
 mM rfl hd fun aa w ha hw=>by
  subst hR qb oz
  rw[Sv.hK lO,mW]at hx
  rw[Sv.hK yR,yS,hn]at hy
  have hb:=hw.block hh.h
  obtain⟨i',z,bh,aF,bt,cS,mc⟩:=ht.info
  have hs:=Src.ofSlice (P:=P) (size:=c) w wu ⟨S.b,S.o,none⟩ n S.cap vs hv (fun j v hj=>by rw[Addr.gp];exact lH w hw j v hj) h1
  have bA:=run_storeCells_at P D.b (D.o+D.len*c) T vs 0 cs w hb (by simpa using ho) h1
  have fR:(Builtin.append_ #[tx,fS] ty #[.slice (some ⟨D.b,D.o,none⟩) D.len D.cap, .slice (some ⟨S.b,S.o,none⟩) n S.cap]).run P w= .ok (.slice (some ⟨D.b,D.o,none⟩) (D.len+n) D.cap) (w.setRow D.b (cP cs (D.o+D.len*c) vs.toArray)):=by
   subst bt
   rcases hs.kind with⟨e',hk⟩|hk<;>simp[Builtin.append_,run_underlying ht.eA,run_underlying hk,sizeOf,typeInfo,bh,hs.len,nz,hs.cells,Addr.gp,bA,cP]
  refine⟨_,_,_,?_,by rw[←hu.h,←gF];exact hw.setRow hh.h _,hk⟩
  simp[execOp,ha.ev hx,ha.ev hy,resolve,invoke,builtin,fR,Result.andThen,Sv.val]
theorem Rv{D:Sv}{x y:Operand}{tx fS e:TypeId}{cE k:Nat}{z:Value}{olds:List Value}{kn kq:IntKind}{iy:Int}{p m:Nat}(hp:D.len=p)(hm:p+k=m)(hx:ev env x=some D.val)(hy:ev env y=some (.int kq iy))(mn:iy=(k:Int))(h0:0<k)
  (lO:D.nil=false) (mW:D.sp=none) [ht:fg P tx e c cE] (hc:0<c) [hz:fe P e z] (Ez:P.underlying fS=some (.int kn)) (holds:olds.length=D.len*c) (lH: ∀w,Mem w0 L w→ ∀j v,olds[j]? =some v→w.cell? ⟨D.b,D.o+j,none⟩=some v)
  (hg:D.cap<D.len+k) (hb:(D.len+k)*cE≤140737488355328) (iS:D.len+k≤140737488355328)
  (hk: ∀(b C:Nat) (Z:List Value),m≤C→p*c+Z.length=C*c→Sq P N w0 l Q rest (cw env d (Sv.val ⟨false,b,0,m,C,none⟩)) (ar b (olds++Z).toArray e::L)) (hd:dk N d=true:=by rfl):
  Sq P N w0 l Q (⟨d, .call {callee:= .builtin .append,args:= #[x,y],argTypes:= #[tx,fS]},ty,ps,af,none⟩::rest) env L:=
 mM rfl hd fun aa w ha hw=>by
  subst mn hp hm
  rw[Sv.hK lO,mW]at hx
  obtain⟨i',z',bh,aF,bt,cS,mc⟩:=ht.info
  subst bt cS
  have uB:=nextslicecap_le hg
  have iI:Builtin.nextslicecap (D.len+k) D.cap*i'.bytes≤281474976710656:=by
   have h2:Builtin.nextslicecap (D.len+k) D.cap*i'.bytes≤2*(D.len+k)*i'.bytes:=Nat.mul_le_mul_right _ uB
   rw[Nat.mul_assoc]at h2
   omega
  have EA:k*i'.bytes≤281474976710656:=by
   have:k*i'.bytes≤(D.len+k)*i'.bytes:=Nat.mul_le_mul_right _ (by omega)
   omega
  have hold:=run_firstCells_some (P:=P) w.drew i'.size D.len ⟨D.b,D.o,none⟩ D.len D.cap olds holds (fun j v hj=>by rw[Addr.gp];exact lH w hw j v hj)
  have fR:=Lib.run_append_grow_zeros (P:=P) w tx fS ty e i' z' kq kn ht.eA Ez bh aF (some ⟨D.b,D.o,none⟩) D.len D.cap olds hold k h0 hc hg (by omega) EA iI
  have qR:=grownCap_ge w (D.len+k) D.cap e
  generalize grownCap w (D.len+k) D.cap e=C at fR qR
  have yT:=size_zeroCells z'.cells k
  have Br:=size_zeroCells z'.cells (C -(D.len+k))
  rw[mc]at yT Br
  have hZ:D.len*i'.size+(Builtin.zeroCells z'.cells k++Builtin.zeroCells z'.cells (C -(D.len+k))).toList.length=C*i'.size:=by
   rw[Array.length_toList,Array.size_append,yT,Br,←Nat.add_mul,←Nat.add_mul];congr 1;omega
  have e1:olds.toArray++Builtin.zeroCells z'.cells k++Builtin.zeroCells z'.cells (C -(D.len+k))=(olds++(Builtin.zeroCells z'.cells k++Builtin.zeroCells z'.cells (C -(D.len+k))).toList).toArray:=by apply Array.ext';simp
  rw[e1]at fR
  refine⟨_,_,_,?_,hw.drew.alloc _ e,hk w.heap.size C _ qR hZ⟩
  simp[execOp,ha.ev hx,ha.ev hy,resolve,invoke,builtin,fR,Result.andThen,Sv.val]
theorem Rw{D:Sv}{x:Operand}{tx e:TypeId}{cE i b o n:Nat}{z:Value}{cs:Array Value}{T:TypeId}(hx:ev env x=some D.val)(lO:D.nil=false)(mW:D.sp=none)(oz:D.b=b)(qb:D.o=o)(hn:D.len=n)(h0:0<n)[ht:fg P tx e c cE][hz:fe P e z](h1:z.cells.all (·.oneCell')=true)[hh:Has L b cs T i](ho:o+n*c≤cs.size)
  {L':List Value→List ai} [hu: ∀Z,fx L i (ar b (cP cs o Z.toArray) T) (L' Z)] (hk: ∀Z:List Value,Z.length=n*c→Sq P N w0 l Q rest env (L' Z)):
  Sq P N w0 l Q (⟨none, .call {callee:= .builtin .clear,args:= #[x],argTypes:= #[tx]},ty,ps,af,none⟩::rest) env L:=
 mM rfl rfl fun aa w ha hw=>by
  rw[Sv.hK lO,mW,oz,qb,hn]at hx
  have hb:=hw.block hh.h
  obtain⟨i',z',bh,aF,bt,cS,mc⟩:=ht.info
  obtain rfl:z'=z:=by
   have:=hz.zero
   rw[bh,Option.map_some,aF]at this;exact Option.some.inj (Option.some.inj this)
  subst bt
  have hZ:=size_zeroCells z'.cells n
  rw[mc]at hZ
  have qW: ∀v∈(Builtin.zeroCells z'.cells n).toList,v.oneCell'=true:=fun v hv=>by
   simp only[Builtin.zeroCells,Array.toList_map,List.mem_map]at hv
   obtain⟨j,hj,rfl⟩:=hv
   have pe:0<z'.cells.size:=by
    rcases Nat.eq_zero_or_pos z'.cells.size with h|h
    ·
     rw[h]at hj;simp at hj
    ·
     exact h
   rw[getElem!_pos z'.cells _ (Nat.mod_lt _ pe)]
   exact(Array.all_eq_true_iff_forall_mem.1 h1) _ (Array.getElem_mem _)
  have bA:=run_storeCells_at P b o T (Builtin.zeroCells z'.cells n).toList 0 cs w hb (by simp[hZ];omega) qW
  have fR:(Builtin.clear_ #[tx] ty #[.slice (some ⟨b,o,none⟩) n D.cap]).run P w= .ok (.tuple #[]) (w.setRow b (cP cs o (Builtin.zeroCells z'.cells n))):=by
   obtain⟨m,rfl⟩: ∃m,n=m+1:=⟨n -1,by omega⟩
   simp[Builtin.clear_,run_underlying ht.eA,zeroValue,typeInfo,bh,aF,bA,cP]
  refine⟨.tuple #[],w.setRow b (cP cs o (Builtin.zeroCells z'.cells n)),L' (Builtin.zeroCells z'.cells n).toList,?_,?_,hk _ (by rw[Array.length_toList,hZ])⟩
  ·
   simp[execOp,ha.ev hx,resolve,invoke,builtin,fR,Result.andThen]
  ·
   have h9:=hw.setRow hh.h (cP cs o (Builtin.zeroCells z'.cells n))
   rw[←(hu _).h]
   simpa using h9
def Sv.top(s:Sv)(m:Nat):Sv:=⟨s.nil,s.b,s.o,s.len,m,s.sp⟩
theorem JA{t e:TypeId}{x lo hi mx:Operand}{l h m:Nat}{k k' JB:IntKind}{il ih im:Int}[ht:eW P t e c](hx:ev env x=some s.val)[q:Hd w0 L s enc c xs](hl:ev env lo=some (.int k il))(hh:ev env hi=some (.int k' ih))(hm:ev env mx=some (.int JB im))(el:il=(l:Int))(eh:ih=(h:Int))(em:im=(m:Int))(h1:l≤h)(h2:h≤m)(h3:m≤xs.length):
  Ry P N w0 env L ⟨d, .slice t x (some lo) (some hi) (some mx),ty,ps,af,gd⟩ ((s.top m).sub c l h).val:=fun a w ha hw=>by
 subst el eh em
 have r:=q.h w hw
 have hs:=r.ok
 have hlen:=r.len
 have hle:=hs.le
 have ee:=vX ht.eA
 have hu:P.underlying t=some (.slice (P.elem t)):=by rw[ee];exact ht.eA
 obtain⟨ad,len,cap,mP⟩:=s.ex
 have e3:len=s.len∧cap=s.cap∧sliced ad l h m c=((s.top m).sub c l h).val:=by
  cases hn:s.nil with
  |true=>
   rw[Sv.qO hn]at mP
   obtain⟨rfl,rfl,rfl⟩:=by simpa using mP
   have:=hs.nil hn
   have e2:((s.top m).sub c l h).nil=true:=hn
   rw[Sv.qO e2]
   have:l=0:=by omega
   have:h=0:=by omega
   have:m=0:=by omega
   subst l h m
   exact⟨by omega,by omega,by simp[sliced]⟩
  |false=>
   rw[Sv.hK hn]at mP
   obtain⟨rfl,rfl,rfl⟩:=by simpa using mP
   have e2:((s.top m).sub c l h).nil=false:=hn
   rw[Sv.hK e2]
   refine⟨rfl,rfl,?_⟩
   simp only[sliced,Sv.sub,Sv.top]
   by_cases hc:m=l
   ·
    simp[hc]
   ·
    have gq:=hs.sp (by omega)
    simp[hc,gq,Addr.gp]
 obtain⟨e1,e2,e3⟩:=e3
 have hr:=run_slice_lhm (P:=P) (w:=w) t ad len cap hu k k' JB (l:Int) (h:Int) (m:Int) (by omega) (by omega) (by omega) (by omega)
 rw[ee,kL w ht.size]at hr
 simp only[Result.andThen,Int.toNat_natCast,e3]at hr
 simp only[execOp,ha.ev hx,ha.ev hl,ha.ev hh,ha.ev hm,mP,Option.map_some,run_sliceAt_slice (h:=hu),hr,Sem.run_bind,Result.andThen,Sem.run_pure]
theorem Rx{t e:TypeId}{x:Operand}{m n:Nat}[ht:eW P t e m](hx:ev env x=some s.val)(mV:s.nil=false)(hn:s.cap=n):
  Ry P N w0 env L ⟨d, .call {callee:= .builtin .cap,args:= #[x],argTypes:= #[t]},ty,ps,af,gd⟩ (.int .i64 n):=fun a w ha _=>by
 subst hn
 rw[Sv.hK mV]at hx
 have hu:P.underlying t=some (.slice (P.elem t)):=by rw[vX ht.eA];exact ht.eA
 have:=run_cap_slice (P:=P) (w:=w) t ty (some ⟨s.b,s.o,s.sp⟩) s.len s.cap hu
 simp[execOp,ha.ev hx,resolve,invoke,builtin,this,Result.andThen,goInt]
class JC(P:Program)(f:FuncId)(tS tR:outParam TypeId):Prop where
 fn: ∃fn,P.funcs[f]? =some fn∧(fn.name== "runtime.NumGoroutine")=false∧fn.body.isNone=true∧Extern.findNext fn=none∧Extern.find fn=some (Extern.SlicesOverlaps.overlaps #[tS,tS] #[tR])
theorem Mem.apart{w:World}{i j k:Nat}{e e':ai}(h:Mem w0 L w)(hi:L[i]? =some e)(hj:L[j]? =some e')(n8:i≠j)(hk:e.fp k): ¬e'.fp k:=by
 obtain⟨gi,rfl⟩:=List.getElem?_eq_some_iff.1 hi
 obtain⟨gj,rfl⟩:=List.getElem?_eq_some_iff.1 hj
 have hd:=List.pairwise_iff_getElem.1 h.nw
 rcases Nat.lt_or_gt_of_ne n8 with h1|h1
 ·
  exact hd i j gi gj h1 k hk
 ·
  exact fun h2=>hd j i gj gi h1 k h2 hk
theorem Rz{V D:Sv}{x y:Operand}{f:FuncId}{ts:Array TypeId}{tS tR e T:TypeId}{i j b:Nat}{cs:Array Value}(hx:ev env x=some V.val)(hy:ev env y=some D.val)[hf:JC P f tS tR][ht:eW P tS e c](hc:1<c)[q:fD L V enc c xs i](hv:0<xs.length)[hh:Has L b cs T j](lO:D.nil=false)(mW:D.sp=none)(oz:D.b=b)(gF:0<cs.size)(n8:i≠j:=by decide):
  Ry P N w0 env L ⟨d, .call {callee:= .value (.func f),args:= #[x,y],argTypes:=ts},ty,ps,af,gd⟩ (.bool false):=fun a w ha hw=>by
 obtain⟨r,mS⟩:=hw.get q.h
 have EB:=r.some hv
 obtain⟨RA,cv,Tv,fz,eO,fc,lL,mf⟩:=mS EB
 obtain rfl:=mf hc
 have hb:=hw.block hh.h
 have bW:V.b≠b:=fun e0=>hw.apart q.h hh.h n8 (k:=V.b) ⟨EB,rfl⟩ e0
 subst oz
 rw[Sv.hK EB,RA]at hx
 rw[Sv.hK lO,mW]at hy
 obtain⟨fn,h1,h2,h3,h4,h5⟩:=hf.fn
 have fR:=Lib.run_overlaps_apart (P:=P) w tS tR e ht.eA c (fun w=>kL w ht.size) ⟨V.b,V.o,none⟩ ⟨D.b,D.o,none⟩ V.len V.cap D.len D.cap bW Tv T cv.size cs.size (by simp[World.shape?,eO]) (by simp[World.shape?,hb]) (by omega) (by simp[World.frozen?,eO]) (by simp[World.frozen?,eO])
 have JD:=run_callFunc_extern (P:=P) h1 h2 h3 h4 h5 #[.slice (some ⟨V.b,V.o,none⟩) V.len V.cap, .slice (some ⟨D.b,D.o,none⟩) D.len D.cap] w
 rw[fR]at JD
 have e1:a.eval (.func f)= .func (.func f) #[] #[]:=rfl
 simp[execOp,ha.ev hx,ha.ev hy,resolve,e1,Deferred.ofValue,invoke,JD,Result.andThen]
end
end Go.aC
namespace Go.Kb
def RB:Nat:=3988292384
def EC(n:Nat):Nat:=(n/2)^^^(if n%2=1 then RB else 0)
theorem RC{n:Nat}(h:n<2^32):EC n<2^32:=by
 refine Nat.xor_lt_two_pow (by omega) ?_
 split
 ·
  decide
 ·
  decide
def mX(n:Nat):Nat→Nat
 |0=>n
 |k+1=>EC (mX n k)
theorem ED{n:Nat}(h:n<2^32): ∀k,mX n k<2^32
 |0=>h
 |k+1=>RC (ED h k)
def EE(n:Nat)(b:UInt8):Nat:=mX (n^^^b.toNat) 8
theorem RD{n:Nat}{b:UInt8}(h:n<2^32):EE n b<2^32:=ED (Nat.xor_lt_two_pow h (by have:=b.toNat_lt;omega)) 8
def jY(n:Nat)(l:List UInt8):Nat:=l.foldl EE n
theorem Bs{n:Nat}(h:n<2^32): ∀l,jY n l<2^32
 |[]=>h
 |b::l=>Bs (RD h) l
theorem RE{n:Nat}{l:List UInt8}{i:Nat}{b:UInt8}(h:l[i]? =some b):jY n (l.take (i+1))=EE (jY n (l.take i)) b:=by
 rw[List.take_add_one,h,jY,jY,List.foldl_append];rfl
def lP(l:List UInt8):Nat:=4294967295 -jY 4294967295 l
theorem EF(l:List UInt8):lP l<2^32:=by unfold lP;omega
end Go.Kb
namespace Go.aC
open Go.RowKit
section
variable {α:Type} {enc:α→Array Value} {c:Nat} {s:Sv} {xs:List α}
theorem Mem.JE{w0 w:World}{L:List ai}{i k:Nat}(hw:Mem w0 L w)(hi:L[i]? =some (own enc c s xs))(hk:k≤xs.length):Mem w0 (L.set i (own enc c (s.sub c 0 k) (xs.take k))) w:=by
 obtain⟨r,mS⟩:=hw.get hi
 have r2:=r.sub (lo:=0) (hi:=k) (Nat.zero_le _) hk
 rw[List.drop_zero,Nat.sub_zero]at r2
 refine hw.change hi (fun k hk=>hk) (fun _ _=>rfl) rfl ⟨rfl,rfl,rfl⟩ ⟨r2,fun hn=> ?_⟩
 obtain⟨h1,cs,T,fz,h2,h3,h4,h5⟩:=mS hn
 refine⟨h1,cs,T,fz,h2,?_,h4,h5⟩
 rw[Sv.yQ];exact h3
end
section
variable {P:Program} {N:cz} {w0:World} {env:Env} {L:List ai} {Q:Exit→Act→World→Prop} {l rest:List Oper} {d:Option Tmp} {ty:TypeId} {ps:String} {af:Array Edge} {gd:Option (Nat×Bool)}
variable {α:Type} {enc:α→Array Value} {c:Nat} {xs:List α}
theorem JF{x y:Operand}{tx fS e:TypeId}{cE k:Nat}{z:Value}{kn kq:IntKind}{iy:Int}(x0:α)(hx:ev env x=some (.slice none 0 0))(hy:ev env y=some (.int kq iy))(mn:iy=(k:Int))(h0:0<k)
  [ht:fg P tx e c cE] [he:bu enc c] (hc:0<c) [hz:fe P e z] (JG:enc x0=z.cells) (Ez:P.underlying fS=some (.int kn)) (hb:k*cE≤140737488355328) (iS:k≤140737488355328)
  (hk: ∀b C:Nat,k≤C→Sq P N w0 l Q rest (cw env d (Sv.val ⟨false,b,0,k,C,none⟩)) (own enc c ⟨false,b,0,k,C,none⟩ (List.replicate k x0)::L)) (hd:dk N d=true:=by rfl):
  Sq P N w0 l Q (⟨d, .call {callee:= .builtin .append,args:= #[x,y],argTypes:= #[tx,fS]},ty,ps,af,none⟩::rest) env L:=
 mM rfl hd fun aa w ha hw=>by
  subst mn
  obtain⟨i',z',bh,aF,bt,cS,mc⟩:=ht.info
  obtain rfl:z'=z:=by
   have:=hz.zero
   rw[bh,Option.map_some,aF]at this;exact Option.some.inj (Option.some.inj this)
  subst bt cS
  have fR:=Lib.run_append_nil_zeros (P:=P) w tx fS ty e i' z' kq kn ht.eA Ez bh aF k h0 hc (by omega) (by omega)
  have qR:=grownCap_ge w k 0 e
  generalize grownCap w k 0 e=C at fR qR
  have yT:=size_zeroCells z'.cells k
  have Br:=size_zeroCells z'.cells (C -k)
  have RF: ∀m i j,i<m→j<i'.size→(Builtin.zeroCells z'.cells m)[i*i'.size+j]? =z'.cells[j]? :=fun m i j hi hj=>by
   have bp:i*i'.size+j<m*z'.cells.size:=by
    rw[mc]
    have:(i+1)*i'.size≤m*i'.size:=Nat.mul_le_mul_right _ hi
    rw[Nat.add_mul]at this;omega
   have e1:(i*i'.size+j)%z'.cells.size=j:=by rw[mc,Nat.mul_comm,Nat.mul_add_mod];exact Nat.mod_eq_of_lt hj
   have RG:j<z'.cells.size:=by omega
   simp[Builtin.zeroCells,bp,e1,RG]
  refine⟨_,_,_,?_,hw.drew.call (v5 (enc:=enc) (c:=i'.size) (xs:=List.replicate k x0) (cs:=Builtin.zeroCells z'.cells k++Builtin.zeroCells z'.cells (C -k)) (e:=e) rfl k C (by simp) qR iS ?_ fun i x hx j hj=> ?_),hk _ C qR⟩
  ·
   simp[execOp,ha.ev hx,ha.ev hy,resolve,invoke,builtin,fR,Result.andThen,Sv.val]
  ·
   rw[Array.size_append,yT,Br,mc,←Nat.add_mul];exact Nat.mul_le_mul_right _ (by omega)
  ·
   have hi:i<k:=by
    have:=(List.getElem?_eq_some_iff.1 hx).1
    simpa using this
   obtain rfl:x0=x:=by rw[List.getElem?_replicate,if_pos hi]at hx;exact Option.some.inj hx
   rw[JG,←RF k i j hi hj,Array.getElem?_append_left]
   rw[yT,mc]
   have:(i+1)*i'.size≤k*i'.size:=Nat.mul_le_mul_right _ hi
   rw[Nat.add_mul]at this;omega
theorem Bt{t e:TypeId}{x:Operand}{m:Nat}[ht:eW P t e m](hx:ev env x=some (.slice none 0 0)):
  Ry P N w0 env L ⟨d, .call {callee:= .builtin .cap,args:= #[x],argTypes:= #[t]},ty,ps,af,gd⟩ (.int .i64 (0:Nat)):=fun a w ha _=>by
 have hu:P.underlying t=some (.slice (P.elem t)):=by rw[vX ht.eA];exact ht.eA
 have:=run_cap_slice (P:=P) (w:=w) t ty none 0 0 hu
 simp[execOp,ha.ev hx,resolve,invoke,builtin,this,Result.andThen,goInt]
class tj(w0:World)(L:List ai){τ:Type}[Deep τ](xs:List τ):Prop where
 h: ∀w,Mem w0 L w→ ∀x∈xs,Deep.aY (hp w) x
instance tj.nil{τ:Type}[Deep τ]:tj w0 L ([]:List τ):=⟨fun _ _ _ h=>by cases h⟩
instance tj.cons{τ:Type}[Deep τ]{x:τ}{xs:List τ}[a:aU w0 L x][b:tj w0 L xs]:tj w0 L (x::xs):=⟨fun w hw y hy=>by
 rcases List.mem_cons.1 hy with rfl|hy
 ·
  exact a.h w hw
 ·
  exact b.h w hw y hy⟩
instance (priority:=low) aU.flat {τ:Type}[Deep τ][Plain τ]{enc:τ→Array Value}{c:Nat}[fJ τ enc c]{s:Sv}{xs:List τ}[q:c0 w0 L enc c s xs]:aU w0 L (⟨s,xs⟩:Sl τ):=⟨fun w hw=>by
 have hl:=q.h w hw
 have e1:Deep.cells (τ:=τ)=enc:=funext (fJ.h (c:=c))
 have e2:Deep.c τ=c:=fJ.hc (enc:=enc)
 refine⟨?_,fun x _=>Deep.iT _ x (by rw[Plain.h x];exact trivial)⟩
 subst e1 e2
 exact hl⟩
instance (priority:=low) aU.rows {τ:Type}[Deep τ]{enc:τ→Array Value}{c:Nat}[fJ τ enc c]{s:Sv}{xs:List τ}[q:c0 w0 L enc c s xs][g:tj w0 L xs]:aU w0 L (⟨s,xs⟩:Sl τ):=⟨fun w hw=>by
 have hl:=q.h w hw
 have e1:Deep.cells (τ:=τ)=enc:=funext (fJ.h (c:=c))
 have e2:Deep.c τ=c:=fJ.hc (enc:=enc)
 refine⟨?_,g.h w hw⟩
 subst e1 e2
 exact hl⟩
theorem RH{τ:Type}[Deep τ]{s:Sv}{xs:List τ}[g:aU w0 L (⟨s,xs⟩:Sl τ)](h: ∀a:Sl τ,a=⟨s,xs⟩→aU w0 L a→Sq P N w0 l Q rest (cw env d a.sv.val) L):Sq P N w0 l Q rest (cw env d s.val) L:=h _ rfl g
def jH(l:List (Sl UInt8)):List UInt8:=(l.map Sl.xs).flatten
theorem Bu{l:List (Sl UInt8)}{i:Nat}{x:Sl UInt8}(h:l[i]? =some x):jH (l.take (i+1))=jH (l.take i)++x.xs:=by
 rw[jH,List.take_add_one,h];simp[jH]
theorem RI(l:List (Sl UInt8))(i:Nat):(jH (l.take i)).length≤(jH l).length:=by
 have e:jH l=jH (l.take i)++jH (l.drop i):=by
  unfold jH
  rw[←List.flatten_append,←List.map_append,List.take_append_drop]
 rw[e,List.length_append];omega
end
theorem RJ(l:List UInt8): ∀n,l.foldl (fun a b=>a*256+b.toNat) n=n*256^l.length+de l:=by
 induction l with
 |nil=>intro n;simp[de]
 |cons x l ih=>
  intro n
  rw[List.foldl_cons,ih,show de (x::l)=l.foldl (fun a b=>a*256+b.toNat) (0*256+x.toNat)from rfl,ih,List.length_cons,Nat.pow_succ]
  simp only[Nat.zero_mul,Nat.zero_add,Nat.add_mul]
  rw[Nat.mul_assoc n,Nat.mul_comm 256,Nat.add_assoc]
theorem RK(x:UInt8)(l:List UInt8):de (x::l)=x.toNat*256^l.length+de l:=by
 rw[show de (x::l)=l.foldl (fun a b=>a*256+b.toNat) (0*256+x.toNat)from rfl,RJ];simp
theorem JH(l:List UInt8):de l<256^l.length:=by
 have:=D2 l l.length (Nat.le_refl _)
 rwa [List.take_length]at this
theorem RL(m n:Nat): ∀k,be (m*256^k+n) k=be n k
 |0=>rfl
 |k+1=>by
  have e:m*256^(k+1)+n=(m*256)*256^k+n:=by rw[Nat.pow_succ,Nat.mul_assoc,Nat.mul_comm 256]
  rw[be,be,e,RL (m*256) n k,Nat.add_comm,Nat.add_mul_div_right _ _ (Nat.pow_pos (by decide))]
  congr 1
  apply UInt8.toNat_inj.1
  rw[pV,pV];omega
theorem Bv(n:Nat): ∀k,de (be n k)=n%256^k
 |0=>by simp[be,de,Nat.mod_one]
 |k+1=>by
  rw[be,RK,hO,Bv n k,pV,Nat.pow_succ,Nat.mod_mul,Nat.mul_comm,Nat.add_comm]
open Go.RowKit
section
variable {w0:World} {L:List ai} {α:Type} {enc:α→Array Value} {c:Nat} {xs ys:List α} {s t:Sv} {g:Bool}
end
section
variable {P:Program} {N:cz} {w0:World} {env:Env} {L:List ai} {l:List Oper} {Q:Exit→Act→World→Prop} {rest:List Oper} {d:Option Tmp} {ty:TypeId} {ps:String} {af:Array Edge}
end
section
variable {w0:World} {L:List ai} {τ:Type} [Deep τ]
instance (priority:=low) tj.of {a:Sl τ}[q:aU w0 L a]:tj w0 L a.xs:=⟨fun w hw=>(q.h w hw).2⟩
end
section
variable {w0:World} {L:List ai} {τ:Type} [Deep τ]
end
open Go.RowKit
class eR(τ:Type)[d:Deep τ] where
 reach:τ→Nat→Prop
 congr: ∀(h h':Nat→Option Obj) (x:τ),(∀k,reach x k→h' k=h k)→d.aY h x→d.aY h' x
theorem bQ.congr{α:Type}{enc:α→Array Value}{c:Nat}{h h':Nat→Option Obj}{s:Sv}{xs:List α}(e:xs≠[]→h' s.b=h s.b)(r:bQ enc c h s xs):bQ enc c h' s xs:=
 ⟨r.ok,r.len,fun i x hi j hj=>by
  have bW:xs≠[]:=fun he=>by rw[he]at hi;simp at hi
  rw[←r.row i x hi j hj];unfold mO;rw[e bW]⟩
@[reducible] def eR.flat {τ:Type}[d:Deep τ](hg: ∀h x,d.aY h x):eR τ:=⟨fun _ _=>False,fun _ h' x _ _=>hg h' x⟩
instance eR.slice{τ:Type}[d:Deep τ][r:eR τ]:eR (Sl τ) where
 reach a k:=(a.xs≠[]∧k=a.sv.b)∨ ∃x∈a.xs,r.reach x k
 congr h h' a e g:=⟨g.1.congr fun bW=>e _ (.inl ⟨bW,rfl⟩),fun x hx=>r.congr h h' x (fun k hk=>e k (.inr ⟨x,hx,hk⟩)) (g.2 x hx)⟩
instance:eR UInt8:=eR.flat fun _ _=>trivial
def fz{τ:Type}[d:Deep τ][r:eR τ](x:τ):ai:=⟨r.reach x,fun h=>d.aY h x,fun h h' e s=>r.congr h h' x e s⟩
section
variable {w0:World} {L:List ai} {τ:Type} [d:Deep τ] [r:eR τ]
instance (priority:=high) aU.frozen {a:τ}{i:Nat}[q:At L (fz a) i]:aU w0 L a:=⟨fun _ hw=>hw.get q.h⟩
theorem Mem.freeze{w:World}{es:List ai}(x:τ)(hg:d.aY (hp w) x)(hr: ∀k,r.reach x k→ ∃e∈es,e.fp k)(h:Mem w0 (es++L) w):Mem w0 (fz x::L) w:=by
 have hd:=List.pairwise_append.1 h.nw
 refine⟨h.below,fun e he=> ?_,fun e he k hk=> ?_,List.pairwise_cons.2 ⟨fun y hy k hk jF=> ?_,hd.2.1⟩⟩
 ·
  rcases List.mem_cons.1 he with rfl|he
  ·
   exact hg
  ·
   exact h.sat e (List.mem_append.2 (.inr he))
 ·
  rcases List.mem_cons.1 he with rfl|he
  ·
   obtain⟨e',pU,jF⟩:=hr k hk
   exact h.ji e' (List.mem_append.2 (.inl pU)) k jF
  ·
   exact h.ji e (List.mem_append.2 (.inr he)) k hk
 ·
  obtain⟨e',pU,og⟩:=hr k hk
  exact hd.2.2 e' pU y hy k og jF
theorem Mem.RM{w:World}{e:ai}(x:τ)(hg:d.aY (hp w) x)(hr: ∀k,r.reach x k→e.fp k)(h:Mem w0 (e::L) w):Mem w0 (fz x::L) w:=
 Mem.freeze (es:=[e]) x hg (fun k hk=>⟨e,by simp,hr k hk⟩) h
end
open Go.RowKit Go.Kb
section
variable {w0:World} {L:List ai} {τ:Type} [Deep τ] {xs:List τ} {es:List ai}
theorem Mem.uR{w:World}(h:Mem w0 L w):Mem w0 (ai.all []::L) w:=Mem.yy.2 h
theorem Mem.RN{w:World}{e:ai}(h:Mem w0 (e::ai.all es::L) w):Mem w0 (ai.all (e::es)::L) w:=Mem.v9.2 h
theorem Mem.JI{w:World}{s:Sv}{enc:τ→Array Value}{c:Nat}[f:fJ τ enc c][Plain τ](h:Mem w0 (own enc c s xs::L) w):Mem w0 (Deep.cd (⟨s,xs⟩:Sl τ)::L) w:=Tr.D5.mem h
end
end Go.aC
namespace Go.Kb
structure RO where
 len:Int
 dN:UInt16
 deriving DecidableEq
structure Nd where
 RP:List RO
 RQ:List Int
 hs:RP.length=16
 hn:RQ.length=16
 deriving DecidableEq
def RR(k:Key)(n b:Nat):Key:=if n%2=0 then yF k (n/2) (16*b%256)else yF k (n/2) ((cF k (n/2)+b)%256)
def RS(p:dh):Nat:=((p.len -1)/4).toNat
structure Wy where
 steps:Nat
 key:Key
 deriving DecidableEq
def root:Wy:=⟨0,0#128⟩
def nH(r:Rt)(bits:Int)(w:Wy)(b:Nat):Bool:=decide (r.p.bits=bits)&&decide (RS r.p=w.steps)&&QG r.p (RR w.key w.steps b)
section
variable {k:Key} {n b:Nat}
end
section
variable {bits:Int} {W:List Wy} {R:List Rt} {w:Wy} {node b:Nat}
end
section
variable {bits:Int} {W:List Wy} {R:List Rt} {r:Rt} {f:Nat}
end
theorem wx{t:List Rt}(h:dr t=true){r:Rt}(hr:r∈t):c5 r.p=true:=by
 obtain⟨i,hi⟩:=List.mem_iff_getElem?.1 hr
 have bp:=(List.getElem?_eq_some_iff.1 hi).1
 cases hm:c5 r.p with
 |true=>rfl
 |false=>rw[A7 bp (I8 hi hm)]at h;cases h
theorem Bw{t:List Rt}(h:dr t=true):t.length≤256:=by
 rcases Nat.lt_or_ge 256 t.length with h1|h1
 ·
  rw[I6 h1]at h;cases h
 ·
  exact h1
open Go.aC
def bG(x:Int):Array Value:= #[.int .i64 x]
instance:bu bG 1:=⟨fun _=>rfl,fun _=>by simp[bG,Value.oneCell']⟩
instance (x:Int):cq (bG x) 0 (.int .i64 x):=⟨rfl⟩
instance:Deep Int:=Deep.flat bG 1
instance:fJ Int bG 1:=⟨rfl,fun _=>rfl⟩
instance:Plain Int:=⟨fun _=>rfl⟩
end Go.Kb
namespace Go.aC
open Go.Kb
section
variable {P:Program} {N:cz} {w0:World} {env:Env} {L:List ai} {d:Option Tmp} {ty:TypeId} {ps:String} {af:Array Edge} {gd:Option (Nat×Bool)}
theorem jG{x:Operand}{a:Addr}(hx:ev env x=some (.pointer (some a))):Ry P N w0 env L ⟨d, .nilCheck x,ty,ps,af,gd⟩ (.pointer (some a)):=fun _ w ha _=>by
 simp only[execOp,ha.ev hx,Sem.run_pure]
variable {s:Sv} {xs:List Nd} {a:Nd}
end
section
variable {P:Program} {N:cz} {w0:World} {env:Env} {L:List ai} {l:List Oper} {Q:Exit→Act→World→Prop} {rest:List Oper} {ty:TypeId} {ps:String} {af:Array Edge}
variable {s:Sv} {xs:List Nd} {a:Nd}
end
end Go.aC
namespace Go.Kb
open Go.aC
theorem qZ(k:IntKind)(n:Int):(Value.int k n).oneCell'=true:=rfl
theorem q9(b:Bool):(Value.bool b).oneCell'=true:=rfl
instance:eR Int:=eR.flat fun _ _=>trivial
structure Ft where
 op:Int
 fail:Bool
 cut:Bool
 mask:UInt8
 deriving DecidableEq
def di(x:Ft):Array Value:= #[.int .i64 x.op, .bool x.fail, .bool x.cut, .int .u8 x.mask.toNat]
instance:bu di 4:=⟨fun _=>rfl,fun x=>by
 simp only[di,List.all_toArray,List.all_cons,List.all_nil,Sv.one,qZ,q9,Bool.and_self]⟩
instance (x:Ft):fW (di x) 4:=⟨rfl,bu.one x⟩
instance (x:Ft):cq (di x) 0 (.int .i64 x.op):=⟨rfl⟩
instance (x:Ft):cq (di x) 1 (.bool x.fail):=⟨rfl⟩
instance (x:Ft):cq (di x) 2 (.bool x.cut):=⟨rfl⟩
instance (x:Ft):cq (di x) 3 (.int .u8 x.mask.toNat):=⟨rfl⟩
instance:Deep Ft:=Deep.flat di 4
instance:Plain Ft:=⟨fun _=>rfl⟩
instance:eR Ft:=eR.flat fun _ _=>trivial
instance:fJ Ft di 4:=⟨rfl,fun _=>rfl⟩
def wy:Ft:=⟨0,false,false,0⟩
structure Bk where
 pages:Sl (Sl UInt8)
 used:Int
 aS:Int
 bad:Bool
def bI(x:Bk):Array Value:= #[x.pages.sv.val, .int .i64 x.used, .int .i64 x.aS, .bool x.bad]
instance:bu bI 4:=⟨fun _=>rfl,fun x=>by
 simp only[bI,List.all_toArray,List.all_cons,List.all_nil,Sv.one,qZ,q9,Bool.and_self]⟩
instance (x:Bk):fW (bI x) 4:=⟨rfl,bu.one x⟩
instance (x:Bk):cq (bI x) 0 (x.pages.sv.val):=⟨rfl⟩
instance (x:Bk):cq (bI x) 1 (.int .i64 x.used):=⟨rfl⟩
instance (x:Bk):cq (bI x) 2 (.int .i64 x.aS):=⟨rfl⟩
instance (x:Bk):cq (bI x) 3 (.bool x.bad):=⟨rfl⟩
instance:Deep Bk where
 c:=4
 cells:=bI
 size:=bu.size
 one:=bu.one
 aY h x:=Deep.aY h x.pages
 cd x:=Deep.cd x.pages
 iT h x hs:=Deep.iT h x.pages hs
 mono w w' x hg hb:=Deep.mono w w' x.pages hg hb
instance:eR Bk where
 reach x k:=eR.reach x.pages k
 congr h h' x e hg:=eR.congr h h' x.pages (fun k hk=>e k (hk)) hg
instance {w0:World}{L:List ai}{x:Bk}[q:aU w0 L x]:aU w0 L x.pages:=⟨fun w hw=>(q.h w hw)⟩
instance:fJ Bk bI 4:=⟨rfl,fun _=>rfl⟩
def oA:Bk:=⟨⟨Sv.none,[]⟩,0,0,false⟩
structure Cp where
 pages:Int
 size:Int
 blocks:Sl Bk
 ops:Int
 off:Bool
 aR:Sl Ft
def aB(x:Cp):Array Value:= #[.int .i64 x.pages, .int .i64 x.size,x.blocks.sv.val, .int .i64 x.ops, .bool x.off,x.aR.sv.val]
instance:bu aB 6:=⟨fun _=>rfl,fun x=>by
 simp only[aB,List.all_toArray,List.all_cons,List.all_nil,Sv.one,qZ,q9,Bool.and_self]⟩
instance (x:Cp):fW (aB x) 6:=⟨rfl,bu.one x⟩
instance (x:Cp):cq (aB x) 0 (.int .i64 x.pages):=⟨rfl⟩
instance (x:Cp):cq (aB x) 1 (.int .i64 x.size):=⟨rfl⟩
instance (x:Cp):cq (aB x) 2 (x.blocks.sv.val):=⟨rfl⟩
instance (x:Cp):cq (aB x) 3 (.int .i64 x.ops):=⟨rfl⟩
instance (x:Cp):cq (aB x) 4 (.bool x.off):=⟨rfl⟩
instance (x:Cp):cq (aB x) 5 (x.aR.sv.val):=⟨rfl⟩
instance:Deep Cp where
 c:=6
 cells:=aB
 size:=bu.size
 one:=bu.one
 aY h x:=Deep.aY h x.blocks∧Deep.aY h x.aR
 cd x:= .two (Deep.cd x.blocks) (Deep.cd x.aR)
 iT h x hs:=⟨Deep.iT h x.blocks hs.1,Deep.iT h x.aR hs.2.1⟩
 mono w w' x hg hb:=⟨Deep.mono w w' x.blocks hg.1 hb,Deep.mono w w' x.aR hg.2 hb⟩
instance:eR Cp where
 reach x k:=eR.reach x.blocks k∨eR.reach x.aR k
 congr h h' x e hg:=⟨eR.congr h h' x.blocks (fun k hk=>e k (.inl hk)) hg.1,eR.congr h h' x.aR (fun k hk=>e k (.inr hk)) hg.2⟩
instance {w0:World}{L:List ai}{x:Cp}[q:aU w0 L x]:aU w0 L x.blocks:=⟨fun w hw=>(q.h w hw).1⟩
instance {w0:World}{L:List ai}{x:Cp}[q:aU w0 L x]:aU w0 L x.aR:=⟨fun w hw=>(q.h w hw).2⟩
instance {w0:World}{L:List ai}{pages:Int}{size:Int}{blocks:Sl Bk}{ops:Int}{off:Bool}{aR:Sl Ft}[q0:aU w0 L blocks][q1:aU w0 L aR]:aU w0 L (Cp.mk pages size blocks ops off aR):=⟨fun w hw=>⟨q0.h w hw,q1.h w hw⟩⟩
def fX:Cp:=⟨0,0,⟨Sv.none,[]⟩,0,false,⟨Sv.none,[]⟩⟩
end Go.Kb
namespace Go.aC
theorem bQ.cut{α:Type}{enc:α→Array Value}{c:Nat}{h:Nat→Option Obj}{s:Sv}{xs:List α}(r:bQ enc c h s xs){lo hi:Nat}(h1:lo≤hi)(h2:hi≤xs.length):bQ enc c h ⟨s.nil,s.b,if hi=lo then s.o else s.o+lo*c,hi -lo,hi -lo,s.sp⟩ ((xs.drop lo).take (hi -lo)):=by
  have hl:=r.len
  have hle:=r.ok.le
  have iJ:=r.ok.bd
  refine⟨⟨fun hn=> ?_,Nat.le_refl _,?_,fun hc=> ?_⟩,?_,fun i x nx j hj=> ?_⟩
  ·have:=r.ok.nil hn
   simp only at this⊢;omega
  ·simp only;omega
  ·simp only at hc⊢;exact r.ok.sp (by omega)
  ·simp;omega
  ·have eP:=(List.getElem?_eq_some_iff.1 nx).1
   rw[List.length_take,List.length_drop]at eP
   have hx:xs[lo+i]? =Option.some x:=by rw[List.getElem?_take,if_pos (by omega),List.getElem?_drop]at nx;exact nx
   have:=r.row (lo+i) x hx j hj
   simp only
   rw[if_neg (by omega),show s.o+lo*c+i*c+j=s.o+(lo+i)*c+j by rw[Nat.add_mul];omega]
   exact this
end Go.aC
namespace Go.Kb
open Go.aC
structure BV where
  pages:List (List UInt8)
  used:Int
  aS:Int
  bad:Bool
  deriving DecidableEq
structure CV where
  pages:Int
  size:Int
  blocks:List BV
  ops:Int
  off:Bool
  aR:List Ft
  deriving DecidableEq
def aJ(l:List (Sl UInt8)):List (List UInt8):=l.map fun x=>x.xs
theorem jo(l:List (Sl UInt8)):(aJ l).length=l.length:=by simp[aJ]
theorem kS{l:List (Sl UInt8)}{i:Nat}{x:Sl UInt8}(h:l[i]? =some x):(aJ l)[i]? =some x.xs:=by simp[aJ,h]
def bv(b:Bk):BV:=⟨aJ b.pages.xs,b.used,b.aS,b.bad⟩
def gu(l:List Bk):List BV:=l.map bv
theorem fu(l:List Bk):(gu l).length=l.length:=by simp[gu]
theorem iV{l:List Bk}{i:Nat}{x:Bk}(h:l[i]? =some x):(gu l)[i]? =some (bv x):=by simp[gu,h]
def cv(c:Cp):CV:=⟨c.pages,c.size,gu c.blocks.xs,c.ops,c.off,c.aR.xs⟩
def fE(rm:Sv)(lo hi:Nat):Sv:=⟨rm.nil,rm.b,if hi=lo then rm.o else rm.o+lo,hi -lo,hi -lo,rm.sp⟩
def dm(rm:Sv):Nat→List (List UInt8)→List (Sl UInt8)
  |_,[]=>[]
  |o,p::r=>⟨fE rm o (o+p.length),p⟩::dm rm (o+p.length) r
theorem tk(rm:Sv): ∀(o:Nat) (l:List (List UInt8)),aJ (dm rm o l)=l
  |_,[]=>rfl
  |o,p::r=>by
   have:=tk rm (o+p.length) r
   simp only[aJ,dm,List.map_cons]at this⊢
   rw[this]
theorem EG(rm:Sv): ∀(o:Nat) (l:List (List UInt8)),(dm rm o l).length=l.length
  |_,[]=>rfl
  |o,p::r=>by rw[dm,List.length_cons,List.length_cons,EG]
theorem Bx(rm:Sv): ∀(o:Nat) (l:List (List UInt8)) (x:Sl UInt8),x∈dm rm o l→x.sv.b=rm.b
  |_,[],_,h=>by cases h
  |o,p::r,x,h=>by
   rcases List.mem_cons.1 h with rfl|h
   ·rfl
   ·exact Bx rm _ r x h
theorem JJ(rm:Sv): ∀(o:Nat) (l:List (List UInt8)) (p:List UInt8),dm rm o (l++[p])=dm rm o l++[⟨fE rm (o+l.flatten.length) (o+l.flatten.length+p.length),p⟩]
  |o,[],p=>by simp[dm]
  |o,q::r,p=>by
   rw[List.cons_append,dm,JJ,dm]
   simp only[List.flatten_cons,List.length_append,List.cons_append,Nat.add_assoc]
theorem JK{rm:Sv}{h:Nat→Option Obj}{all:List UInt8}(hl:bQ aM 1 h rm all): ∀(o:Nat) (l:List (List UInt8)),o+l.flatten.length≤all.length→(all.drop o).take l.flatten.length=l.flatten→ ∀x∈dm rm o l,bQ aM 1 h x.sv x.xs
  |_,[],_,_,_,hx=>by cases hx
  |o,p::r,hb,he,x,hx=>by
   rw[List.flatten_cons,List.length_append]at hb
   rw[List.flatten_cons,List.length_append]at he
   have e1:(all.drop o).take p.length=p:=by
      have:=congrArg (List.take p.length) he
      rw[List.take_take,Nat.min_eq_left (by omega),List.take_left']at this
      ·exact this
      ·rfl
   have e2:(all.drop (o+p.length)).take r.flatten.length=r.flatten:=by
      have:=congrArg (List.drop p.length) he
      rw[List.drop_take,List.drop_drop,List.drop_left' rfl,show p.length+r.flatten.length -p.length=r.flatten.length by omega]at this
      exact this
   rcases List.mem_cons.1 hx with rfl|hx
   ·have:=hl.cut (lo:=o) (hi:=o+p.length) (by omega) (by omega)
    rw[Nat.mul_one,show o+p.length -o=p.length by omega,e1]at this
    simpa[fE]using this
   ·exact JK hl (o+p.length) r (by omega) e2 x hx
def wz(a:Sl (Sl UInt8)):ai:=⟨fun k=> ∃x∈a.xs,k=x.sv.b,fun h=>a.xs=[]∨ ∃rm,rm.nil=false∧a.xs=dm rm 0 (aJ a.xs)∧(own aM 1 rm (aJ a.xs).flatten).sat h,fun h h' e s=>by
  rcases s with s|⟨rm,h1,h2,h3⟩
  ·exact .inl s
  ·rcases List.eq_nil_or_concat a.xs with hx|⟨l,x,hx⟩
   ·exact .inl hx
   ·have hm:x∈a.xs:=by rw[hx];simp
    have hb:x.sv.b=rm.b:=Bx rm 0 _ x (h2▸hm)
    exact .inr ⟨rm,h1,h2,(own aM 1 rm (aJ a.xs).flatten).loc h h' (fun k hk=>e k ⟨x,hm,by rw[hb];exact hk.2⟩) h3⟩⟩
def eS(a:Sl (Sl UInt8)):ai:= .two (own (bY (τ:=UInt8)) 1 a.sv a.xs) (wz a)
theorem RT{a:Sl (Sl UInt8)}{h:Nat→Option Obj}(s:(wz a).sat h): ∀x∈a.xs,bQ aM 1 h x.sv x.xs:=fun x hx=>by
  rcases s with s|⟨rm,h1,h2,h3⟩
  ·rw[s]at hx;cases hx
  ·refine JK h3.1 0 (aJ a.xs) (by omega) (by rw[List.drop_zero,List.take_length]) x (h2▸hx)
theorem yU{α:Type}{enc:α→Array Value}{c:Nat}{s:Sv}{xs:List α}{h:Nat→Option Obj}(hl:bQ enc c h s xs)(hx:xs≠[]):(own enc c s xs).fp s.b:=
  ⟨hl.ok.some (by have:=hl.len;have:=List.length_pos_iff.2 hx;omega),rfl⟩
theorem ai.By{k:Nat}: ∀{es:List ai} {e:ai},e∈es→e.fp k→(ai.all es).fp k
  |_::_,_,he,hk=>(List.mem_cons.1 he).elim (fun h=> .inl (h▸hk)) fun h=> .inr (ai.By h hk)
theorem JL{α:Type}{e:α}: ∀{L:List α} {i:Nat},L[i]? =Option.some e→L.Perm (e::L.eraseIdx i)
  |[],i,h=>by simp at h
  |x::L,0,h=>by obtain rfl:x=e:=by simpa using h
                simp
  |x::L,i+1,h=>by
   have:=JL (L:=L) (i:=i) (by simpa using h)
   rw[List.eraseIdx_cons_succ]
   exact(this.cons x).trans (.swap _ _ _)
theorem Mem.pick{τ:Type}{f:τ→ai}{w0 w:World}{L:List ai}{xs:List τ}{i:Nat}{x:τ}(hx:xs[i]? =some x):Mem w0 (ai.all (xs.map f)::L) w↔Mem w0 (f x::ai.all ((xs.eraseIdx i).map f)::L) w:=by
  have hp:(xs.map f).Perm (f x::(xs.eraseIdx i).map f):=by
    have:=JL hx
    simpa using this.map f
  rw[Mem.yz]
  have e:Mem w0 (f x::ai.all ((xs.eraseIdx i).map f)::L) w↔Mem w0 (f x::((xs.eraseIdx i).map f++L)) w:=by
    have sw: ∀(a b:ai) (K:List ai),Mem w0 (a::b::K) w↔Mem w0 (b::a::K) w:=fun a b K=>⟨fun h=>h.perm (List.Perm.swap _ _ _),fun h=>h.perm (List.Perm.swap _ _ _)⟩
    rw[sw,Mem.yz]
    exact⟨fun h=>h.perm List.perm_middle,fun h=>h.perm List.perm_middle.symm⟩
  rw[e]
  exact⟨fun h=>h.perm (hp.append_right L),fun h=>h.perm (hp.append_right L).symm⟩
theorem RU{w0 w:World}{L:List ai}{a:Sl Bk}(h:Mem w0 (own bI 4 a.sv a.xs::ai.all (a.xs.map fun b:Bk=>eS b.pages)::L) w):Mem w0 (fz a::L) w:=by
  have hs:=h.sat (own bI 4 a.sv a.xs) (by simp)
  have ha:=h.sat (ai.all (a.xs.map fun b:Bk=>eS b.pages)) (by simp)
  have hb: ∀x∈a.xs,(eS x.pages).sat fun k=>w.heap[k]? :=fun x hx=>ai.yA ha _ (List.mem_map_of_mem hx)
  refine Mem.freeze (es:=[own bI 4 a.sv a.xs,ai.all (a.xs.map fun b:Bk=>eS b.pages)]) a ⟨hs.1,fun x hx=>⟨(hb x hx).1.1,fun y hy=>⟨RT (hb x hx).2.1 y hy,fun _ _=>trivial⟩⟩⟩ (fun k hk=> ?_) h
  rcases hk with⟨bW,rfl⟩|⟨x,hx,hk⟩
  ·exact⟨_,by simp,yU hs.1 bW⟩
  ·refine⟨ai.all (a.xs.map fun b:Bk=>eS b.pages),by simp,ai.By (List.mem_map_of_mem hx) ?_⟩
   rcases hk with⟨bW,rfl⟩|⟨y,hy,⟨_,rfl⟩|⟨_,_,hf⟩⟩
   ·exact .inl (yU (hb x hx).1.1 bW)
   ·exact .inr ⟨y,hy,rfl⟩
   ·exact hf.elim
theorem Bz{τ:Type}[Deep τ][r:eR τ][Plain τ]{enc:τ→Array Value}{c:Nat}[f:fJ τ enc c](hr: ∀(x:τ) k,¬r.reach x k)(hg: ∀h (x:τ),Deep.aY h x){w0 w:World}{L:List ai}{a:Sl τ}(h:Mem w0 (own enc c a.sv a.xs::L) w):Mem w0 (fz a::L) w:=by
  have hs:=h.sat (own enc c a.sv a.xs) (by simp)
  have e1:Deep.cells (τ:=τ)=enc:=funext (fJ.h (c:=c))
  have e2:Deep.c τ=c:=fJ.hc (enc:=enc)
  refine Mem.RM a ⟨by rw[e1,e2];exact hs.1,fun x _=>hg _ x⟩ (fun k hk=> ?_) h
  rcases hk with⟨bW,rfl⟩|⟨x,_,hk⟩
  ·exact yU hs.1 bW
  ·exact(hr x k hk).elim
theorem BA{w0 w:World}{L:List ai}{d:Cp}(h:Mem w0 (fz d.blocks::fz d.aR::L) w):Mem w0 (fz d::L) w:=by
  refine Mem.freeze (es:=[fz d.blocks,fz d.aR]) d ⟨h.sat (fz d.blocks) (by simp),h.sat (fz d.aR) (by simp)⟩ (fun k hk=> ?_) h
  rcases hk with hk|hk
  ·exact⟨fz d.blocks,by simp,hk⟩
  ·exact⟨fz d.aR,by simp,hk⟩
theorem JM{w0 w:World}{L:List ai}{a:Sl Ft}(h:Mem w0 (own di 4 a.sv a.xs::L) w):Mem w0 (fz a::L) w:=Bz (fun _ _ h=>h) (fun _ _=>trivial) h
theorem uS{w0 w:World}{L:List ai}{a:Sl Int}(h:Mem w0 (own bG 1 a.sv a.xs::L) w):Mem w0 (fz a::L) w:=Bz (fun _ _ h=>h) (fun _ _=>trivial) h
theorem EH{w0 w:World}{L:List ai}{a:Sl UInt8}(h:Mem w0 (own aM 1 a.sv a.xs::L) w):Mem w0 (fz a::L) w:=Bz (fun _ _ h=>h) (fun _ _=>trivial) h
open Go.aC
def cI:Int:=1099511627776
def pf(b p s:Int):Bool:=decide (1≤b)&&decide (b≤32)&&decide (1≤p)&&decide (p≤16)&&decide (1≤s)&&decide (s≤256)
theorem jI{b p s:Int}:pf b p s=true↔1≤b∧b≤32∧1≤p∧p≤16∧1≤s∧s≤256:=by
 simp only[pf,Bool.and_eq_true,decide_eq_true_eq,and_assoc]
def JN(s:Int)(x:List UInt8):Bool:=decide ((x.length:Int)=s)
def mo(p s:Int)(b:BV):Bool:=decide ((b.pages.length:Int)=p)&&decide (0≤b.used)&&decide (b.used≤p)&&decide (0≤b.aS)&&decide (b.aS≤cI)&&b.pages.all (JN s)
theorem dX{p s:Int}{b:BV}:mo p s b=true↔(b.pages.length:Int)=p∧0≤b.used∧b.used≤p∧0≤b.aS∧b.aS≤cI∧ ∀x∈b.pages,(x.length:Int)=s:=by
 simp only[mo,JN,Bool.and_eq_true,decide_eq_true_eq,and_assoc,List.all_eq_true]
def aT(c:CV):Bool:=pf c.blocks.length c.pages c.size&&decide (0≤c.ops)&&decide (c.ops≤cI)&&decide (c.aR.length≤64)&&c.blocks.all (mo c.pages c.size)
theorem eU{c:CV}:aT c=true↔pf c.blocks.length c.pages c.size=true∧0≤c.ops∧c.ops≤cI∧c.aR.length≤64∧ ∀b∈c.blocks,mo c.pages c.size b=true:=by
 simp only[aT,Bool.and_eq_true,decide_eq_true_eq,and_assoc,List.all_eq_true]
def fY(c:CV)(block:Int):Bool:=aT c&&decide (0≤block)&&decide (block<c.blocks.length)
theorem gv{c:CV}{block:Int}:fY c block=true↔aT c=true∧0≤block∧block<c.blocks.length:=by
 simp only[fY,Bool.and_eq_true,decide_eq_true_eq,and_assoc]
def RW:BV:=⟨[],0,0,false⟩
def aj(c:CV)(block:Int):BV:=c.blocks.getD block.toNat RW
def gw(n:Int):List UInt8:=List.replicate n.toNat 255
def nI(b p s:Int):CV×Int:=if pf b p s=true then(⟨p,s,List.replicate b.toNat ⟨List.replicate p.toNat (gw s),0,0,false⟩,0,false,[]⟩,0)else(⟨0,0,[],0,false,[]⟩,1)
def bn(c:CV):Ft×Bool:=match c.aR.find? fun f=>decide (f.op=c.ops)with
 |some f=>(f,f.cut||f.fail)
 |none=>(wy,false)
def kt(f:Ft):Int:=if f.cut=true then 7 else 9
def mq(c:CV)(block mY:Int)(p:List UInt8):Bool:=fY c block&&decide (0≤mY)&&decide (mY<c.pages)&&decide ((p.length:Int)=c.size)&&decide (c.ops<cI)
theorem iW{c:CV}{block mY:Int}{p:List UInt8}:mq c block mY p=true↔fY c block=true∧0≤mY∧mY<c.pages∧(p.length:Int)=c.size∧c.ops<cI:=by
 simp only[mq,Bool.and_eq_true,decide_eq_true_eq,and_assoc]
def cQ(m:UInt8)(p:List UInt8):List UInt8:=p.map fun x=>x|||m
def mZ(c:CV)(p:List UInt8):List UInt8:=if(bn c).2=true then cQ (~~~(bn c).1.mask) p else p
def gR(c:CV)(block mY:Int)(p:List UInt8):CV:=
 {c with ops:=c.ops+1,off:=(bn c).2&&(bn c).1.cut,blocks:=c.blocks.set block.toNat {aj c block with used:=(aj c block).used+1,pages:=(aj c block).pages.set mY.toNat (mZ c p)}}
def jq(c:CV)(block mY:Int)(p:List UInt8):Int:=
 if mq c block mY p=true then(if c.off=true then 7 else if(aj c block).bad=true∨mY≠(aj c block).used then 9 else if(bn c).2=true then kt (bn c).1 else 0)else 1
def fK(c:CV)(block mY:Int)(p:List UInt8):CV:=
 if mq c block mY p=true∧c.off=false∧(aj c block).bad=false∧mY=(aj c block).used then gR c block mY p else c
def m0(c:CV)(block:Int):Bool:=fY c block&&decide (c.ops<cI)&&decide ((aj c block).aS<cI)
theorem nJ{c:CV}{block:Int}:m0 c block=true↔fY c block=true∧c.ops<cI∧(aj c block).aS<cI:=by
 simp only[m0,Bool.and_eq_true,decide_eq_true_eq,and_assoc]
def qc(c:CV)(ps:List (List UInt8)):List (List UInt8):=if(bn c).2=true then ps.map (cQ (bn c).1.mask)else ps.map fun _=>gw c.size
def jZ(c:CV)(block:Int):CV:=
 {c with ops:=c.ops+1,off:=(bn c).2&&(bn c).1.cut,blocks:=c.blocks.set block.toNat {aj c block with used:=if(bn c).2=true then c.pages else 0,aS:=(aj c block).aS+1,pages:=qc c (aj c block).pages}}
def dF(c:CV)(block:Int):Int:=
 if m0 c block=true then(if c.off=true then 7 else if(aj c block).bad=true then 9 else if(bn c).2=true then kt (bn c).1 else 0)else 1
def fA(c:CV)(block:Int):CV:=if m0 c block=true∧c.off=false∧(aj c block).bad=false then jZ c block else c
def m7(c:CV)(block:Int):Int:=if fY c block=true then(if c.off=true then 7 else 0)else 1
def ku(c:CV)(block:Int):CV:=if m7 c block=0 then{c with blocks:=c.blocks.set block.toNat {aj c block with bad:=true}}else c
def se(c:CV)(fs:List Ft):Int:=if aT c=true∧fs.length≤64 then 0 else 1
def wA(c:CV)(fs:List Ft):CV:=if se c fs=0 then{c with off:=false,aR:=fs}else c
theorem BB{c:CV}{block:Int}(h:fY c block=true):c.blocks[block.toNat]? =some (aj c block):=by
 obtain⟨_,h2,h3⟩:=gv.1 h
 exact oh (by omega)
theorem oB{c:CV}{block:Int}(h:fY c block=true):mo c.pages c.size (aj c block)=true:=
 (eU.1 (gv.1 h).1).2.2.2.2 _ (List.mem_of_getElem? (BB h))
end Go.Kb
namespace Go.aC
open Go.RowKit
section
variable {α:Type} {enc:α→Array Value} {c:Nat}
theorem RX{P:Program}{t tx ty e:TypeId}{cE:Nat}(ht:fg P t e c cE)[he:bu enc c]{w0 w:World}{L:List ai}{i:Nat}{s:Sv}{xs ys:List α}{x:Value}
  (hw:Mem w0 L w) (hi:L[i]? =some (own enc c s xs)) (hs:Src P c tx x ys.length (aK enc ys) w) (hn:s.nil=false) (nz:s.len+ys.length≤s.cap) (iJ:s.len+ys.length≤140737488355328):
  ∃w',(Builtin.append_ #[t,tx] ty #[s.val,x]).run P w= .ok (Sv.val {s with len:=s.len+ys.length}) w'∧Mem w0 (L.set i (own enc c {s with len:=s.len+ys.length} (xs++ys))) w':=by
 obtain⟨r,mS⟩:=hw.get hi
 obtain⟨i',z,bh,aF,bt,cS,mc⟩:=ht.info
 subst bt cS
 have hlen:=r.len
 have hle:=r.ok.le
 obtain⟨gq,cs,T,fz,eO,fc,lL,mf⟩:=mS hn
 have hmul:(s.len+ys.length)*i'.size≤s.cap*i'.size:=Nat.mul_le_mul_right _ nz
 have ei:(aK enc ys).length=ys.length*i'.size:=gQ ys
 have iI:s.o+s.len*i'.size+(aK enc ys).toArray.size≤cs.size:=by
  rw[List.size_toArray,ei];rw[Nat.add_mul]at hmul;omega
 have bA:=yt (P:=P) s.b (s.o+s.len*i'.size) T fz (aK enc ys) 0 cs w eO lL (by simpa using iI) hs.one
 have yu:(storeCells ⟨s.b,s.o+s.len*i'.size,none⟩ (aK enc ys)).run P w= .ok () (w.setRow s.b (cP cs (s.o+s.len*i'.size) (aK enc ys).toArray)):=by
  simpa[cP]using bA
 refine⟨w.setRow s.b (cP cs (s.o+s.len*i'.size) (aK enc ys).toArray),?_,?_⟩
 ·
  have kM:({s with len:=s.len+ys.length}:Sv).val= .slice (some ⟨s.b,s.o,s.sp⟩) (s.len+ys.length) s.cap:=Sv.hK (s:={s with len:=s.len+ys.length}) hn
  rw[Sv.hK hn,kM,gq]
  rcases hs.kind with⟨e',hk⟩|hk<;>simp[Builtin.append_,run_underlying ht.eA,run_underlying hk,sizeOf,typeInfo,bh,hs.len,nz,hs.cells,Addr.gp,yu]
 ·
  have mT:hp (w.setRow s.b (cP cs (s.o+s.len*i'.size) (aK enc ys).toArray)) s.b=some (.cells (cP cs (s.o+s.len*i'.size) (aK enc ys).toArray) T fz):=setRow_heap w s.b cs _ T fz eO
  refine hw.change hi (fun k hk=>hk) (fun k hk=> ?_) (by simp[World.setRow]) ⟨rfl,rfl,rfl⟩ ⟨s8 ⟨(fun h=>by rw[hn]at h;cases h),nz,by simp only;omega,r.ok.sp⟩ (by simp[hlen]) mT fun k y hy j hj=> ?_,fun _=>⟨gq,_,_,_,mT,?_,by rw[mQ iI];exact lL,mf⟩⟩
  ·
   exact setRow_other w s.b k _ (fun e=>hk ⟨hn,e⟩)
  ·
   rw[uA iI]
   by_cases hk:k<xs.length
   ·
    rw[if_neg,←r.row k y (by rw[List.getElem?_append_left hk]at hy;exact hy) j hj]
    ·
     unfold mO;rw[eO]
    ·
     have:(k+1)*i'.size≤s.len*i'.size:=Nat.mul_le_mul_right _ (by omega)
     rw[Nat.add_mul]at this
     intro h;have:=h.1;simp only at this;omega
   ·
    rw[List.getElem?_append_right (by omega)]at hy
    have uC:=mR (enc:=enc) ys (k -xs.length) y hy j hj
    have og:s.len*i'.size+(k -xs.length)*i'.size=k*i'.size:=by rw[←Nat.add_mul];congr 1;omega
    have bp:(k -xs.length+1)*i'.size≤ys.length*i'.size:=Nat.mul_le_mul_right _ (by have:=(List.getElem?_eq_some_iff.1 hy).1;omega)
    rw[Nat.add_mul]at bp
    rw[if_pos ⟨by simp only;omega,by rw[List.size_toArray,ei];simp only;omega⟩,←uC]
    simp only[List.getElem?_toArray]
    congr 1;omega
  ·
   rw[mQ iI];exact fc
theorem RY{P:Program}{w0 w:World}{L:List ai}{i:Nat}{s:Sv}{xs ys:List α}[he:bu enc c]{k:Nat}(hw:Mem w0 L w)(hi:L[i]? =some (own enc c s xs))(hn:s.nil=false)(hk:k+ys.length≤xs.length):
  ∃w',(storeCells ⟨s.b,s.o+k*c,none⟩ (aK enc ys)).run P w= .ok () w'∧Mem w0 (L.set i (own enc c s (xs.take k++(ys++xs.drop (k+ys.length))))) w':=by
 obtain⟨r,mS⟩:=hw.get hi
 have hlen:=r.len
 have hle:=r.ok.le
 obtain⟨gq,cs,T,fz,eO,fc,lL,mf⟩:=mS hn
 have hmul:(k+ys.length)*c≤s.cap*c:=Nat.mul_le_mul_right _ (by omega)
 have ei:(aK enc ys).length=ys.length*c:=gQ ys
 have iI:s.o+k*c+(aK enc ys).toArray.size≤cs.size:=by
  rw[List.size_toArray,ei];rw[Nat.add_mul]at hmul;omega
 have qW: ∀v∈aK enc ys,v.oneCell'=true:=s0 ys
 have bA:=yt (P:=P) s.b (s.o+k*c) T fz (aK enc ys) 0 cs w eO lL (by simpa using iI) qW
 have yu:(storeCells ⟨s.b,s.o+k*c,none⟩ (aK enc ys)).run P w= .ok () (w.setRow s.b (cP cs (s.o+k*c) (aK enc ys).toArray)):=by
  simpa[cP]using bA
 refine⟨_,yu,?_⟩
 have mT:hp (w.setRow s.b (cP cs (s.o+k*c) (aK enc ys).toArray)) s.b=some (.cells (cP cs (s.o+k*c) (aK enc ys).toArray) T fz):=setRow_heap w s.b cs _ T fz eO
 have lQ:(xs.take k++(ys++xs.drop (k+ys.length))).length=xs.length:=by simp only[List.length_append,List.length_take,List.length_drop];omega
 refine hw.change hi (fun k hk=>hk) (fun k hk=> ?_) (by simp[World.setRow]) ⟨rfl,rfl,rfl⟩ ⟨s8 r.ok (by rw[lQ];exact hlen) mT fun m y hy j hj=> ?_,fun _=>⟨gq,_,_,_,mT,?_,by rw[mQ iI];exact lL,mf⟩⟩
 ·
  exact setRow_other w s.b k _ (fun e=>hk ⟨hn,e⟩)
 ·
  rw[uA iI]
  rcases Nat.lt_or_ge m k with h1|h1
  ·
   have yV:xs[m]? =some y:=by
    rw[List.getElem?_append_left (by rw[List.length_take];omega),List.getElem?_take,if_pos h1]at hy;exact hy
   rw[if_neg,←r.row m y yV j hj]
   ·
    unfold mO;rw[eO]
   ·
    have:(m+1)*c≤k*c:=Nat.mul_le_mul_right _ (by omega)
    rw[Nat.add_mul]at this
    intro h;have:=h.1;omega
  ·
   rcases Nat.lt_or_ge m (k+ys.length)with h2|h2
   ·
    have yV:ys[m -k]? =some y:=by
     rw[List.getElem?_append_right (by rw[List.length_take];omega),List.length_take,Nat.min_eq_left (by omega),List.getElem?_append_left (by omega)]at hy;exact hy
    have uC:=mR (enc:=enc) ys (m -k) y yV j hj
    have og:k*c+(m -k)*c=m*c:=by rw[←Nat.add_mul];congr 1;omega
    have bp:(m -k+1)*c≤ys.length*c:=Nat.mul_le_mul_right _ (by omega)
    rw[Nat.add_mul]at bp
    rw[if_pos ⟨by omega,by rw[List.size_toArray,ei];omega⟩,←uC]
    simp only[List.getElem?_toArray]
    congr 1;omega
   ·
    have yV:xs[m]? =some y:=by
     rw[List.getElem?_append_right (by rw[List.length_take];omega),List.length_take,Nat.min_eq_left (by omega),List.getElem?_append_right (by omega),List.getElem?_drop]at hy
     rw[←hy];congr 1;omega
    rw[if_neg,←r.row m y yV j hj]
    ·
     unfold mO;rw[eO]
    ·
     have:(k+ys.length)*c≤m*c:=Nat.mul_le_mul_right _ h2
     rw[Nat.add_mul]at this
     intro h;have:=h.2;rw[List.size_toArray,ei]at this;omega
 ·
  rw[mQ iI];exact fc
end
section
variable {P:Program} {N:cz} {w0:World} {env:Env} {L:List ai} {l:List Oper} {Q:Exit→Act→World→Prop} {rest:List Oper} {d:Option Tmp} {ty:TypeId} {ps:String} {af:Array Edge} {gd:Option (Nat×Bool)} {K:Value→List ai→Prop}
variable {α:Type} {enc:α→Array Value} {c:Nat} {s:Sv} {xs ys:List α}
theorem RZ{t tx e:TypeId}{x y:Operand}{yv:Value}{cE i:Nat}[ht:fg P t e c cE][he:bu enc c](hx:ev env x=some s.val)(hy:ev env y=some yv)[q:fD L s enc c xs i]
  (hs: ∀w,Mem w0 L w→Src P c tx yv ys.length (aK enc ys) w) (hn:s.nil=false) (nz:s.len+ys.length≤s.cap) (iJ:s.len+ys.length≤140737488355328) {L':List ai} [hu:fx L i (own enc c {s with len:=s.len+ys.length} (xs++ys)) L']
  (hk:K (Sv.val {s with len:=s.len+ys.length}) L'):
  hU P N w0 env L ⟨d, .call {callee:= .builtin .append,args:= #[x,y],argTypes:= #[t,tx]},ty,ps,af,gd⟩ K:=
 th fun a w ha hw=>by
  obtain⟨w',h1,h4⟩:=RX (ty:=ty) ht hw q.h (hs w hw) hn nz iJ
  refine⟨_,w',L',?_,by rw[←hu.h];exact h4,hk⟩
  simp[execOp,ha.ev hx,ha.ev hy,resolve,invoke,builtin,h1,Result.andThen]
theorem R0{t tx e:TypeId}{x y:Operand}{yv:Value}{cE i:Nat}[ht:fg P t e c cE][he:bu enc c](hx:ev env x=some s.val)(hy:ev env y=some yv)[q:fD L s enc c xs i]
  (hs: ∀w,Mem w0 L w→Src P c tx yv ys.length (aK enc ys) w) (hn:s.nil=false) (nz:s.len+ys.length≤s.cap) (iJ:s.len+ys.length≤140737488355328) {L':List ai} [hu:fx L i (own enc c {s with len:=s.len+ys.length} (xs++ys)) L']
  (hk:Sq P N w0 l Q rest (cw env d (Sv.val {s with len:=s.len+ys.length})) L') (hd:dk N d=true:=by rfl):
  Sq P N w0 l Q (⟨d, .call {callee:= .builtin .append,args:= #[x,y],argTypes:= #[t,tx]},ty,ps,af,none⟩::rest) env L:=
 Js rfl hd (RZ hx hy hs hn nz iJ hk)
theorem JO{D S rm:Sv}{x y:Operand}{tx fS e:TypeId}{i k:Nat}{ys:List α}[he:bu enc c](hx:ev env x=some D.val)(lO:D.nil=false)(mW:D.sp=none)(oz:D.b=rm.b)(qb:D.o=rm.o+k*c)(hy:ev env y=some S.val)[ht:eW P tx e c][q:fD L rm enc c xs i][hS:Hd w0 L S enc c ys](hc:0<c)(hn:rm.nil=false)(h0:0<ys.length)(hl:ys.length≤D.len)(jF:k+ys.length≤xs.length)
  {L':List ai} [hu:fx L i (own enc c rm (xs.take k++(ys++xs.drop (k+ys.length)))) L'] (hk:K (.int .i64 ys.length) L'):
  hU P N w0 env L ⟨d, .call {callee:= .builtin .copy,args:= #[x,y],argTypes:= #[tx,fS]},ty,ps,af,gd⟩ K:=
 th fun a w ha hw=>by
  have hs:=hS.h w hw
  have yR:=hs.some h0
  have nF:=hs.len
  have yS:=hs.ok.sp (by have:=hs.ok.le;omega)
  rw[Sv.hK lO,mW,oz,qb]at hx
  rw[Sv.hK yR,yS]at hy
  obtain⟨w',h1,h2⟩:=RY (P:=P) hw q.h hn jF
  rw[hu.h]at h2
  refine⟨_,w',L',?_,h2,hk⟩
  have wB:=run_loadCells_list (P:=P) w ⟨S.b,S.o,none⟩ (aK enc ys) (fun j v hj=>by
   obtain⟨z,hz,hv⟩:=AU hc hj
   rw[Addr.gp,qP,←hv,←hs.row _ z hz (j%c) (Nat.mod_lt _ hc)]
   congr 1
   have:=Nat.div_add_mod j c
   rw[Nat.mul_comm]at this;omega)
  rw[gQ]at wB
  cases hq:P.info? e with
  |none=>have:=ht.size;simp[hq]at this
  |some i'=>
   have hi:i'.size=c:=by have:=ht.size;simpa[hq]using this
   have yf:Nat.min S.len D.len=ys.length:=by rw[nF];exact Nat.min_eq_left hl
   have fR:(Builtin.copy_ #[tx,fS] ty #[.slice (some ⟨rm.b,rm.o+k*c,none⟩) D.len D.cap, .slice (some ⟨S.b,S.o,none⟩) S.len S.cap]).run P w= .ok (goInt ys.length) w':=by
    simp[Builtin.copy_,run_underlying ht.eA,Builtin.lenOf,Builtin.firstCells,sizeOf,typeInfo,hq,hi,yf,wB,h1]
   simp[execOp,ha.ev hx,ha.ev hy,resolve,invoke,builtin,fR,Result.andThen,goInt]
theorem R5{D S rm:Sv}{x y:Operand}{tx fS e:TypeId}{i k:Nat}{ys:List α}[he:bu enc c](hx:ev env x=some D.val)(lO:D.nil=false)(mW:D.sp=none)(oz:D.b=rm.b)(qb:D.o=rm.o+k*c)(hy:ev env y=some S.val)[ht:eW P tx e c][q:fD L rm enc c xs i][hS:Hd w0 L S enc c ys](hc:0<c)(hn:rm.nil=false)(h0:0<ys.length)(hl:ys.length≤D.len)(jF:k+ys.length≤xs.length)
  {L':List ai} [hu:fx L i (own enc c rm (xs.take k++(ys++xs.drop (k+ys.length)))) L'] (hk:Sq P N w0 l Q rest (cw env d (.int .i64 ys.length)) L') (hd:dk N d=true:=by rfl):
  Sq P N w0 l Q (⟨d, .call {callee:= .builtin .copy,args:= #[x,y],argTypes:= #[tx,fS]},ty,ps,af,none⟩::rest) env L:=
 Js rfl hd (JO hx lO mW oz qb hy hc hn h0 hl jF hk)
end
theorem Mem.wC{w0 w:World}{L:List ai}{e:ai}{es:List ai}(h:Mem w0 (e::ai.all es::L) w):Mem w0 (ai.all (es++[e])::L) w:=by
 have h1:Mem w0 (ai.all (e::es)::L) w:=Mem.RN h
 rw[Mem.yz]at h1⊢
 exact h1.perm ((List.perm_append_singleton e es).symm.append_right L)
theorem Mem.BC{w0 w:World}{L:List ai}{e e':ai}(hf: ∀k,e'.fp k→e.fp k)(hs:(e.sat fun k=>w.heap[k]?)→e'.sat fun k=>w.heap[k]?)(h:Mem w0 (e::L) w):Mem w0 (e'::L) w:=by
 have hd:=List.pairwise_cons.1 h.nw
 refine⟨h.below,fun x he=> ?_,fun x he k hk=> ?_,List.pairwise_cons.2 ⟨fun y hy k hk=>hd.1 y hy k (hf k hk),hd.2⟩⟩
 ·
  rcases List.mem_cons.1 he with rfl|he
  ·
   exact hs (h.sat e (by simp))
  ·
   exact h.sat x (by simp[he])
 ·
  rcases List.mem_cons.1 he with rfl|he
  ·
   exact h.ji e (by simp) k (hf k hk)
  ·
   exact h.ji x (by simp[he]) k hk
end Go.aC
namespace Go.Kb
open Go.aC
theorem JP{w0 w:World}{L:List ai}{s rm:Sv}{l:List (List UInt8)}{xs:List (Sl UInt8)}(hx:xs=dm rm 0 l)(hn:rm.nil=false)(h:Mem w0 (own (bY (τ:=UInt8)) 1 s xs::own aM 1 rm l.flatten::L) w):Mem w0 (eS ⟨s,xs⟩::L) w:=by
 have ht:aJ xs=l:=by rw[hx,tk]
 have h1:=h.perm (List.Perm.swap _ _ _)
 have h2:Mem w0 (wz ⟨s,xs⟩::own (bY (τ:=UInt8)) 1 s xs::L) w:=Mem.BC (fun k hk=>by
  obtain⟨x,yM,rfl⟩:=hk
  exact⟨hn,Bx rm 0 l x (hx▸yM)⟩) (fun hs=> .inr ⟨rm,hn,by simp only[ht];exact hx,by simp only[ht];exact hs⟩) h1
 exact Mem.v9.2 (h2.perm (List.Perm.swap _ _ _))
theorem R6{w0 w:World}{L:List ai}{s:Sv}(h:Mem w0 (own (bY (τ:=UInt8)) 1 s []::L) w):Mem w0 (eS ⟨s,[]⟩::L) w:=by
 refine Mem.v9.2 (Mem.perm (Mem.BC (e:= .emp) (e':=wz ⟨s,[]⟩) (fun k hk=> ?_) (fun _=> .inl rfl) (Mem.yy.2 h)) (List.Perm.swap _ _ _))
 obtain⟨x,hx,_⟩:=hk
 cases hx
theorem R7{w0 w:World}{L:List ai}{a:Sl (Sl UInt8)}(bW:a.xs≠[])(h:Mem w0 (eS a::L) w): ∃rm:Sv,(rm.nil=false∧rm.sp=none∧a.xs=dm rm 0 (aJ a.xs))∧Mem w0 (own (bY (τ:=UInt8)) 1 a.sv a.xs::own aM 1 rm (aJ a.xs).flatten::L) w:=by
 have h1:=Mem.v9.1 h
 have hr:=h1.sat (wz a) (by simp)
 rcases hr with hr|⟨rm,g1,g2,g3⟩
 ·
  exact absurd hr bW
 ·
  refine⟨rm,⟨g1,(g3.2 g1).1,g2⟩,?_⟩
  have h2:=h1.perm (List.Perm.swap _ _ _)
  obtain⟨x,l,BD⟩:=List.exists_cons_of_ne_nil bW
  have hm:x∈a.xs:=by rw[BD];simp
  have hb:x.sv.b=rm.b:=Bx rm 0 _ x (g2▸hm)
  exact(Mem.BC (e:=wz a) (e':=own aM 1 rm (aJ a.xs).flatten) (fun k hk=>⟨x,hm,by rw[hb];exact hk.2⟩) (fun _=>g3) h2).perm (List.Perm.swap _ _ _)
theorem BE: ∀{l:List (List UInt8)} {i:Nat} {q r:List UInt8},l[i]? =some q→r.length=q.length→(l.set i r).flatten=l.flatten.take (l.take i).flatten.length++(r++l.flatten.drop ((l.take i).flatten.length+r.length))
 |y::l,0,q,r,h,hr=>by
  obtain rfl:y=q:=by simpa using h
  simp[hr]
 |y::l,i+1,q,r,h,hr=>by
  have:=BE (l:=l) (i:=i) (q:=q) (r:=r) (by simpa using h) hr
  simp only[List.set_cons_succ,List.flatten_cons,this,List.take_succ_cons,List.length_append]
  rw[List.take_length_add_append,Nat.add_assoc,List.drop_length_add_append,List.append_assoc]
theorem BF{rm:Sv}: ∀{o:Nat} {l:List (List UInt8)} {i:Nat} {q:List UInt8},l[i]? =some q→(dm rm o l)[i]? =some ⟨fE rm (o+(l.take i).flatten.length) (o+(l.take i).flatten.length+q.length),q⟩
 |o,y::l,0,q,h=>by
  obtain rfl:y=q:=by simpa using h
  simp[dm]
 |o,y::l,i+1,q,h=>by
  have:=BF (rm:=rm) (o:=o+y.length) (l:=l) (i:=i) (q:=q) (by simpa using h)
  simp only[dm,List.getElem?_cons_succ,this,List.take_succ_cons,List.flatten_cons,List.length_append,Nat.add_assoc]
def EI(l:List (List UInt8)):Prop:=l.length≤1000000∧l.flatten.length≤1000000
theorem yW{l:List (List UInt8)}{i:Nat}{q:List UInt8}(h:l[i]? =some q):(l.take (i+1)).flatten.length=(l.take i).flatten.length+q.length:=by
 rw[List.take_add_one,h];simp
theorem yX(l:List (List UInt8))(i:Nat):(l.take i).flatten.length≤l.flatten.length:=by
 have:l.flatten=(l.take i).flatten++(l.drop i).flatten:=by rw[←List.flatten_append,List.take_append_drop]
 rw[this,List.length_append];omega
theorem R8{rm:Sv}{l:List (List UInt8)}{n i:Nat}{r q:List UInt8}(hn:n=l.length)(hr:r=(l.take i).flatten)(h:l[i]? =some q):(dm rm 0 (l.take i)++List.replicate (n -i) (⟨Sv.none,[]⟩:Sl UInt8)).set i ⟨fE rm r.length (r.length+q.length),q⟩=dm rm 0 (l.take (i+1))++List.replicate (n -(i+1)) (⟨Sv.none,[]⟩:Sl UInt8):=by
 have hi:=(List.getElem?_eq_some_iff.1 h).1
 have hl:(dm rm 0 (l.take i)).length=i:=by rw[EG,List.length_take];omega
 rw[List.set_append_right _ _ (by omega),hl,Nat.sub_self,List.take_add_one,h,show n -i=n -(i+1)+1 by omega,List.replicate_succ,List.set_cons_zero]
 simp only[Option.toList_some]
 rw[JJ,hr,Nat.zero_add,List.append_assoc,List.singleton_append]
theorem m8{w0 w:World}{L:List ai}(d:Cp)(h:Mem w0 (own bI 4 d.blocks.sv d.blocks.xs::ai.all (d.blocks.xs.map fun b:Bk=>eS b.pages)::own di 4 d.aR.sv d.aR.xs::L) w):Mem w0 (fz d::L) w:=
 BA ((JM (a:=d.aR) ((RU h).perm (List.Perm.swap _ _ _))).perm (List.Perm.swap _ _ _))
theorem EJ{α:Type}{enc:α→Array Value}{c:Nat}{s:Sv}{xs ys:List α}{w0 w:World}{L:List ai}(e:xs.map enc=ys.map enc)(h:Mem w0 (own enc c s xs::L) w):Mem w0 (own enc c s ys::L) w:=
 Mem.BC (e:=own enc c s xs) (fun _ hk=>hk) (fun hs=>⟨⟨hs.1.ok,by have:=congrArg List.length e;simp only[List.length_map]at this;rw[←this];exact hs.1.len,fun i y hy j hj=>by
  have h1:(xs.map enc)[i]? =(ys.map enc)[i]? :=by rw[e]
  rw[List.getElem?_map,List.getElem?_map,hy]at h1
  cases hx:xs[i]?with
  |none=>rw[hx]at h1;cases h1
  |some x=>
   rw[hx]at h1
   have h2:enc x=enc y:=by simpa using h1
   have:=hs.1.row i x hx j hj
   rw[h2]at this
   exact this⟩,hs.2⟩) h
theorem BG{w0 w:World}{L:List ai}{s sp rm:Sv}{xs:List Bk}{i:Nat}{B B':Bk}{ps:List (Sl UInt8)}{l:List (List UInt8)}(hi:i<xs.length)(hp:ps.map (fun x=>x.sv)=(dm rm 0 l).map (fun x=>x.sv))(hn:rm.nil=false)(hc:bI B=bI B')(hB:B'.pages=⟨sp,dm rm 0 l⟩)
  (h:Mem w0 (own (bY (τ:=UInt8)) 1 sp ps::own aM 1 rm l.flatten::own bI 4 s (xs.set i B)::ai.all ((xs.eraseIdx i).map fun b:Bk=>eS b.pages)::L) w):Mem w0 (own bI 4 s (xs.set i B')::ai.all ((xs.set i B').map fun b:Bk=>eS b.pages)::L) w:=by
 have h1:Mem w0 (own (bY (τ:=UInt8)) 1 sp (dm rm 0 l)::own aM 1 rm l.flatten::own bI 4 s (xs.set i B)::ai.all ((xs.eraseIdx i).map fun b:Bk=>eS b.pages)::L) w:=EJ (by
  have:=congrArg (List.map fun v:Sv=>(#[v.val]:Array Value)) hp
  rw[List.map_map,List.map_map]at this
  exact this) h
 have h2:=JP (xs:=dm rm 0 l) rfl hn h1
 rw[←hB]at h2
 have h3:=EJ (ys:=xs.set i B') (by rw[List.map_set,List.map_set,hc]) (h2.perm (List.Perm.swap _ _ _))
 have h4:Mem w0 (eS B'.pages::ai.all (((xs.set i B').eraseIdx i).map fun b:Bk=>eS b.pages)::own bI 4 s (xs.set i B')::L) w:=by
  rw[List.eraseIdx_set_eq]
  exact h3.perm ((List.Perm.swap _ _ _).trans (List.Perm.cons _ (List.Perm.swap _ _ _)))
 have h5:=(Mem.pick (f:=fun b:Bk=>eS b.pages) (xs:=xs.set i B') (i:=i) (x:=B') (by rw[List.getElem?_set_self hi])).2 h4
 exact h5.perm (List.Perm.swap _ _ _)
theorem JQ{w0 w:World}{L:List ai}{s:Sv}{xs:List Bk}{i:Nat}{B:Bk}(hB:xs[i]? =some B)(bW:B.pages.xs≠[])(h:Mem w0 (own bI 4 s xs::ai.all (xs.map fun b:Bk=>eS b.pages)::L) w):
  ∃rm:Sv,(rm.nil=false∧rm.sp=none∧B.pages.xs=dm rm 0 (aJ B.pages.xs))∧Mem w0 (own (bY (τ:=UInt8)) 1 B.pages.sv B.pages.xs::own aM 1 rm (aJ B.pages.xs).flatten::own bI 4 s xs::ai.all ((xs.eraseIdx i).map fun b:Bk=>eS b.pages)::L) w:=by
 have h1:=(Mem.pick (f:=fun b:Bk=>eS b.pages) hB).1 (h.perm (List.Perm.swap _ _ _))
 obtain⟨rm,hr,h2⟩:=R7 bW h1
 refine⟨rm,hr,h2.perm (List.Perm.cons _ (List.Perm.cons _ (List.Perm.swap _ _ _)))⟩
end Go.Kb
namespace Go.aC
section
variable {P:Program} {N:cz} {w0:World} {env:Env} {L:List ai} {d:Option Tmp} {ty:TypeId} {ps:String} {af:Array Edge} {gd:Option (Nat×Bool)} {x y:Operand} {t u:TypeId}
theorem JR{a b:UInt8}(hx:ev env x=some (.int .u8 a.toNat))(hy:ev env y=some (.int .u8 b.toNat)):
  Ry P N w0 env L ⟨d, .binOp .or t x y u,ty,ps,af,gd⟩ (.int .u8 (a|||b).toNat):=by
 have ha:=a.toNat_lt;have hb:=b.toNat_lt
 rw[UInt8.toNat_or]
 exact AN hx hy rfl rfl (by simp only[nb];omega) (by simp only[nb];omega)
theorem R9: ∀n,n<256→(255^^^n:Nat)=255 -n:=by decide+kernel
theorem Sa{p q:Nat}(hp:p<2^nb .u8)(hq:q<2^nb .u8):Op.intBits .xor .u8 (p:Int) (q:Int)=(pure (.int .u8 ((p^^^q:Nat):Int)):Sem Value):=by
 simp only[Op.intBits,vP,BitVec.toNat_xor,BitVec.toNat_ofNat,Nat.mod_eq_of_lt (oY hp),Nat.mod_eq_of_lt (oY hq)]
 rw[oX (Nat.xor_lt_two_pow hp hq)]
theorem Sb{a:UInt8}(hx:ev env x=some (.int .u8 a.toNat)):
  Ry P N w0 env L ⟨d, .unOp .xor t x,ty,ps,af,gd⟩ (.int .u8 (~~~a).toNat):=fun aa w ha _=>by
 have e:(Op.intBits .xor .u8 255 (a.toNat:Int))=(pure (.int .u8 ((~~~a).toNat:Int)):Sem Value):=by
  have h3:=a.toNat_lt
  have h4:(~~~a).toNat=255 -a.toNat:=UInt8.toNat_not a
  have h5:(255^^^a.toNat:Nat)=255 -a.toNat:=R9 a.toNat h3
  have hp:(255:Nat)<2^nb .u8:=by decide
  have hq:a.toNat<2^nb .u8:=h3
  have hx:=Sa hp hq
  rw[h5]at hx
  rw[h4]
  exact hx
 simp only[execOp,ha.ev hx,Op.unary,Sem.run_bind,Result.andThen]
 rw[show(if IntKind.u8.signed=true then(-1:Int)else IntKind.u8.max)=255 by decide,e]
 rfl
end
open Go.RowKit
section
variable {P:Program} {N:cz} {w0:World} {env:Env} {L:List ai} {l:List Oper} {Q:Exit→Act→World→Prop} {rest:List Oper} {d:Option Tmp} {ty:TypeId} {ps:String} {af:Array Edge} {gd:Option (Nat×Bool)} {K:Value→List ai→Prop}
variable {α:Type} {enc:α→Array Value} {c:Nat}
theorem Sc{β:Type}{l:List β}{i:Nat}{z:β}(h:l[i]? =some z):l.set i z=l:=by
 obtain⟨hi,rfl⟩:=List.getElem?_eq_some_iff.1 h
 exact List.set_getElem_self hi
theorem Sd{D S:Sv}{x y:Operand}{tx fS e:TypeId}(hx:ev env x=some D.val)(hy:ev env y=some S.val)[ht:eW P tx e c][hS:Hd w0 L S enc c []](hk:K (.int .i64 0) L):
  hU P N w0 env L ⟨d, .call {callee:= .builtin .copy,args:= #[x,y],argTypes:= #[tx,fS]},ty,ps,af,gd⟩ K:=
 th fun a w ha hw=>by
  have hs:=hS.h w hw
  have nF:S.len=0:=hs.len
  obtain⟨ad,len,cap,e1⟩:=S.ex
  have el:len=S.len:=by
   cases hn:S.nil with
   |true=>rw[Sv.qO hn]at e1;have:=hs.ok.nil hn;cases e1;omega
   |false=>rw[Sv.hK hn]at e1;cases e1;rfl
  obtain⟨JS,Se,Sg,e2⟩:=D.ex
  refine⟨_,w,L,?_,hw,hk⟩
  cases hq:P.info? e with
  |none=>have:=ht.size;simp[hq]at this
  |some i'=>
   rw[e1]at hy
   rw[e2]at hx
   have lh:len=0:=by omega
   have fR:(Builtin.copy_ #[tx,fS] ty #[.slice JS Se Sg, .slice ad len cap]).run P w= .ok (goInt 0) w:=by
    have wB: ∀v:Addr,(loadCells v 0).run P w= .ok #[] w:=fun v=>by
     have:=run_loadCells_list (P:=P) w v [] (fun j v hj=>by simp at hj)
     simpa using this
    have bA: ∀v:Addr,(storeCells v []).run P w= .ok () w:=fun v=>rfl
    cases JS<;>cases ad<;>simp[Builtin.copy_,run_underlying ht.eA,Builtin.lenOf,Builtin.firstCells,sizeOf,typeInfo,hq,lh,wB,bA]
   simp[execOp,ha.ev hx,ha.ev hy,resolve,invoke,builtin,fR,Result.andThen,goInt]
theorem EK{D S rm:Sv}{x y:Operand}{tx fS e:TypeId}{i k:Nat}{xs ys:List α}[he:bu enc c](hx:ev env x=some D.val)(lO:D.nil=false)(mW:D.sp=none)(oz:D.b=rm.b)(qb:D.o=rm.o+k*c)(hy:ev env y=some S.val)[ht:eW P tx e c][q:fD L rm enc c xs i][hS:Hd w0 L S enc c ys](hc:0<c)(hn:rm.nil=false)(hl:ys.length≤D.len)(jF:k+ys.length≤xs.length)
  {L':List ai} [hu:fx L i (own enc c rm (xs.take k++(ys++xs.drop (k+ys.length)))) L'] (hk:K (.int .i64 ys.length) L'):
  hU P N w0 env L ⟨d, .call {callee:= .builtin .copy,args:= #[x,y],argTypes:= #[tx,fS]},ty,ps,af,gd⟩ K:=by
 by_cases h0:ys=[]
 ·
  subst h0
  have e1:xs.take k++([]++xs.drop (k+([]:List α).length))=xs:=by simp
  have e2:L'=L:=by
   rw[←hu.h,e1]
   exact Sc q.h
  exact Sd (c:=c) (enc:=enc) hx hy (by rw[e2]at hk;exact hk)
 ·
  exact JO hx lO mW oz qb hy hc hn (List.length_pos_iff.2 h0) hl jF hk
end
end Go.aC
namespace Go.Kb
open Go.aC
def dQ(c:Cp):Prop:=c.blocks.xs.length≤1000000∧c.aR.xs.length≤1000000∧ ∀b∈c.blocks.xs,EI (aJ b.pages.xs)
theorem tl{α:Type}{l:List α}{i:Nat}{z:α}(h:l[i]? =some z):l.set i z=l:=by
 obtain⟨hi,rfl⟩:=List.getElem?_eq_some_iff.1 h
 exact List.set_getElem_self hi
theorem uT(l:List Bk)(i:Nat)(b:Bk):gu (l.set i b)=(gu l).set i (bv b):=by simp[gu,List.map_set]
theorem Sh{zs:List Bk}{i:Nat}{z z':Bk}(h:zs[i]? =some z):((zs.take i).map fun b:Bk=>eS b.pages)++[eS z'.pages]=((zs.set i z').take (i+1)).map fun b:Bk=>eS b.pages:=by
 have hi:=(List.getElem?_eq_some_iff.1 h).1
 rw[List.take_add_one,List.getElem?_set_self hi,List.take_set_of_le (Nat.le_refl _),List.map_append]
 rfl
theorem Si{c:CV}(h: ∀f∈c.aR,f.op≠c.ops):bn c=(wy,false):=by
 have:c.aR.find? (fun f=>decide (f.op=c.ops))=none:=List.find?_eq_none.2 fun f hf=>by simpa using h f hf
 rw[bn,this]
theorem Sj{c:CV}{i:Nat}{f:Ft}(hf:c.aR[i]? =some f)(h: ∀j g,j<i→c.aR[j]? =some g→g.op≠c.ops)(he:f.op=c.ops):bn c=(f,f.cut||f.fail):=by
 have:c.aR.find? (fun f=>decide (f.op=c.ops))=some f:=by
  rw[List.find?_eq_some_iff_getElem]
  obtain⟨hi,rfl⟩:=List.getElem?_eq_some_iff.1 hf
  exact⟨by simpa using he,i,hi,rfl,fun j hj=>by
   simpa using h j (c.aR[j]'(by omega)) hj (List.getElem?_eq_getElem (by omega))⟩
 rw[bn,this]
theorem JT: ∀l:List (List UInt8),(∀x∈l,x.length≤256)→(l.map List.length).sum≤l.length*256
 |[],_=>by simp
 |x::l,hl=>by
  have h1:=JT l fun y hy=>hl y (List.mem_cons_of_mem _ hy)
  have h2:=hl x List.mem_cons_self
  simp only[List.map_cons,List.sum_cons,List.length_cons]
  omega
theorem ph{c:Cp}(h:aT (cv c)=true):dQ c:=by
 obtain⟨h1,h2,h3,h4,h5⟩:=eU.1 h
 obtain⟨s1,s2,s3,s4,s5,s6⟩:=jI.1 h1
 simp only[cv,fu]at*
 refine⟨by omega,by omega,fun b hb=> ?_⟩
 have g:=dX.1 (h5 (bv b) (List.mem_map_of_mem hb))
 simp only[bv]at g
 have hf:(aJ b.pages.xs).flatten.length≤(aJ b.pages.xs).length*256:=by
  rw[List.length_flatten]
  exact JT _ fun x hx=>by have:=g.2.2.2.2.2 x hx;omega
 exact⟨by omega,by omega⟩
theorem EL{rm:Sv}: ∀{o:Nat} {l l':List (List UInt8)},l.map List.length=l'.map List.length→(dm rm o l).map (fun x=>x.sv)=(dm rm o l').map (fun x=>x.sv)
 |_,[],[],_=>rfl
 |_,[],_::_,h=>by simp at h
 |_,_::_,[],h=>by simp at h
 |o,p::l,p'::l',h=>by
  simp only[List.map_cons,List.cons.injEq]at h
  have:=EL (rm:=rm) (o:=o+p'.length) h.2
  simp only[dm,List.map_cons,h.1,this]
theorem Sk{rm:Sv}{l:List (List UInt8)}{i:Nat}{q r:List UInt8}(h:l[i]? =some q)(hr:r.length=q.length):(dm rm 0 l).map (fun x=>x.sv)=(dm rm 0 (l.set i r)).map (fun x=>x.sv):=EL (by
 rw[List.map_set,hr,tl]
 rw[List.getElem?_map,h];rfl)
theorem wD: ∀{l:List (List UInt8)} {i j:Nat} {q:List UInt8},l[i]? =some q→j<q.length→l.flatten[(l.take i).flatten.length+j]? =q[j]?
 |y::l,0,j,q,h,hj=>by
  obtain rfl:y=q:=by simpa using h
  simp only[List.take_zero,List.flatten_nil,List.length_nil,Nat.zero_add,List.flatten_cons]
  rw[List.getElem?_append_left hj]
 |y::l,i+1,j,q,h,hj=>by
  have:=wD (l:=l) (i:=i) (j:=j) (q:=q) (by simpa using h) hj
  simp only[List.take_succ_cons,List.flatten_cons,List.length_append]
  rw[Nat.add_assoc,List.getElem?_append_right (by omega),Nat.add_sub_cancel_left,this]
theorem JU: ∀{l:List (List UInt8)} {i j:Nat} {q:List UInt8} {v:UInt8},l[i]? =some q→j<q.length→l.flatten.set ((l.take i).flatten.length+j) v=(l.set i (q.set j v)).flatten
 |y::l,0,j,q,v,h,hj=>by
  obtain rfl:y=q:=by simpa using h
  simp only[List.take_zero,List.flatten_nil,List.length_nil,Nat.zero_add,List.flatten_cons,List.set_cons_zero]
  rw[List.set_append_left _ _ hj]
 |y::l,i+1,j,q,v,h,hj=>by
  have:=JU (l:=l) (i:=i) (j:=j) (q:=q) (v:=v) (by simpa using h) hj
  simp only[List.take_succ_cons,List.flatten_cons,List.length_append,List.set_cons_succ]
  rw[Nat.add_assoc,List.set_append_right _ _ (by omega),Nat.add_sub_cancel_left,this]
theorem EM{l:List (List UInt8)}{i:Nat}{r:List UInt8}:(l.set i r).take i=l.take i:=List.take_set_of_le (Nat.le_refl _)
theorem wE{rm:Sv}{lo n:Nat}(h:0<n):(fE rm lo (lo+n)).o=rm.o+lo:=by
 simp only[fE];rw[if_neg (by omega)]
theorem BH{rm:Sv}{lo n:Nat}(hn:rm.nil=false)(hs:rm.sp=none)(hb:n≤1000000):(fE rm lo (lo+n)).Ok:=
 ⟨fun h=>absurd (hn.symm.trans h) (by decide),Nat.le_refl _,by simp only[fE];omega,fun _=>hs⟩
theorem JV{c:CV}{x:Cp}{B:Bk}{b g:Int}{q:List UInt8}{rm:Sv}{off:Bool}(hx:cv x=c)(hB:bv B=aj c b):
  cv ⟨x.pages,x.size,⟨x.blocks.sv,x.blocks.xs.set b.toNat ⟨⟨B.pages.sv,dm rm 0 ((aJ B.pages.xs).set g.toNat q)⟩,B.used+1,B.aS,B.bad⟩⟩,x.ops+1,off,x.aR⟩={c with ops:=c.ops+1,off:=off,blocks:=c.blocks.set b.toNat {aj c b with used:=(aj c b).used+1,pages:=(aj c b).pages.set g.toNat q}}:=by
 subst hx
 rw[←hB]
 simp only[cv,uT,bv,tk]
theorem Sm{m:UInt8}{xs:List UInt8}{i:Nat}{z:UInt8}(h:xs[i]? =some z):(cQ m (xs.take i)++xs.drop i).set i (z|||m)=cQ m (xs.take (i+1))++xs.drop (i+1):=by
 have hi:=(List.getElem?_eq_some_iff.1 h).1
 have hl:(cQ m (xs.take i)).length=i:=by rw[cQ,List.length_map,List.length_take];omega
 rw[List.set_append_right _ _ (by omega),hl,Nat.sub_self,List.drop_eq_getElem_cons hi,List.set_cons_zero,List.take_add_one,h,cQ,cQ,List.map_append,List.append_assoc]
 rfl
theorem JW{m:UInt8}{xs:List UInt8}{i:Nat}(h:i<xs.length):(cQ m (xs.take i)++xs.drop i)[i]? =xs[i]? :=by
 have hl:(cQ m (xs.take i)).length=i:=by rw[cQ,List.length_map,List.length_take];omega
 rw[List.getElem?_append_right (by omega),hl,Nat.sub_self,List.getElem?_drop,Nat.add_zero]
theorem EN{m:UInt8}{xs:List UInt8}{i:Nat}(h:i≤xs.length):(cQ m (xs.take i)++xs.drop i).length=xs.length:=by
 rw[cQ,List.length_append,List.length_map,List.length_take,List.length_drop];omega
theorem JX{T:List (List UInt8)}{g i:Nat}{q xs:List UInt8}{m z:UInt8}(hq:T[g]? =some q)(hz:xs[i]? =some z):(T.set g (cQ m (xs.take (i+1))++xs.drop (i+1))).flatten=(T.set g (cQ m (xs.take i)++xs.drop i)).flatten.set ((T.take g).flatten.length+i) (z|||m):=by
 have hg:=(List.getElem?_eq_some_iff.1 hq).1
 have hi:=(List.getElem?_eq_some_iff.1 hz).1
 have h1:=JU (l:=T.set g (cQ m (xs.take i)++xs.drop i)) (i:=g) (j:=i) (v:=z|||m) (List.getElem?_set_self hg) (by rw[EN (by omega)];exact hi)
 rw[EM]at h1
 rw[h1,List.set_set,Sm hz]
def mixed(f:List UInt8→List UInt8)(T:List (List UInt8))(k:Nat):List (List UInt8):=(T.take k).map f++T.drop k
theorem JY{f:List UInt8→List UInt8}{T:List (List UInt8)}:mixed f T 0=T:=by simp[mixed]
theorem JZ{f:List UInt8→List UInt8}{T:List (List UInt8)}{k:Nat}(h:T.length≤k):mixed f T k=T.map f:=by
 rw[mixed,List.take_of_length_le h,List.drop_eq_nil_of_le h,List.append_nil]
theorem yY{f:List UInt8→List UInt8}{T:List (List UInt8)}{k:Nat}{q:List UInt8}(h:T[k]? =some q):(mixed f T k)[k]? =some q:=by
 have hk:=(List.getElem?_eq_some_iff.1 h).1
 have hl:((T.take k).map f).length=k:=by rw[List.length_map,List.length_take];omega
 rw[mixed,List.getElem?_append_right (by omega),hl,Nat.sub_self,List.getElem?_drop,Nat.add_zero,h]
theorem EO{f:List UInt8→List UInt8}{T:List (List UInt8)}{k:Nat}{q:List UInt8}(h:T[k]? =some q):(mixed f T k).set k (f q)=mixed f T (k+1):=by
 have hk:=(List.getElem?_eq_some_iff.1 h).1
 have hl:((T.take k).map f).length=k:=by rw[List.length_map,List.length_take];omega
 obtain⟨_,rfl⟩:=List.getElem?_eq_some_iff.1 h
 rw[mixed,List.set_append_right _ _ (by omega),hl,Nat.sub_self,List.drop_eq_getElem_cons hk,List.set_cons_zero,mixed,List.take_add_one,List.getElem?_eq_getElem hk,List.map_append,List.append_assoc]
 rfl
theorem BI{f:List UInt8→List UInt8}{T:List (List UInt8)}{k:Nat}(hf: ∀x∈T,(f x).length=x.length)(hk:k≤T.length):((mixed f T k).take k).flatten.length=(T.take k).flatten.length:=by
 have hl:((T.take k).map f).length=k:=by rw[List.length_map,List.length_take];omega
 rw[mixed,List.take_append_of_le_length (by omega),List.take_of_length_le (by omega),List.length_flatten,List.length_flatten,List.map_map]
 congr 1
 exact List.map_congr_left fun x hx=>hf x (List.mem_of_mem_take hx)
theorem Sn{f:List UInt8→List UInt8}{T:List (List UInt8)}{k n:Nat}{q:List UInt8}(hq:T[k]? =some q)(hf: ∀x∈T,(f x).length=x.length)(he:f q=List.replicate n 255)(hn:n=q.length):(mixed f T (k+1)).flatten=(mixed f T k).flatten.take (T.take k).flatten.length++(List.replicate n 255++(mixed f T k).flatten.drop ((T.take k).flatten.length+n)):=by
 have hk:=(List.getElem?_eq_some_iff.1 hq).1
 rw[←EO hq,BE (yY hq) (by rw[he,List.length_replicate,hn]),BI hf (by omega),he,List.length_replicate]
theorem So{rm:Sv}{f:List UInt8→List UInt8}{T:List (List UInt8)}(hf: ∀x∈T,(f x).length=x.length):(dm rm 0 T).map (fun x=>x.sv)=(dm rm 0 (T.map f)).map (fun x=>x.sv):=EL (by
 rw[List.map_map]
 exact(List.map_congr_left fun x hx=>(hf x hx)).symm)
theorem Sp{rm:Sv}{lo n:Nat}(hn:rm.nil=false)(hs:rm.sp=none)(h:0<n):(fE rm lo (lo+n)).val= .slice (some ⟨rm.b,rm.o+lo,none⟩) n n:=by
 rw[Sv.hK (s:=fE rm lo (lo+n)) hn,show(fE rm lo (lo+n)).sp=rm.sp from rfl,hs,wE h,show(fE rm lo (lo+n)).len=n from Nat.add_sub_cancel_left ..,show(fE rm lo (lo+n)).cap=n from Nat.add_sub_cancel_left ..]
 rfl
theorem uU{c:Cp}{b:Int}:bv (c.blocks.xs.getD b.toNat oA)=aj (cv c) b:=by
 simp only[aj,cv,gu,List.getD_eq_getElem?_getD,List.getElem?_map]
 cases c.blocks.xs[b.toNat]? <;>rfl
theorem EP{c:Cp}{b:Int}(h:fY (cv c) b=true):0≤b∧b.toNat<c.blocks.xs.length:=by
 obtain⟨_,h2,h3⟩:=gv.1 h
 simp only[cv,fu]at h3
 exact⟨h2,by omega⟩
theorem J0{c:CV}{x:Cp}{B:Bk}{b u:Int}{l:List (List UInt8)}{rm:Sv}{off:Bool}(hx:cv x=c)(hB:bv B=aj c b):
  cv ⟨x.pages,x.size,⟨x.blocks.sv,x.blocks.xs.set b.toNat ⟨⟨B.pages.sv,dm rm 0 l⟩,u,B.aS+1,B.bad⟩⟩,x.ops+1,off,x.aR⟩={c with ops:=c.ops+1,off:=off,blocks:=c.blocks.set b.toNat {aj c b with used:=u,aS:=(aj c b).aS+1,pages:=l}}:=by
 subst hx
 rw[←hB]
 simp only[cv,uT,bv,tk]
theorem Sr{xs:List Bk}{i:Nat}{B B':Bk}(h:xs[i]? =some B)(hp:B'.pages=B.pages):((xs.set i B').map fun b:Bk=>eS b.pages)=xs.map fun b:Bk=>eS b.pages:=by
 rw[List.map_set,hp]
 refine tl ?_
 rw[List.getElem?_map,h];rfl
theorem Ss{c:CV}{x:Cp}{B:Bk}{b:Int}(hx:cv x=c)(hB:bv B=aj c b):
  cv ⟨x.pages,x.size,⟨x.blocks.sv,x.blocks.xs.set b.toNat ⟨B.pages,B.used,B.aS,true⟩⟩,x.ops,x.off,x.aR⟩={c with blocks:=c.blocks.set b.toNat {aj c b with bad:=true}}:=by
 subst hx
 rw[←hB]
 simp only[cv,uT,bv]
theorem ER{w0 w:World}{L:List ai}{s:Sv}{xs:List (Sl UInt8)}(h:Mem w0 (own (bY (τ:=UInt8)) 1 s xs::ai.all (xs.map fun p:Sl UInt8=>fz p)::L) w):Mem w0 (fz (⟨s,xs⟩:Sl (Sl UInt8))::L) w:=by
 have hs:=h.sat (own (bY (τ:=UInt8)) 1 s xs) (by simp)
 have ha:=h.sat (ai.all (xs.map fun p:Sl UInt8=>fz p)) (by simp)
 refine Mem.freeze (es:=[own (bY (τ:=UInt8)) 1 s xs,ai.all (xs.map fun p:Sl UInt8=>fz p)]) _ ⟨hs.1,fun x hx=>ai.yA ha (fz x) (List.mem_map_of_mem hx)⟩ (fun k hk=> ?_) h
 rcases hk with⟨bW,rfl⟩|⟨x,hx,hk⟩
 ·
  exact⟨_,by simp,yU hs.1 bW⟩
 ·
  exact⟨ai.all (xs.map fun p:Sl UInt8=>fz p),by simp,ai.By (List.mem_map_of_mem (f:=fun p:Sl UInt8=>fz p) hx) hk⟩
theorem J1{w0 w:World}{L:List ai}{s:Sv}{xs:List Bk}(h:Mem w0 (own bI 4 s xs::ai.all (xs.map fun b:Bk=>fz b.pages)::L) w):Mem w0 (fz (⟨s,xs⟩:Sl Bk)::L) w:=by
 have hs:=h.sat (own bI 4 s xs) (by simp)
 have ha:=h.sat (ai.all (xs.map fun b:Bk=>fz b.pages)) (by simp)
 refine Mem.freeze (es:=[own bI 4 s xs,ai.all (xs.map fun b:Bk=>fz b.pages)]) _ ⟨hs.1,fun x hx=>ai.yA ha (fz x.pages) (List.mem_map_of_mem (f:=fun b:Bk=>fz b.pages) hx)⟩ (fun k hk=> ?_) h
 rcases hk with⟨bW,rfl⟩|⟨x,hx,hk⟩
 ·
  exact⟨_,by simp,yU hs.1 bW⟩
 ·
  exact⟨ai.all (xs.map fun b:Bk=>fz b.pages),by simp,ai.By (List.mem_map_of_mem (f:=fun b:Bk=>fz b.pages) hx) hk⟩
theorem J2{w0 w:World}{L:List ai}{s:Sv}(hs:s.Ok)(hl:s.len=0)(h:Mem w0 L w):Mem w0 (fz (⟨s,[]⟩:Sl Ft)::L) w:=
 Mem.freeze (es:=[]) _ ⟨⟨hs,hl,fun i x hx=>by cases hx⟩,fun x hx=>by cases hx⟩ (fun k hk=>by
  rcases hk with⟨bW,_⟩|⟨x,hx,_⟩
  ·
   exact absurd rfl bW
  ·
   cases hx) h
theorem J3{w0 w:World}{L:List ai}{d:Cp}(hf:d.aR=⟨Sv.none,[]⟩)(h:Mem w0 (own bI 4 d.blocks.sv d.blocks.xs::ai.all (d.blocks.xs.map fun b:Bk=>fz b.pages)::L) w):Mem w0 (fz d::L) w:=by
 have h1:=J2 (s:=Sv.none) Sv.vW rfl (J1 h)
 rw[←hf]at h1
 exact BA (h1.perm (List.Perm.swap _ _ _))
theorem J4{zs:List Bk}{i:Nat}{z z':Bk}(h:zs[i]? =some z):((zs.take i).map fun b:Bk=>fz b.pages)++[fz z'.pages]=((zs.set i z').take (i+1)).map fun b:Bk=>fz b.pages:=by
 have hi:=(List.getElem?_eq_some_iff.1 h).1
 rw[List.take_add_one,List.getElem?_set_self hi,List.take_set_of_le (Nat.le_refl _),List.map_append]
 rfl
theorem ES{zs:List (Sl UInt8)}{i:Nat}{z z':Sl UInt8}(h:zs[i]? =some z):((zs.take i).map fun b:Sl UInt8=>fz b)++[fz z']=((zs.set i z').take (i+1)).map fun b:Sl UInt8=>fz b:=by
 have hi:=(List.getElem?_eq_some_iff.1 h).1
 rw[List.take_add_one,List.getElem?_set_self hi,List.take_set_of_le (Nat.le_refl _),List.map_append]
 rfl
theorem BJ{α β:Type}{f:α→β}{zs:List α}{i:Nat}{z z':α}(h:zs[i]? =some z):((zs.set i z').take (i+1)).map f=(zs.take i).map f++[f z']:=by
 have hi:=(List.getElem?_eq_some_iff.1 h).1
 rw[List.take_add_one,List.getElem?_set_self hi,List.take_set_of_le (Nat.le_refl _),List.map_append]
 rfl
theorem BK{b n:Nat}(h:n≤1000000):(⟨false,b,0,n,n,none⟩:Sv).Ok:=⟨fun h=>(by cases h),Nat.le_refl _,by simp only;omega,fun _=>rfl⟩
end Go.Kb
namespace Go.aC
theorem J5{P:Program}{N:cz}{w0:World}{env:Env}{L:List ai}{Q:Exit→Act→World→Prop}{c:Code}{X:Type}{pr:X→Prop}(Lx:X→List ai)(h: ∀w,Mem w0 L w→ ∃x,pr x∧Mem w0 (Lx x) w)(hk: ∀x,pr x→Cw P N w0 Q c env (Lx x)):Cw P N w0 Q c env L:=fun a w ha hw=>by
 obtain⟨x,h1,h2⟩:=h w hw
 exact hk x h1 a w ha h2
end Go.aC
namespace Go.Kb
open Go.aC
structure eo where
 kind:Int
 id:Int
 gen:UInt64
 body:Sl UInt8
def cG(x:eo):Array Value:= #[.int .i64 x.kind, .int .i64 x.id, .int .u64 x.gen.toNat,x.body.sv.val]
instance:bu cG 4:=⟨fun _=>rfl,fun x=>by
 simp only[cG,List.all_toArray,List.all_cons,List.all_nil,Sv.one,qZ,q9,Bool.and_self]⟩
instance (x:eo):fW (cG x) 4:=⟨rfl,bu.one x⟩
instance (x:eo):cq (cG x) 0 (.int .i64 x.kind):=⟨rfl⟩
instance (x:eo):cq (cG x) 1 (.int .i64 x.id):=⟨rfl⟩
instance (x:eo):cq (cG x) 2 (.int .u64 x.gen.toNat):=⟨rfl⟩
instance (x:eo):cq (cG x) 3 (x.body.sv.val):=⟨rfl⟩
instance:Deep eo where
 c:=4
 cells:=cG
 size:=bu.size
 one:=bu.one
 aY h x:=Deep.aY h x.body
 cd x:=Deep.cd x.body
 iT h x hs:=Deep.iT h x.body hs
 mono w w' x hg hb:=Deep.mono w w' x.body hg hb
instance {w0:World}{L:List ai}{x:eo}[q:aU w0 L x]:aU w0 L x.body:=⟨fun w hw=>(q.h w hw)⟩
instance {w0:World}{L:List ai}{kind:Int}{id:Int}{gen:UInt64}{body:Sl UInt8}[q0:aU w0 L body]:aU w0 L (eo.mk kind id gen body):=⟨fun w hw=>q0.h w hw⟩
def m9:eo:=⟨0,0,0,⟨Sv.none,[]⟩⟩
structure dd where
 gen:UInt64
 at_:Sl Int
def dB(x:dd):Array Value:= #[.int .u64 x.gen.toNat,x.at_.sv.val]
instance:bu dB 2:=⟨fun _=>rfl,fun x=>by
 simp only[dB,List.all_toArray,List.all_cons,List.all_nil,Sv.one,qZ,q9,Bool.and_self]⟩
instance (x:dd):fW (dB x) 2:=⟨rfl,bu.one x⟩
instance (x:dd):cq (dB x) 0 (.int .u64 x.gen.toNat):=⟨rfl⟩
instance (x:dd):cq (dB x) 1 (x.at_.sv.val):=⟨rfl⟩
instance:Deep dd where
 c:=2
 cells:=dB
 size:=bu.size
 one:=bu.one
 aY h x:=Deep.aY h x.at_
 cd x:=Deep.cd x.at_
 iT h x hs:=Deep.iT h x.at_ hs
 mono w w' x hg hb:=Deep.mono w w' x.at_ hg hb
instance {w0:World}{L:List ai}{x:dd}[q:aU w0 L x]:aU w0 L x.at_:=⟨fun w hw=>(q.h w hw)⟩
instance {w0:World}{L:List ai}{gen:UInt64}{at_:Sl Int}[q0:aU w0 L at_]:aU w0 L (dd.mk gen at_):=⟨fun w hw=>q0.h w hw⟩
def kT:dd:=⟨0,⟨Sv.none,[]⟩⟩
structure ax where
 live:Int
 used:Int
 aS:Int
 bad:Bool
 deriving DecidableEq
def br(x:ax):Array Value:= #[.int .i64 x.live, .int .i64 x.used, .int .i64 x.aS, .bool x.bad]
instance:bu br 4:=⟨fun _=>rfl,fun x=>by
 simp only[br,List.all_toArray,List.all_cons,List.all_nil,Sv.one,qZ,q9,Bool.and_self]⟩
instance (x:ax):fW (br x) 4:=⟨rfl,bu.one x⟩
instance (x:ax):cq (br x) 0 (.int .i64 x.live):=⟨rfl⟩
instance (x:ax):cq (br x) 1 (.int .i64 x.used):=⟨rfl⟩
instance (x:ax):cq (br x) 2 (.int .i64 x.aS):=⟨rfl⟩
instance (x:ax):cq (br x) 3 (.bool x.bad):=⟨rfl⟩
def dH:ax:=⟨0,0,0,false⟩
structure bM where
 ae:Cp
 at_:Sl Int
 gen:UInt64
 last:Int
def bF(x:bM):Array Value:= #[.int .i64 x.ae.pages, .int .i64 x.ae.size,x.ae.blocks.sv.val, .int .i64 x.ae.ops, .bool x.ae.off,x.ae.aR.sv.val,x.at_.sv.val, .int .u64 x.gen.toNat, .int .i64 x.last]
instance:bu bF 9:=⟨fun _=>rfl,fun x=>by
 simp only[bF,List.all_toArray,List.all_cons,List.all_nil,Sv.one,qZ,q9,Bool.and_self]⟩
instance (x:bM):fW (bF x) 9:=⟨rfl,bu.one x⟩
instance (x:bM):cq (bF x) 0 (.int .i64 x.ae.pages):=⟨rfl⟩
instance (x:bM):cq (bF x) 1 (.int .i64 x.ae.size):=⟨rfl⟩
instance (x:bM):cq (bF x) 2 (x.ae.blocks.sv.val):=⟨rfl⟩
instance (x:bM):cq (bF x) 4 (.bool x.ae.off):=⟨rfl⟩
instance (x:bM):cq (bF x) 6 (x.at_.sv.val):=⟨rfl⟩
instance (x:bM):cq (bF x) 7 (.int .u64 x.gen.toNat):=⟨rfl⟩
instance (x:bM):cq (bF x) 8 (.int .i64 x.last):=⟨rfl⟩
instance (x:bM):ob (bF x) 0 6 (aB x.ae):=⟨rfl,fun j hj=>by
 match j,hj with
 |0,_=>rfl
 |1,_=>rfl
 |2,_=>rfl
 |3,_=>rfl
 |4,_=>rfl
 |5,_=>rfl⟩
instance:Deep bM where
 c:=9
 cells:=bF
 size:=bu.size
 one:=bu.one
 aY h x:=Deep.aY h x.ae∧Deep.aY h x.at_
 cd x:= .two (Deep.cd x.ae) (Deep.cd x.at_)
 iT h x hs:=⟨Deep.iT h x.ae hs.1,Deep.iT h x.at_ hs.2.1⟩
 mono w w' x hg hb:=⟨Deep.mono w w' x.ae hg.1 hb,Deep.mono w w' x.at_ hg.2 hb⟩
instance:eR bM where
 reach x k:=eR.reach x.ae k∨eR.reach x.at_ k
 congr h h' x e hg:=⟨eR.congr h h' x.ae (fun k hk=>e k (.inl hk)) hg.1,eR.congr h h' x.at_ (fun k hk=>e k (.inr hk)) hg.2⟩
instance {w0:World}{L:List ai}{x:bM}[q:aU w0 L x]:aU w0 L x.ae:=⟨fun w hw=>(q.h w hw).1⟩
instance {w0:World}{L:List ai}{x:bM}[q:aU w0 L x]:aU w0 L x.at_:=⟨fun w hw=>(q.h w hw).2⟩
instance {w0:World}{L:List ai}{ae:Cp}{at_:Sl Int}{gen:UInt64}{last:Int}[q0:aU w0 L ae][q1:aU w0 L at_]:aU w0 L (bM.mk ae at_ gen last):=⟨fun w hw=>⟨q0.h w hw,q1.h w hw⟩⟩
def kU:bM:=⟨fX,⟨Sv.none,[]⟩,0,0⟩
structure aP where
 an:bM
 beyond:Bool
def aL(x:aP):Array Value:= #[.int .i64 x.an.ae.pages, .int .i64 x.an.ae.size,x.an.ae.blocks.sv.val, .int .i64 x.an.ae.ops, .bool x.an.ae.off,x.an.ae.aR.sv.val,x.an.at_.sv.val, .int .u64 x.an.gen.toNat, .int .i64 x.an.last, .bool x.beyond]
instance (x:aP):cq (aL x) 0 (.int .i64 x.an.ae.pages):=⟨rfl⟩
instance (x:aP):cq (aL x) 1 (.int .i64 x.an.ae.size):=⟨rfl⟩
instance (x:aP):cq (aL x) 2 (x.an.ae.blocks.sv.val):=⟨rfl⟩
instance (x:aP):cq (aL x) 6 (x.an.at_.sv.val):=⟨rfl⟩
instance (x:aP):cq (aL x) 7 (.int .u64 x.an.gen.toNat):=⟨rfl⟩
instance (x:aP):cq (aL x) 8 (.int .i64 x.an.last):=⟨rfl⟩
instance (x:aP):cq (aL x) 9 (.bool x.beyond):=⟨rfl⟩
instance (x:aP):ob (aL x) 0 9 (bF x.an):=⟨rfl,fun j hj=>by
 match j,hj with
 |0,_=>rfl
 |1,_=>rfl
 |2,_=>rfl
 |3,_=>rfl
 |4,_=>rfl
 |5,_=>rfl
 |6,_=>rfl
 |7,_=>rfl
 |8,_=>rfl⟩
instance (x:aP):ob (aL x) 0 6 (aB x.an.ae):=⟨rfl,fun j hj=>by
 match j,hj with
 |0,_=>rfl
 |1,_=>rfl
 |2,_=>rfl
 |3,_=>rfl
 |4,_=>rfl
 |5,_=>rfl⟩
structure hY where
 w:ax
 pages:Int
 deriving DecidableEq
def dn(x:hY):Array Value:= #[.int .i64 x.w.live, .int .i64 x.w.used, .int .i64 x.w.aS, .bool x.w.bad, .int .i64 x.pages]
instance:bu dn 5:=⟨fun _=>rfl,fun x=>by
 simp only[dn,List.all_toArray,List.all_cons,List.all_nil,Sv.one,qZ,q9,Bool.and_self]⟩
instance (x:hY):fW (dn x) 5:=⟨rfl,bu.one x⟩
instance (x:hY):cq (dn x) 0 (.int .i64 x.w.live):=⟨rfl⟩
instance (x:hY):cq (dn x) 1 (.int .i64 x.w.used):=⟨rfl⟩
instance (x:hY):cq (dn x) 2 (.int .i64 x.w.aS):=⟨rfl⟩
instance (x:hY):cq (dn x) 3 (.bool x.w.bad):=⟨rfl⟩
instance (x:hY):cq (dn x) 4 (.int .i64 x.pages):=⟨rfl⟩
def St:hY:=⟨dH,0⟩
end Go.Kb
namespace Go.aC
open Go.Kb
section
variable {P:Program} {N:cz} {w0:World} {env:Env} {L:List ai} {d:Option Tmp} {ty:TypeId} {ps:String} {af:Array Edge} {gd:Option (Nat×Bool)}
theorem Su{p:Nat}(h:p<2^32):4294967295^^^p=4294967295 -p:=by
 have e:(BitVec.allOnes 32^^^BitVec.ofNat 32 p).toNat=(~~~(BitVec.ofNat 32 p)).toNat:=by rw[BitVec.allOnes_xor]
 rw[BitVec.toNat_xor,BitVec.toNat_not,BitVec.toNat_allOnes,BitVec.toNat_ofNat,Nat.mod_eq_of_lt h]at e
 simpa using e
theorem J6{x:Operand}{a:Int}{p:Nat}{t:TypeId}(hx:ev env x=some (.int .u32 a))(ea:a=(p:Int))(hp:p<2^32):
  Ry P N w0 env L ⟨d, .unOp .xor t x,ty,ps,af,gd⟩ (.int .u32 ((4294967295 -p:Nat):Int)):=fun a w ha _=>by
 subst ea
 have h1:(Op.intBits .xor .u32 4294967295 (p:Int)).run P w= .ok (.int .u32 ((4294967295 -p:Nat):Int)) w:=by
  have e2:(BitVec.ofInt 32 4294967295^^^BitVec.ofInt 32 (p:Int)).toNat=4294967295 -p:=by
   rw[vP,BitVec.toNat_xor,BitVec.toNat_ofNat,Nat.mod_eq_of_lt hp,←Su hp];rfl
  show Sem.run P (pure (Value.int .u32 (IntKind.u32.wrap ((BitVec.ofInt 32 4294967295^^^BitVec.ofInt 32 (p:Int)).toNat:Int)))) w=_
  rw[e2,oX (k:= .u32) (by show 4294967295 -p<4294967296;omega)];rfl
 have h2:Op.unary .xor (.int .u32 (p:Int))=Op.intBits .xor .u32 4294967295 (p:Int):=rfl
 simp only[execOp,ha.ev hx,h2,Sem.run_bind,h1,Sem.run_pure,Result.andThen]
theorem Sw{x y:Operand}{p:Nat}{a:Int}{k':IntKind}{t u:TypeId}(hx:ev env x=some (.int .u64 a))(hy:ev env y=some (.int k' 8))(ea:a=(p:Int))(hp:p*256<2^64):
  Ry P N w0 env L ⟨d, .binOp .shl t x y u,ty,ps,af,gd⟩ (.int .u64 ((p*256:Nat):Int)):=by
 subst ea
 have h:=Iv (P:=P) (N:=N) (w0:=w0) (L:=L) (d:=d) (ty:=ty) (ps:=ps) (af:=af) (gd:=gd) (t:=t) (u:=u) hx hy (by decide)
 have e:IntKind.u64.wrap ((p:Int)*2^min (Int.toNat 8) IntKind.u64.bits)=((p*256:Nat):Int):=by
  have e1:(p:Int)*2^min (Int.toNat 8) IntKind.u64.bits=((p*256:Nat):Int):=by
   rw[show(2:Int)^min (Int.toNat 8) IntKind.u64.bits=256 from by decide];omega
  rw[e1];exact oX hp
 rw[e]at h;exact h
theorem Sx{n many i:Nat}(h:i<many):(List.replicate (many -i) (0:UInt8)++be n i).set (many -1 -i) (b8 (n/256^i))=List.replicate (many -(i+1)) 0++be n (i+1):=by
 rw[List.set_append_left _ _ (by simp;omega)]
 have e:List.replicate (many -i) (0:UInt8)=List.replicate (many -(i+1)) 0++[0]:=by
  rw[show many -i=many -(i+1)+1 by omega,List.replicate_succ',]
 rw[e,List.set_append_right _ _ (by simp;omega)]
 simp only[List.length_replicate,show many -1 -i -(many -(i+1))=0 by omega,List.set_cons_zero,List.append_assoc]
 rfl
end
end Go.aC
namespace Go.Kb
open Go.aC
def cM(n:Int):UInt8:=b8 (n%256).toNat
theorem Sy(n:Nat):cM (n:Int)=b8 n:=by
 unfold cM
 rw[show((n:Int)%256).toNat=n%256 by omega,IE]
theorem wF(n:Int):IntKind.u8.wrap n=((cM n).toNat:Int):=by
 unfold cM
 rw[pV];simp[IntKind.wrap,IntKind.bits,IntKind.signed];omega
def eJ(r:Rt):List UInt8:=
 [if r.p.bits=128 then 1 else 0,cM r.p.len]++(List.range 16).map (fun i=>b8 (cF r.p.key i))++[b8 (r.dN.toNat/256),b8 r.dN.toNat]
theorem oC(r:Rt):(eJ r).length=20:=by simp[eJ]
theorem J7(r:Rt):(eJ r)[0]? =some (if r.p.bits=128 then 1 else 0):=by simp[eJ]
theorem J8(r:Rt):(eJ r)[1]? =some (cM r.p.len):=by simp[eJ]
theorem J9(r:Rt)(i:Nat)(h:i<16):(eJ r)[2+i]? =some (b8 (cF r.p.key i)):=by
 unfold eJ
 rw[List.append_assoc,List.getElem?_append_right (by simp),List.getElem?_append_left (by simp;omega)]
 simp[h]
theorem Ka(r:Rt):(eJ r)[18]? =some (b8 (r.dN.toNat/256)):=by simp[eJ]
theorem Kc(r:Rt):(eJ r)[19]? =some (b8 r.dN.toNat):=by simp[eJ]
theorem Ke(r:Rt){wG:Array Value}(h0:wG.size=20)(hz:wG[0]? =some (.int .u8 (if r.p.bits=128 then 1 else 0:Nat))):
  (((cP (wG.setIfInBounds 1 (.int .u8 (cM r.p.len).toNat)) 2 (cW r.p.key)).setIfInBounds 18 (.int .u8 (b8 (r.dN.toNat/256)).toNat)).setIfInBounds 19 (.int .u8 (b8 r.dN.toNat).toNat))=(aK aM (eJ r)).toArray:=by
 have hs:(cP (wG.setIfInBounds 1 (.int .u8 (cM r.p.len).toNat)) 2 (cW r.p.key)).size=20:=by rw[mQ (by simp[gH,h0])];simpa using h0
 refine Array.ext_getElem? fun j=> ?_
 have hf: ∀b,(eJ r)[j]? =some b→(aK aM (eJ r)).toArray[j]? =some (.int .u8 b.toNat):=fun b hb=>by
  have:=mR (enc:=aM) (eJ r) j b hb 0 (by decide)
  simp only[Nat.mul_one,Nat.add_zero]at this
  simpa[aM]using this
 have hk:2+(cW r.p.key).size≤(wG.setIfInBounds 1 (.int .u8 (cM r.p.len).toNat)).size:=by simp[gH,h0]
 rw[Array.getElem?_setIfInBounds,Array.getElem?_setIfInBounds]
 by_cases Kf:19=j
 ·
  subst Kf;rw[hf _ (Kc r)];simp[hs]
 by_cases yZ:18=j
 ·
  subst yZ;rw[hf _ (Ka r)];simp[hs]
 rw[if_neg Kf,if_neg yZ,uA hk,gH]
 by_cases h2:2≤j∧j<2+16
 ·
  rw[if_pos h2,lM _ _ (by omega)]
  have:=J9 r (j -2) (by omega)
  rw[show 2+(j -2)=j by omega]at this
  rw[hf _ this,pV]
  have:=om r.p.key (j -2)
  rw[Nat.mod_eq_of_lt this]
 rw[if_neg h2,Array.getElem?_setIfInBounds]
 by_cases h1:1=j
 ·
  subst h1;rw[hf _ (J8 r)];simp[h0]
 rw[if_neg h1]
 by_cases hj:j=0
 ·
  subst hj
  rw[hz,hf _ (J7 r)]
  split<;>rfl
 ·
  have e1:wG[j]? =none:=by simp;omega
  rw[e1]
  have:(aK aM (eJ r)).length=20:=by rw[gQ,oC]
  simp;omega
open Go.aC
structure PV where
 kind:Int
 id:Int
 gen:Nat
 body:List UInt8
 deriving DecidableEq
def jr:PV:=⟨0,0,0,[]⟩
def cD(p:eo):PV:=⟨p.kind,p.id,p.gen.toNat,p.body.xs⟩
def lR(n:Int):Bool:=decide (24≤n)&&decide (n≤256)
theorem qd{n:Int}:lR n=true↔24≤n∧n≤256:=by simp only[lR,Bool.and_eq_true,decide_eq_true_eq]
def dv(n:Int):Int:=if lR n=true then n -16 else 0
def kv(p:PV)(n:Int):Bool:=lR n&&(decide (p.kind=1)||decide (p.kind=2))&&decide (0≤p.id)&&decide (p.id<64)&&decide (p.gen<281474976710656)&&decide ((p.body.length:Int)≤dv n)
theorem pj{p:PV}{n:Int}:kv p n=true↔lR n=true∧(p.kind=1∨p.kind=2)∧0≤p.id∧p.id<64∧p.gen<281474976710656∧(p.body.length:Int)≤dv n:=by
 simp only[kv,Bool.and_eq_true,Bool.or_eq_true,decide_eq_true_eq,and_assoc]
def iX(b:List UInt8):Bool:=b.all fun x=>decide (x=255)
theorem y0{b:List UInt8}:iX b=true↔ ∀x∈b,x=255:=by simp only[iX,List.all_eq_true,decide_eq_true_eq]
def iY(p:PV)(n:Nat):List UInt8:=[cM p.kind,cM p.id]++be p.gen 6++be p.body.length 2++p.body++List.replicate (n -4 -10 -p.body.length) 0
def c8(p:PV)(n:Int):List UInt8×Int:=if kv p n=true then(iY p n.toNat++be (lP (iY p n.toNat)) 4,0)else([],1)
def sf(b:List UInt8):PV:=⟨(b.getD 0 0).toNat,(b.getD 1 0).toNat,de ((b.drop 2).take (8 -2)),[]⟩
def gI(b:List UInt8):Nat:=de ((b.drop 8).take (10 -8))
def kV(b:List UInt8):List UInt8:=(b.drop 0).take (b.length -4 -0)
def uV(b:List UInt8):List UInt8:=(b.drop (b.length -4)).take (b.length -(b.length -4))
def mr(b:List UInt8):List UInt8:=((kV b).drop (10+gI b)).take ((kV b).length -(10+gI b))
def tm(b:List UInt8):Bool:=b.all fun x=>decide (x=0)
theorem ET{b:List UInt8}:tm b=true↔ ∀x∈b,x=0:=by simp only[tm,List.all_eq_true,decide_eq_true_eq]
def na(b:List UInt8):Bool:=decide ((gI b:Int)≤dv b.length)&&kv (sf b) b.length
def cr(b:List UInt8):PV×Int:=
 if lR b.length=false then(jr,3)
 else if iX b=true then(jr,0)
 else if de (uV b)≠lP (kV b)then(jr,4)
 else if na b=false then(jr,2)
 else if tm (mr b)=false then(jr,2)
 else({sf b with body:=(b.drop 10).take (10+gI b -10)},0)
theorem Kg(b:List UInt8):gI b<65536:=by
 have h:=JH ((b.drop 8).take (10 -8))
 have h2:((b.drop 8).take (10 -8)).length≤2:=by rw[List.length_take];omega
 have h3:=Nat.pow_le_pow_right (show 0<256 by decide) h2
 rw[gI];omega
theorem EU(b:List UInt8):de ((b.drop 2).take (8 -2))<281474976710656:=by
 have h:=JH ((b.drop 2).take (8 -2))
 have h2:((b.drop 2).take (8 -2)).length≤6:=by rw[List.length_take];omega
 have h3:=Nat.pow_le_pow_right (show 0<256 by decide) h2
 omega
def sg(b:List UInt8):eo:=⟨(b.getD 0 0).toNat,(b.getD 1 0).toNat,UInt64.ofNat (de ((b.drop 2).take (8 -2))),⟨Sv.none,[]⟩⟩
theorem Kh(b:List UInt8):(UInt64.ofNat (de ((b.drop 2).take (8 -2)))).toNat=de ((b.drop 2).take (8 -2)):=by
 have:=EU b
 rw[UInt64.toNat_ofNat'];omega
theorem Ki(b:List UInt8)(s:Sv)(l:List UInt8):cD {sg b with body:=⟨s,l⟩}={sf b with body:=l}:=by
 simp only[cD,sg,Kh];rfl
theorem EV(b:List UInt8):cD (sg b)=sf b:=Ki b Sv.none []
theorem Sz(b:List UInt8):(kV b).length=b.length -4:=by rw[kV,List.length_take,List.length_drop];omega
theorem SA{M:Nat}{k d:UInt8}(h:2≤M):((List.replicate M (0:UInt8)).set 0 k).set 1 d=[k,d]++List.replicate (M -2) 0:=by
 obtain⟨m,rfl⟩: ∃m,M=m+2:=⟨M -2,by omega⟩
 simp[List.replicate_succ]
theorem EW{A Y:List UInt8}{k N:Nat}(hk:k=A.length):(A++List.replicate N 0).take k++(Y++(A++List.replicate N 0).drop (k+Y.length))=A++Y++List.replicate (N -Y.length) 0:=by
 subst hk
 rw[List.take_left',List.drop_append,List.drop_eq_nil_of_le (by omega),Nat.add_sub_cancel_left,List.drop_replicate,List.nil_append,List.append_assoc]
 rfl
theorem SB{p:PV}{n:Nat}(h:p.body.length+14≤n):(iY p n).length=n -4:=by
 simp only[iY,List.length_append,hO,List.length_replicate,List.length_cons,List.length_nil];omega
theorem EX(b:List UInt8):(cr b).1.body.length≤65536:=by
 have h:=Kg b
 rw[cr]
 split
 ·
  simp[jr]
 ·
  split
  ·
   simp[jr]
  ·
   split
   ·
    simp[jr]
   ·
    split
    ·
     simp[jr]
    ·
     split
     ·
      simp[jr]
     ·
      simp only[List.length_take];omega
open Go.aC
structure RV where
 gen:Nat
 at_:List Int
 deriving DecidableEq
def gx:RV:=⟨0,[]⟩
def df(r:dd):RV:=⟨r.gen.toNat,r.at_.xs⟩
def jt(n:Int):Int:=min 64 (dv n/2)
def uW(x:Int):Bool:=decide (0≤x)&&decide (x≤65535)
theorem y4{x:Int}:uW x=true↔0≤x∧x≤65535:=by simp only[uW,Bool.and_eq_true,decide_eq_true_eq]
def mu(r:RV)(n:Int):Bool:= !decide (dv n=0)&&decide (r.gen<281474976710656)&&decide ((r.at_.length:Int)≤jt n)&&r.at_.all uW
theorem tn{r:RV}{n:Int}:mu r n=true↔dv n≠0∧r.gen<281474976710656∧(r.at_.length:Int)≤jt n∧ ∀x∈r.at_,uW x=true:=by
 simp only[mu,Bool.and_eq_true,Bool.not_eq_true',decide_eq_true_eq,decide_eq_false_iff_not,and_assoc,List.all_eq_true,ne_eq]
def pn(b:List UInt8)(i:Nat):Int:=((qT (b.getD (2*i) 0) (b.getD (2*i+1) 0)).toNat:Int)
def nK(b:List UInt8):List Int:=(List.range (b.length/2)).map (pn b)
def sh(p:PV):Bool:=decide (p.kind=2)&&decide (p.body.length%2=0)&&decide (p.id=max 0 ((p.body.length/2:Nat) -1:Int))
def bB(b:List UInt8):RV×Int:=
 if(cr b).2≠0 then(gx,(cr b).2)
 else if(cr b).1.kind=0 then(gx,6)
 else if sh (cr b).1=false then(gx,2)
 else(⟨(cr b).1.gen,nK (cr b).1.body⟩,0)
def BL(x:Int):List UInt8:=[cM (x/256),cM x]
def fZ(l:List Int):List UInt8:=(l.map BL).flatten
def cN(r:RV)(n:Int):List UInt8×Int:=if mu r n=true then c8 ⟨2,max 0 ((r.at_.length:Int) -1),r.gen,fZ r.at_⟩ n else([],1)
theorem SC{b:List UInt8}{i:Nat}(h:i<b.length/2):(nK b).take (i+1)=(nK b).take i++[pn b i]:=by
 rw[List.take_add_one,nK,List.getElem?_map,List.getElem?_range h];rfl
theorem BM(b:List UInt8):(nK b).length=b.length/2:=by simp[nK]
theorem SD{l:List Int}{i:Nat}{x:Int}(h:l[i]? =some x):fZ (l.take (i+1))=fZ (l.take i)++BL x:=by
 simp[fZ,List.take_add_one,h]
theorem wH(l:List Int):(fZ l).length=2*l.length:=by
 induction l with
 |nil=>rfl
 |cons x l ih=>
  have:fZ (x::l)=BL x++fZ l:=by simp[fZ]
  rw[this,List.length_append,ih]
  simp only[BL,List.length_cons,List.length_nil];omega
structure NS where
 at_:Int
 new:RV
 found:Bool
 blank:Bool
 deriving DecidableEq
def uX(s:NS)(i:Nat)(b:List UInt8):NS:=
 if(bB b).2=0∧(s.found=false∨s.new.gen≤(bB b).1.gen)then⟨i,(bB b).1,true,s.blank&&iX b⟩else{s with blank:=s.blank&&iX b}
def dj(l:List (List UInt8)):Nat→NS
 |0=>⟨0,gx,false,true⟩
 |k+1=>uX (dj l k) k (l.getD k [])
def fh(l:List (List UInt8)):Int×RV×Int:=
 if(dj l l.length).found=true then((dj l l.length).at_,(dj l l.length).new,0)else if(dj l l.length).blank=true then(0,gx,6)else(0,gx,2)
theorem Kj{l:List (List UInt8)}{i:Nat}{b:List UInt8}(hb:l[i]? =some b)(h:(bB b).2=0∧((dj l i).found=false∨(dj l i).new.gen≤(bB b).1.gen)):dj l (i+1)=⟨i,(bB b).1,true,(dj l i).blank&&iX b⟩:=by
 rw[dj,show l.getD i []=b by simp[List.getD,hb],uX,if_pos h]
theorem Kk{l:List (List UInt8)}{i:Nat}{b:List UInt8}(hb:l[i]? =some b)(h: ¬((bB b).2=0∧((dj l i).found=false∨(dj l i).new.gen≤(bB b).1.gen))):dj l (i+1)={dj l i with blank:=(dj l i).blank&&iX b}:=by
 rw[dj,show l.getD i []=b by simp[List.getD,hb],uX,if_neg h]
open Go.aC
structure VV where
 ae:CV
 at_:List Int
 gen:Nat
 last:Int
 deriving DecidableEq
def SE:CV:=⟨0,0,[],0,false,[]⟩
def j6:VV:=⟨SE,[],0,0⟩
def vv(v:bM):VV:=⟨cv v.ae,v.at_.xs,v.gen.toNat,v.last⟩
def fB(c:CV):Bool:=aT c&&decide (4≤(c.blocks.length:Int))&&decide (2≤c.pages)&&decide (24≤c.size)
theorem fv{c:CV}:fB c=true↔aT c=true∧4≤(c.blocks.length:Int)∧2≤c.pages∧24≤c.size:=by simp only[fB,Bool.and_eq_true,decide_eq_true_eq,and_assoc]
def bJ(c:CV)(k:Int):List UInt8:=(aj c (k/c.pages)).pages.getD (k%c.pages).toNat []
def jJ(c:CV)(k:Int):Bool:=decide (2≤k/c.pages)&&decide (k/c.pages<(c.blocks.length:Int))&&decide (k%c.pages<(aj c (k/c.pages)).used)
theorem lj{c:CV}{k:Int}:jJ c k=true↔2≤k/c.pages∧k/c.pages<(c.blocks.length:Int)∧k%c.pages<(aj c (k/c.pages)).used:=by simp only[jJ,Bool.and_eq_true,decide_eq_true_eq,and_assoc]
def BN(p:PV×Int)(id:Int):Bool:=decide (p.2=0)&&decide (p.1.kind=1)&&decide (p.1.id=id)
def lS(c:CV)(id n:Int):Bool:=jJ c (n -1)&&BN (cr (bJ c (n -1))) id
theorem SF(c:CV):{wA c c.aR with off:=c.off}=c:=by
 rw[wA];split<;>rfl
open Go.aC
def po(c:CV)(l:List Int)(i:Nat):Bool:=decide (l.getD i 0=0)||(!(l.take i).contains (l.getD i 0)&&lS c (i:Int) (l.getD i 0))
def ra(c:CV)(l:List Int):Bool:=(List.range l.length).all (po c l)
theorem y5{c:CV}{l:List Int}:ra c l=true↔ ∀i,i<l.length→po c l i=true:=by simp only[ra,List.all_eq_true,List.mem_range]
def jK(l:List Int)(i:Nat):Int→Option Unit:=fun x=>if x≠0∧x∈l.take i then some ()else none
theorem y6{l:List Int}{i:Nat}{x:Int}:(jK l i x).isSome=decide (x≠0∧x∈l.take i):=by
 unfold jK;split<;>simp_all
theorem Kl{l:List Int}:(fun _=>none)=jK l 0:=by
 funext x;simp[jK]
theorem Km{l:List Int}{i:Nat}(h:l[i]? =some 0):jK l (i+1)=jK l i:=by
 funext x
 unfold jK
 rw[List.take_add_one,h]
 by_cases hx:x=0
 ·
  simp[hx]
 ·
  simp[hx]
theorem Kn{l:List Int}{i:Nat}{y:Int}(h:l[i]? =some y)(hy:y≠0):(fun z=>if z=y then some ()else jK l i z)=jK l (i+1):=by
 funext x
 unfold jK
 rw[List.take_add_one,h]
 by_cases hx:x=y
 ·
  subst hx;simp[hy]
 ·
  simp[hx]
theorem nL{l:List Int}{i:Nat}{y:Int}(h:l[i]? =some y):l.getD i 0=y:=by simp[List.getD,h]
def eX(l:List (Sl (Sl UInt8))):List (Sl UInt8):=(l.map Sl.xs).flatten
theorem BO{l:List (Sl (Sl UInt8))}{i:Nat}{x:Sl (Sl UInt8)}(h:l[i]? =some x):eX (l.take (i+1))=eX (l.take i)++x.xs:=by
 rw[eX,List.take_add_one,h];simp[eX]
theorem SG(l:List (Sl (Sl UInt8)))(i:Nat):(eX (l.take i)).length≤(eX l).length:=by
 have e:eX l=eX (l.take i)++eX (l.drop i):=by
  unfold eX
  rw[←List.flatten_append,←List.map_append,List.take_append_drop]
 rw[e,List.length_append];omega
class Ko(w0:World)(l:List (Sl UInt8)):Prop where
 h: ∀y∈l,Deep.aY (hp w0) y
instance aU.row{w0:World}{L:List ai}{x:Sv}{l:List (Sl UInt8)}{i:Nat}[q:fD L x (bY (τ:=UInt8)) 1 l i][m:Ko w0 l]:aU w0 L (⟨x,l⟩:Sl (Sl UInt8)):=
 ⟨fun w hw=>⟨(hw.get q.h).1,fun y hy=>Deep.mono w0 w y (m.h y hy) hw.below⟩⟩
open Go.aC
def bN(c:CV):Int×RV×Int:=fh ((aj c 0).pages++(aj c 1).pages)
def ll(c:CV):Bool:=decide ((bN c).1%c.pages<(aj c ((bN c).1/c.pages)).used)&&ra c (bN c).2.1.at_
def bw(c:CV):VV×Int:=
 if fB c=false then(j6,1)
 else if c.off=true then(j6,7)
 else if(bN c).2.2≠0 then(j6,(bN c).2.2)
 else if ll c=false then(j6,2)
 else(⟨c,(bN c).2.1.at_,(bN c).2.1.gen,(bN c).1/c.pages⟩,0)
theorem Kq(l:List (List UInt8)): ∀k,k≤l.length→(dj l k).at_=0∨(0≤(dj l k).at_∧(dj l k).at_<k)
 |0,_=> .inl rfl
 |k+1,h=>by
  have:=Kq l k (by omega)
  rw[dj,uX]
  split
  ·
   exact .inr ⟨by simp only;omega,by simp only;omega⟩
  ·
   simp only;omega
theorem EY{l:List (List UInt8)}(h:0<l.length):0≤(fh l).1∧(fh l).1<l.length:=by
 have:=Kq l l.length (Nat.le_refl _)
 rw[fh]
 split
 ·
  simp only;omega
 ·
  split<;>(simp only;omega)
theorem SH(b:List UInt8): ∀x∈nK b,0≤x∧x≤65535:=by
 intro x hx
 obtain⟨i,_,rfl⟩:=List.mem_map.1 hx
 have:=(qT (b.getD (2*i) 0) (b.getD (2*i+1) 0)).toNat_lt
 simp only[pn];omega
theorem SI(b:List UInt8): ∀x∈(bB b).1.at_,0≤x∧x≤65535:=by
 rw[bB]
 split
 ·
  simp[gx]
 ·
  split
  ·
   simp[gx]
  ·
   split
   ·
    simp[gx]
   ·
    exact SH _
theorem Kr(l:List (List UInt8)): ∀k,∀x∈(dj l k).new.at_,0≤x∧x≤65535
 |0=>by simp[dj,gx]
 |k+1=>by
  have:=Kr l k
  rw[dj,uX]
  split
  ·
   exact SI _
  ·
   exact this
theorem Ks(l:List (List UInt8)): ∀x∈(fh l).2.1.at_,0≤x∧x≤65535:=by
 rw[fh]
 split
 ·
  exact Kr _ _
 ·
  split<;>simp[gx]
theorem EZ(a b:Sl (Sl UInt8)):aJ (eX [a,b])=aJ a.xs++aJ b.xs:=by simp[aJ,eX]
theorem E3{c:Cp}{i:Nat}{B:Bk}(h:c.blocks.xs[i]? =some B):aj (cv c) (i:Int)=bv B:=by
 rw[←uU];simp[List.getD,h]
theorem SJ(b:List UInt8):(bB b).1.at_.length≤65536:=by
 have h:=EX b
 rw[bB]
 split
 ·
  simp[gx]
 ·
  split
  ·
   simp[gx]
  ·
   split
   ·
    simp[gx]
   ·
    simp only[BM];omega
theorem Kt(l:List (List UInt8)): ∀k,(dj l k).new.at_.length≤65536
 |0=>by simp[dj,gx]
 |k+1=>by
  have:=Kt l k
  rw[dj,uX]
  split
  ·
   exact SJ _
  ·
   exact this
theorem SK(l:List (List UInt8)):(fh l).2.1.at_.length≤65536:=by
 rw[fh]
 split
 ·
  exact Kt _ _
 ·
  split<;>simp[gx]
theorem Ku(c:CV):(bw c).1.at_.length≤65536:=by
 have h:=SK ((aj c 0).pages++(aj c 1).pages)
 rw[bw]
 split
 ·
  simp[j6]
 ·
  split
  ·
   simp[j6]
  ·
   split
   ·
    simp[j6]
   ·
    split
    ·
     simp[j6]
    ·
     exact h
theorem E4{c:CV}(h:(bw c).2=0):fB c=true:=by
 cases hb:fB c with
 |true=>rfl
 |false=>rw[bw,if_pos hb]at h;cases h
def kx(x:VV):Bool:=decide ((bw {x.ae with off:=false}).2=0)&&decide ((bw {x.ae with off:=false}).1.gen=x.gen)&&decide ((bw {x.ae with off:=false}).1.last=x.last)&&decide ((bw {x.ae with off:=false}).1.at_=x.at_)
theorem SL{w0 w:World}{L:List ai}(h:Mem w0 L w):Mem w0 (fz fX::L) w:=
 BA (d:=fX) (Mem.freeze (es:=[]) _ ⟨bQ.nil _ _ _,fun x hx=>by cases hx⟩ (fun k hk=>by
  rcases hk with⟨bW,_⟩|⟨x,hx,_⟩
  ·
   exact absurd rfl bW
  ·
   cases hx) (J2 (s:=Sv.none) Sv.vW rfl h))
class Kv(a:Cp)(b:outParam Cp):Prop where
 h:a=b
instance aU.abN{w0:World}{L:List ai}{v:bM}{c:Cp}[e:Kv v.ae c][q1:aU w0 L c][q2:aU w0 L v.at_]:aU w0 L v:=
 ⟨fun w hw=>⟨by rw[e.h];exact q1.h w hw,q2.h w hw⟩⟩
def iC(c:CV)(n:Int):List UInt8:=if(cr (bJ c (n -1))).2=0 then(cr (bJ c (n -1))).1.body else[]
open Go.aC
theorem E5{c:CV}(h:(bw c).2=0):fB c=true∧ll c=true∧bw c=(⟨c,(bN c).2.1.at_,(bN c).2.1.gen,(bN c).1/c.pages⟩,0):=by
 have hb:=E4 h
 by_cases h1:c.off=true
 ·
  rw[bw,if_neg (by rw[hb];simp),if_pos h1]at h;cases h
 ·
  by_cases h2:(bN c).2.2≠0
  ·
   rw[bw,if_neg (by rw[hb];simp),if_neg h1,if_pos h2]at h;exact absurd h h2
  ·
   cases h3:ll c with
   |false=>rw[bw,if_neg (by rw[hb];simp),if_neg h1,if_neg h2,if_pos h3]at h;cases h
   |true=>exact⟨hb,rfl,by rw[bw,if_neg (by rw[hb];simp),if_neg h1,if_neg h2,if_neg (by rw[h3];simp)]⟩
theorem y7{x:VV}(h:kx x=true):aT x.ae=true∧ra x.ae x.at_=true∧ ∀y∈x.at_,0≤y∧y≤65535:=by
 simp only[kx,Bool.and_eq_true,decide_eq_true_eq]at h
 obtain⟨⟨⟨h1,h2⟩,h3⟩,h4⟩:=h
 obtain⟨hb,hl,hf⟩:=E5 h1
 rw[hf]at h4
 simp only at h4
 simp only[ll,Bool.and_eq_true,decide_eq_true_eq]at hl
 rw[h4]at hl
 refine⟨(fv.1 hb).1,hl.2,?_⟩
 rw[←h4]
 exact Ks _
theorem Kw{x:VV}(h:kx x=true){i:Nat}{y:Int}(hy:x.at_[i]? =some y)(h0:y≠0):1≤y∧y≤1000000∧jJ x.ae (y -1)=true:=by
 obtain⟨h1,h2,h3⟩:=y7 h
 have hr:=h3 y (List.mem_of_getElem? hy)
 have hp:=y5.1 h2 i (List.getElem?_eq_some_iff.1 hy).1
 rw[po,nL hy]at hp
 simp only[Bool.or_eq_true,decide_eq_true_eq,Bool.and_eq_true]at hp
 rcases hp with hp|hp
 ·
  exact absurd hp h0
 ·
  have hn:=hp.2
  rw[lS,Bool.and_eq_true]at hn
  exact⟨by omega,by omega,hn.1⟩
open Go.aC
def lT(l:List Int)(j:Nat):Bool:=decide (l.getD j 0≠0)&& !(l.take j).contains (l.getD j 0)
def ju(pages:Int)(l:List Int)(k i:Nat):Nat:=((List.range k).filter fun j=>lT l j&&decide ((l.getD j 0 -1)/pages=(i:Int)+2)).length
def rb(b:BV)(live:Nat):ax:=⟨live,b.used,b.aS,b.bad⟩
def jv(c:CV)(l:List Int)(k:Nat):List ax:=(List.range (c.blocks.length -2)).map fun i:Nat=>rb (aj c ((i:Int)+2)) (ju c.pages l k i)
def iD(c:CV)(l:List Int):List ax:=jv c l l.length
theorem wI(c:CV)(l:List Int)(k:Nat):(jv c l k).length=c.blocks.length -2:=by simp[jv]
theorem y8(pages:Int)(l:List Int)(k i:Nat):ju pages l (k+1) i=ju pages l k i+(if lT l k&&decide ((l.getD k 0 -1)/pages=(i:Int)+2)then 1 else 0):=by
 rw[ju,List.range_succ,List.filter_append,List.length_append,ju]
 congr 1
 simp only[List.filter_cons,List.filter_nil]
 split<;>rfl
theorem SM{c:CV}{l:List Int}{k:Nat}(h:lT l k=false):jv c l (k+1)=jv c l k:=by
 refine List.map_congr_left fun i _=> ?_
 rw[y8,h];simp
theorem SN{l:List Int}{i:Nat}{y:Int}(h:l[i]? =some y)(hy:y≠0∧y∈l.take i):jK l (i+1)=jK l i:=by
 funext x
 unfold jK
 rw[List.take_add_one,h]
 by_cases hx:x=y
 ·
  subst hx;simp[hy.1,hy.2]
 ·
  simp[hx]
theorem SO{c:CV}{l:List Int}{k i:Nat}{x:ax}(h:lT l k=true)(hi:(l.getD k 0 -1)/c.pages=(i:Int)+2)(hx:(jv c l k)[i]? =some x):jv c l (k+1)=(jv c l k).set i {x with live:=x.live+1}:=by
 have eP:i<c.blocks.length -2:=by have:=(List.getElem?_eq_some_iff.1 hx).1;rwa [wI]at this
 have jL:x=rb (aj c ((i:Int)+2)) (ju c.pages l k i):=by
  rw[jv,List.getElem?_map,List.getElem?_range eP]at hx
  exact(Option.some.inj hx).symm
 refine List.ext_getElem? fun j=> ?_
 rw[List.getElem?_set]
 by_cases hj:i=j
 ·
  subst hj
  rw[if_pos rfl,if_pos (by rw[wI];exact eP),jv,List.getElem?_map,List.getElem?_range eP,Option.map_some,y8,h,hi,jL]
  simp[rb]
 ·
  rw[if_neg hj,jv,jv,List.getElem?_map,List.getElem?_map]
  rcases Nat.lt_or_ge j (c.blocks.length -2)with jj|jj
  ·
   rw[List.getElem?_range jj,Option.map_some,Option.map_some,y8,h,hi]
   simp only[Bool.true_and]
   rw[decide_eq_false (by omega)];simp
  ·
   rw[List.getElem?_eq_none (by simpa using jj)];rfl
def aw(l:List (Sl Int)):List Int:=(l.map Sl.xs).flatten
theorem Kx{l:List (Sl Int)}{i:Nat}{x:Sl Int}(h:l[i]? =some x):aw (l.take (i+1))=aw (l.take i)++x.xs:=by
 rw[aw,List.take_add_one,h];simp[aw]
theorem SP{l:List (Sl Int)}{i j:Nat}{x:Sl Int}{y:Int}(h:l[i]? =some x)(hy:x.xs[j]? =some y):(aw l)[(aw (l.take i)).length+j]? =some y:=by
 have hj:=(List.getElem?_eq_some_iff.1 hy).1
 have e:aw l=aw (l.take (i+1))++aw (l.drop (i+1)):=by
  unfold aw
  rw[←List.flatten_append,←List.map_append,List.take_append_drop]
 rw[e,Kx h,List.getElem?_append_left (by rw[List.length_append];omega),List.getElem?_append_right (by omega),Nat.add_sub_cancel_left,hy]
def qe(c:CV)(l:List Int):Prop:=(aT c=true∧l.length≤1000000)∧2≤c.blocks.length∧ ∀n∈l,n=0∨(1≤n∧n≤1000000∧2≤(n -1)/c.pages∧(n -1)/c.pages<(c.blocks.length:Int))
theorem SQ(c:CV)(l:List Int):jv c l 0=(List.range (c.blocks.length -2)).map fun i:Nat=>rb (aj c ((i:Int)+2)) 0:=by
 refine List.map_congr_left fun i _=> ?_
 simp[ju]
theorem Ky(pages:Int)(l:List Int)(k i:Nat):ju pages l k i≤k:=by
 rw[ju]
 exact Nat.le_trans (List.length_filter_le _ _) (by simp)
theorem SR{c:CV}{l:List Int}{k i:Nat}{z:ax}(h:(jv c l k)[i]? =some z):0≤z.live∧z.live≤k:=by
 rw[jv,List.getElem?_map,Option.map_eq_some_iff]at h
 obtain⟨j,_,rfl⟩:=h
 have:=Ky c.pages l k j
 simp only[rb];omega
open Go.aC
def tp(a b:Int):Int:=if a<b then -1 else if b<a then 1 else 0
def ln(p:Int)(x:ax):Bool:= !x.bad&&decide (x.used<p)
def kW(x:ax):Bool:= !x.bad&&decide (x.live=0)&&decide (0<x.used)
def uY(p:Int)(x:ax):Bool:=if x.bad=true then decide (0<x.live)else decide (x.used=p)&&decide (0<x.live)&&decide (x.live<p)
def wJ(a b:ax):Int:=tp b.used a.used
def qf(a b:ax):Int:=tp a.aS b.aS
def E6(a b:ax):Int:=tp a.live b.live
def wK(a b:ax):Int:=if a.bad=b.bad then 0 else if a.bad=true then -1 else 1
def tq(p:Int)(x:ax):Bool:=decide (0≤x.live)&&decide (x.live≤x.used)&&decide (x.used≤p)&&decide (0≤x.aS)&&decide (x.aS≤cI)
theorem pq{p:Int}{x:ax}:tq p x=true↔0≤x.live∧x.live≤x.used∧x.used≤p∧0≤x.aS∧x.aS≤cI:=by
 simp only[tq,Bool.and_eq_true,decide_eq_true_eq,and_assoc]
def ky(l:List ax)(p:Int):Bool:=decide (1≤(l.length:Int))&&decide ((l.length:Int)≤32)&&decide (1≤p)&&decide (p≤16)&&l.all (tq p)
theorem qg{l:List ax}{p:Int}:ky l p=true↔1≤(l.length:Int)∧(l.length:Int)≤32∧1≤p∧p≤16∧ ∀x∈l,tq p x=true:=by
 simp only[ky,Bool.and_eq_true,decide_eq_true_eq,and_assoc,List.all_eq_true]
def qh(a b:ax):List (ax→ax→Int)→Bool
 |[]=>false
 |o::r=>if o a b≠0 then decide (o a b<0)else qh a b r
def wL(l:List ax)(dR:ax→Bool)(os:List (ax→ax→Int))(i:Nat)(s:Int×Bool):Int×Bool:=
 if dR (l.getD i dH)=true∧(s.2=false∨qh (l.getD i dH) (l.getD s.1.toNat dH) os=true)then((i:Int),true)else s
def gS(l:List ax)(dR:ax→Bool)(os:List (ax→ax→Int)):Nat→Int×Bool
 |0=>(0,false)
 |k+1=>wL l dR os k (gS l dR os k)
def fj(l:List ax)(p:Int)(dR:ax→Bool)(os:List (ax→ax→Int)):Int×Bool:=
 if ky l p=true then gS l dR os l.length else(0,false)
def eE(l:List ax)(p:Int):Int×Bool:=fj l p (ln p) [wJ,qf]
def eK(l:List ax)(p:Int):Int×Bool:=fj l p kW [qf]
def qi(l:List ax)(p:Int):Int×Bool:=fj l p (uY p) [wK,E6,qf]
def mv(p:Int)(x:ax):Int:=if kW x=true then p else if ln p x=true then p -x.used else 0
def fk:List Int→Int
 |[]=>0
 |x::r=>x+fk r
def y9(l:List ax)(p:Int):Int:=if ky l p=true then fk (l.map (mv p))else 0
theorem Kz(a b:List Int):fk (a++b)=fk a+fk b:=by
 induction a with
 |nil=>simp[fk]
 |cons x r ih=>simp only[List.cons_append,fk,ih];omega
theorem E7(l:List ax)(dR:ax→Bool)(os:List (ax→ax→Int)): ∀k,0≤(gS l dR os k).1∧(gS l dR os k).1≤k∧((gS l dR os k).2=true→(gS l dR os k).1<k∧dR (l.getD (gS l dR os k).1.toNat dH)=true)
 |0=>⟨by simp[gS],by simp[gS],fun h=>by simp[gS]at h⟩
 |k+1=>by
  obtain⟨h1,h2,h3⟩:=E7 l dR os k
  rw[gS,wL]
  split
  ·
   rename_i h
   exact⟨by simp only;omega,by simp only;omega,fun _=>⟨by simp only;omega,by simpa using h.1⟩⟩
  ·
   exact⟨h1,by omega,fun h=>⟨by have:=(h3 h).1;omega,(h3 h).2⟩⟩
theorem KA{l:List ax}{dR:ax→Bool}{os:List (ax→ax→Int)}: ∀{k},(gS l dR os k).2=false→ ∀i,i<k→dR (l.getD i dH)=false
 |0,_,i,hi=>by omega
 |k+1,h,i,hi=>by
  rw[gS,wL]at h
  split at h
  ·
   cases h
  ·
   rename_i hn
   by_cases e:i=k
   ·
    subst e
    cases hr:dR (l.getD i dH)with
    |false=>rfl
    |true=>exact absurd ⟨hr, .inl h⟩ hn
   ·
    exact KA h i (by omega)
theorem wM{l:List ax}{p:Int}{dR:ax→Bool}{os:List (ax→ax→Int)}(h:(fj l p dR os).2=true):ky l p=true∧0≤(fj l p dR os).1∧(fj l p dR os).1<l.length∧dR (l.getD (fj l p dR os).1.toNat dH)=true:=by
 unfold fj at h⊢
 split at h
 ·
  rename_i hw
  rw[if_pos hw]
  obtain⟨h1,h2,h3⟩:=E7 l dR os l.length
  exact⟨hw,h1,(h3 h).1,(h3 h).2⟩
 ·
  cases h
theorem re{l:List ax}{p:Int}{dR:ax→Bool}{os:List (ax→ax→Int)}(hw:ky l p=true)(h:(fj l p dR os).2=false): ∀x∈l,dR x=false:=fun x hx=>by
 unfold fj at h
 rw[if_pos hw]at h
 obtain⟨i,hi⟩:=List.getElem?_of_mem hx
 have eP:=(List.getElem?_eq_some_iff.1 hi).1
 have:=KA h i eP
 rwa [show l.getD i dH=x by simp[List.getD,hi]]at this
theorem wN{α:Type}{l:List α}{i:Nat}{e:α}(he:l[i]? =some e):l.drop i=e::l.drop (i+1):=by
 obtain⟨hi,rfl⟩:=List.getElem?_eq_some_iff.1 he
 rw[List.getElem_cons_drop]
theorem SS{p:Int}{x:ax}(h:tq p x=true)(hp:1≤p):0≤mv p x∧mv p x≤p:=by
 obtain⟨h1,h2,h3,_⟩:=pq.1 h
 rw[mv]
 split
 ·
  omega
 ·
  split<;>omega
theorem KB(p:Int): ∀l:List ax,(∀x∈l,tq p x=true)→1≤p→0≤fk (l.map (mv p))∧fk (l.map (mv p))≤(l.length:Int)*p
 |[],_,_=>by simp[fk]
 |x::r,h,hp=>by
  have h1:=KB p r (fun y hy=>h y (List.mem_cons_of_mem _ hy)) hp
  have h2:=SS (h x List.mem_cons_self) hp
  rw[List.map_cons,fk,List.length_cons,Int.natCast_add,Int.add_mul]
  omega
theorem room_le{n:Nat}{p:Int}(h:n≤32)(h1:1≤p)(h2:p≤16):(n:Int)*p≤512:=by
 have:(n:Int)*p≤32*16:=Int.mul_le_mul (by omega) h2 (by omega) (by omega)
 omega
open Go.aC
structure dw(c d:CV):Prop where
 pages:d.pages=c.pages
 size:d.size=c.size
 len:d.blocks.length=c.blocks.length
theorem dw.cX(c:CV):dw c c:=⟨rfl,rfl,rfl⟩
theorem dw.trans{c d e:CV}(h:dw c d)(g:dw d e):dw c e:=⟨g.pages.trans h.pages,g.size.trans h.size,g.len.trans h.len⟩
theorem SU(c:CV)(b g:Int)(p:List UInt8):dw c (fK c b g p):=by
 rw[fK];split
 ·
  exact⟨rfl,rfl,by simp[gR]⟩
 ·
  exact .cX c
theorem SV(c:CV)(b:Int):dw c (fA c b):=by
 rw[fA];split
 ·
  exact⟨rfl,rfl,by simp[jZ]⟩
 ·
  exact .cX c
theorem SW(c:CV)(b:Int):dw c (ku c b):=by
 rw[ku];split
 ·
  exact⟨rfl,rfl,by simp⟩
 ·
  exact .cX c
theorem E8{c:CV}(h:aT c=true){o:Int}{f:Bool}(h0:0≤o)(h1:o≤cI){i:Nat}{B:BV}(hB:mo c.pages c.size B=true):aT {c with ops:=o,off:=f,blocks:=c.blocks.set i B}=true:=by
 obtain⟨k1,k2,k3,k4,k5⟩:=eU.1 h
 refine eU.2 ⟨by simpa using k1,h0,h1,k4,fun b hb=> ?_⟩
 rcases List.mem_or_eq_of_mem_set hb with hb|rfl
 ·
  exact k5 b hb
 ·
  exact hB
theorem E9{c:CV}(h:aT c=true)(b g:Int)(p:List UInt8):aT (fK c b g p)=true:=by
 rw[fK];split
 ·
  rename_i hk
  obtain⟨k1,k2,k3,k4⟩:=hk
  obtain⟨j1,j2,j3,j4,j5⟩:=iW.1 k1
  obtain⟨o1,o2,o3,o4,o5,o6⟩:=dX.1 (oB j1)
  have:=(eU.1 h).2.1
  refine E8 h (by omega) (by omega) (dX.2 ⟨by simpa using o1,by simp only;omega,by simp only;omega,o4,o5,fun x hx=> ?_⟩)
  rcases List.mem_or_eq_of_mem_set hx with hx|rfl
  ·
   exact o6 x hx
  ·
   rw[mZ];split
   ·
    simpa[cQ]using j4
   ·
    exact j4
 ·
  exact h
theorem Fa{c:CV}(h:aT c=true)(b:Int):aT (fA c b)=true:=by
 rw[fA];split
 ·
  rename_i hk
  obtain⟨k1,k2,k3⟩:=hk
  obtain⟨j1,j2,j3⟩:=nJ.1 k1
  obtain⟨o1,o2,o3,o4,o5,o6⟩:=dX.1 (oB j1)
  have:=(eU.1 h).2.1
  have hs:=jI.1 (eU.1 h).1
  have hl:(qc c (aj c b).pages).length=(aj c b).pages.length:=by rw[qc];split<;>simp
  refine E8 h (by omega) (by omega) (dX.2 ⟨by rw[hl];exact o1,?_,?_,by simp only;omega,by simp only;omega,fun x hx=> ?_⟩)
  ·
   simp only;split<;>omega
  ·
   simp only;split<;>omega
  ·
   rw[qc]at hx
   split at hx
   ·
    obtain⟨y,hy,rfl⟩:=List.mem_map.1 hx
    simpa[cQ]using o6 y hy
   ·
    obtain⟨y,hy,rfl⟩:=List.mem_map.1 hx
    simp only[gw,List.length_replicate];omega
 ·
  exact h
theorem KC{c:CV}(h:aT c=true)(b:Int):aT (ku c b)=true:=by
 rw[ku];split
 ·
  rename_i hk
  have hh:fY c b=true:=by
   rw[m7]at hk
   split at hk
   ·
    assumption
   ·
    cases hk
  obtain⟨o1,o2,o3,o4,o5,o6⟩:=dX.1 (oB hh)
  have k:=eU.1 h
  exact E8 (o:=c.ops) (f:=c.off) h k.2.1 k.2.2.1 (dX.2 ⟨o1,o2,o3,o4,o5,o6⟩)
 ·
  exact h
def dG(c:CV)(b:Int):Int:=if(aj c b).bad=true then 0 else c.pages -(aj c b).used
def iE(c:CV)(b e:Int):CV:=if e=9 then ku c b else c
def bC(c:CV)(b:Int)(p:List UInt8):Int:=jq c b (aj c b).used p
def bD(c:CV)(b:Int)(p:List UInt8):CV:=iE (fK c b (aj c b).used p) b (bC c b p)
def da(c:CV)(b:Int):CV:=iE (fA c b) b (dF c b)
def gT(c:CV):List UInt8:=(c8 ⟨1,0,0,[]⟩ c.size).1
def eY:Nat→CV→Int→CV×Int
 |0,c,b=>(da c b,dF c b)
 |n+1,c,b=>if bC c b (gT c)≠0 then(bD c b (gT c),bC c b (gT c))else eY n (bD c b (gT c)) b
def cy(c:CV)(b:Int):CV×Int:=eY (dG c b).toNat c b
theorem KD{c:CV}(h:aT c=true)(b e:Int):aT (iE c b e)=true:=by
 rw[iE];split
 ·
  exact KC h b
 ·
  exact h
theorem BP(c:CV)(b e:Int):dw c (iE c b e):=by
 rw[iE];split
 ·
  exact SW c b
 ·
  exact .cX c
theorem kz{c:CV}(h:aT c=true)(b:Int)(p:List UInt8):aT (bD c b p)=true:=KD (E9 h _ _ _) _ _
theorem gU(c:CV)(b:Int)(p:List UInt8):dw c (bD c b p):=(SU _ _ _ _).trans (BP _ _ _)
theorem za{c:CV}(h:aT c=true)(b:Int):aT (da c b)=true:=KD (Fa h _) _ _
theorem tr(c:CV)(b:Int):dw c (da c b):=(SV _ _).trans (BP _ _ _)
theorem KE: ∀(n:Nat) {c:CV} (b:Int),aT c=true→aT (eY n c b).1=true∧dw c (eY n c b).1
 |0,c,b,h=>⟨za h b,tr c b⟩
 |n+1,c,b,h=>by
  rw[eY];split
  ·
   exact⟨kz h _ _,gU _ _ _⟩
  ·
   have:=KE n b (kz h b (gT c))
   exact⟨this.1,(gU _ _ _).trans this.2⟩
theorem tt{c:CV}(b:Int)(h:aT c=true):aT (cy c b).1=true∧dw c (cy c b).1:=KE _ b h
theorem nM{c:CV}{b:Int}{p:List UInt8}(h:bC c b p=0):mq c b (aj c b).used p=true∧c.off=false∧(aj c b).bad=false∧(bn c).2=false∧bD c b p=gR c b (aj c b).used p:=by
 have h0:=h
 rw[bC,jq]at h
 by_cases h1:mq c b (aj c b).used p=true
 ·
  rw[if_pos h1]at h
  by_cases h2:c.off=true
  ·
   rw[if_pos h2]at h;cases h
  ·
   rw[if_neg h2]at h
   by_cases h3:(aj c b).bad=true∨(aj c b).used≠(aj c b).used
   ·
    rw[if_pos h3]at h;cases h
   ·
    rw[if_neg h3]at h
    have vN:(aj c b).bad=false:=by
     cases hb:(aj c b).bad with
     |false=>rfl
     |true=>exact absurd (.inl hb) h3
    by_cases h4:(bn c).2=true
    ·
     rw[if_pos h4,kt]at h
     split at h<;>cases h
    ·
     refine⟨h1,by simpa using h2,vN,by simpa using h4,?_⟩
     rw[bD,iE,h0,if_neg (by decide),fK,if_pos ⟨h1,by simpa using h2,vN,rfl⟩]
 ·
  rw[if_neg h1]at h;cases h
theorem oD{c:CV}{b:Int}(h:fY c b=true){o:Int}{f:Bool}{B:BV}:aj {c with ops:=o,off:=f,blocks:=c.blocks.set b.toNat B} b=B:=by
 obtain⟨_,h2,h3⟩:=gv.1 h
 simp only[aj,List.getD,List.getElem?_set_self (show b.toNat<c.blocks.length by omega),Option.getD_some]
theorem KF{c:CV}{b:Int}{p:List UInt8}(h:bC c b p=0):dG (bD c b p) b=dG c b -1:=by
 obtain⟨h1,h2,h3,h4,h5⟩:=nM h
 have hh:=(iW.1 h1).1
 rw[h5,dG,dG,gR,oD hh]
 simp only[h3]
 simp only[Bool.false_eq_true,if_false];omega
theorem SX{c:CV}{b:Int}(h:0<dG c b):cy c b=if bC c b (gT c)≠0 then(bD c b (gT c),bC c b (gT c))else cy (bD c b (gT c)) b:=by
 obtain⟨n,hn⟩: ∃n,(dG c b).toNat=n+1:=⟨(dG c b).toNat -1,by omega⟩
 rw[cy,hn,eY]
 split
 ·
  rfl
 ·
  rename_i h0
  have pe:bC c b (gT c)=0:=by simpa using h0
  rw[cy,KF pe,show(dG c b -1).toNat=n by omega]
theorem SY{c:CV}{b:Int}(h: ¬0<dG c b):cy c b=(da c b,dF c b):=by
 rw[cy,show(dG c b).toNat=0 by omega];rfl
theorem zb(c:CV)(b e:Int):(iE c b e).ops=c.ops:=by
 rw[iE];split
 ·
  rw[ku];split<;>rfl
 ·
  rfl
theorem SZ(c:CV)(b g:Int)(p:List UInt8):c.ops≤(fK c b g p).ops:=by
 rw[fK];split
 ·
  simp only[gR];omega
 ·
  omega
theorem S0(c:CV)(b:Int):c.ops≤(fA c b).ops:=by
 rw[fA];split
 ·
  simp only[jZ];omega
 ·
  omega
theorem rf{c:CV}{b:Int}{p:List UInt8}(hb:(aj c b).bad=false)(he:bC c b p=9∨bC c b p=0):(bD c b p).ops=c.ops+1:=by
 rw[bD,zb,fK]
 rw[bC,jq]at he
 by_cases h1:mq c b (aj c b).used p=true
 ·
  rw[if_pos h1]at he
  by_cases h2:c.off=true
  ·
   rw[if_pos h2]at he;omega
  ·
   rw[if_pos ⟨h1,by simpa using h2,hb,rfl⟩];rfl
 ·
  rw[if_neg h1]at he;omega
theorem S1{c:CV}{b:Int}(hb:(aj c b).bad=false)(he:dF c b=9∨dF c b=0):(da c b).ops=c.ops+1:=by
 rw[da,zb,fA]
 rw[dF]at he
 by_cases h1:m0 c b=true
 ·
  rw[if_pos h1]at he
  by_cases h2:c.off=true
  ·
   rw[if_pos h2]at he;omega
  ·
   rw[if_pos ⟨h1,by simpa using h2,hb⟩];rfl
 ·
  rw[if_neg h1]at he;omega
theorem S2{c:CV}{b:Int}{p:List UInt8}(h:bC c b p=0):(aj (bD c b p) b).bad=false:=by
 obtain⟨h1,h2,h3,h4,h5⟩:=nM h
 rw[h5,gR,oD (iW.1 h1).1];exact h3
theorem uZ(c:CV)(b:Int)(p:List UInt8):c.ops≤(bD c b p).ops:=by rw[bD,zb];exact SZ _ _ _ _
theorem KG(c:CV)(b:Int):c.ops≤(da c b).ops:=by rw[da,zb];exact S0 _ _
theorem wO: ∀(n:Nat) (c:CV) (b:Int),c.ops≤(eY n c b).1.ops
 |0,c,b=>KG c b
 |n+1,c,b=>by
  rw[eY];split
  ·
   exact uZ _ _ _
  ·
   have:=wO n (bD c b (gT c)) b
   have:=uZ c b (gT c)
   omega
theorem KH: ∀(n:Nat) {c:CV} {b:Int},(aj c b).bad=false→(eY n c b).2=9∨(eY n c b).2=0→c.ops<(eY n c b).1.ops
 |0,c,b,hb,he=>by have:=S1 hb he;simp only[eY];omega
 |n+1,c,b,hb,he=>by
  rw[eY]at he⊢
  by_cases h0:bC c b (gT c)≠0
  ·
   rw[if_pos h0]at he⊢
   have:=rf hb (p:=gT c) (he.imp id fun h=>h)
   simp only;omega
  ·
   rw[if_neg h0]at he⊢
   have pe:bC c b (gT c)=0:=by simpa using h0
   have:=KH n (S2 pe) he
   have:=uZ c b (gT c)
   omega
theorem BQ{c:CV}{b:Int}(hb:(aj c b).bad=false)(he:(cy c b).2=9∨(cy c b).2=0):c.ops<(cy c b).1.ops:=KH _ hb he
def bj:ax:=⟨0,0,0,true⟩
def nc(x:ax):ax:=if x.bad=true then bj else x
def av(c:CV)(fl:List Int):List ax:=(iD c fl).map nc
def gJ(R:ax→Bool)(x:ax):ax:=if x.bad=true∨R x=false then bj else x
def bR(R:ax→Bool)(l:List ax):List ax:=l.map (gJ R)
theorem kA(c:CV)(fl:List Int):(av c fl).length=c.blocks.length -2:=by rw[av,List.length_map,iD,wI]
theorem tu(R:ax→Bool)(l:List ax):(bR R l).length=l.length:=by simp[bR]
open Go.aC
structure WV where
 v:VV
 beyond:Bool
 deriving DecidableEq
def WV.on(x:WV)(c:CV):WV:={x with v:={x.v with ae:=c}}
theorem rh{c:Cp}{b:Int}{B:Bk}(h:c.blocks.xs[b.toNat]? =some B):aj (cv c) b=bv B:=by
 rw[←uU];simp[List.getD,h]
def lp(c:CV):Nat:=(c.blocks.filter fun b=>b.bad).length
def j7(p:List UInt8):Nat:=if(bB p).2=0 then(bB p).1.gen else 0
def ri(l:List (List UInt8)):Nat:=l.foldl (fun m p=>max m (j7 p)) 0
def j8(c:CV)(b:Int):Nat:=ri (aj c b).pages
theorem S3{l:List (List UInt8)}{i:Nat}{p:List UInt8}(h:l[i]? =some p):ri (l.take (i+1))=max (ri (l.take i)) (j7 p):=by
 rw[ri,List.take_add_one,h];simp[ri]
theorem KI(b:List UInt8):(cr b).1.gen<281474976710656:=by
 have:=EU b
 rw[cr]
 split
 ·
  simp[jr]
 ·
  split
  ·
   simp[jr]
  ·
   split
   ·
    simp[jr]
   ·
    split
    ·
     simp[jr]
    ·
     split
     ·
      simp[jr]
     ·
      exact this
theorem KJ(p:List UInt8):j7 p<281474976710656:=by
 rw[j7];split
 ·
  rw[bB];split
  ·
   simp[gx]
  ·
   split
   ·
    simp[gx]
   ·
    split
    ·
     simp[gx]
    ·
     exact KI p
 ·
  omega
theorem Fb(l:List (List UInt8)):ri l<281474976710656:=by
 have: ∀(l:List (List UInt8)) (m:Nat),m<281474976710656→l.foldl (fun m p=>max m (j7 p)) m<281474976710656:=by
  intro l
  induction l with
  |nil=>intro m h;exact h
  |cons p r ih=>
   intro m h
   have:=KJ p
   exact ih _ (Nat.max_lt.2 ⟨h,this⟩)
 exact this l 0 (by omega)
def wP(c:CV)(b:Int):Bool:= !(aj c b).bad&&(decide (0<(aj c b).used)||(decide (b<2)&&decide (0<j8 c b)))
def fL(c:CV)(b:Int):Nat:=max 1 (j8 c (1 -b)+(1 -b).toNat)
def rj(c:CV)(last:Int):Int:=if(aj c (1 -last)).bad=true then dG c last else if(aj c last).bad=true∧0<dG c (1 -last)then dG c (1 -last)else c.pages
def u3(g:Nat):Bool:=decide (281474976710656≤g+2)
def iZ(e:Int):Int:=if e=9 then 0 else e
theorem KK{f:ax→ax}{l:List ax}{i:Nat}{x:ax}(h:l[i]? =some x):((l.take i).map f++l.drop i).set i (f x)=(l.take (i+1)).map f++l.drop (i+1):=by
 have hi:=(List.getElem?_eq_some_iff.1 h).1
 have hl:((l.take i).map f).length=i:=by rw[List.length_map,List.length_take];omega
 rw[List.set_append_right _ _ (by omega),hl,Nat.sub_self,wN h,List.set_cons_zero,List.take_add_one,h]
 simp
theorem KL{f:ax→ax}{l:List ax}{i:Nat}{x:ax}(h:l[i]? =some x)(hf:f x=x):(l.take i).map f++l.drop i=(l.take (i+1)).map f++l.drop (i+1):=by
 rw[wN h,List.take_add_one,h]
 simp[hf]
theorem KM{f:ax→ax}{l:List ax}{i:Nat}{x:ax}(h:l[i]? =some x):((l.take i).map f++l.drop i)[i]? =some x:=by
 have hi:=(List.getElem?_eq_some_iff.1 h).1
 have hl:((l.take i).map f).length=i:=by rw[List.length_map,List.length_take];omega
 rw[List.getElem?_append_right (by omega),hl,Nat.sub_self,List.getElem?_drop,Nat.add_zero,h]
theorem S4{l:List BV}{i:Nat}{x:BV}(h:l[i]? =some x):((l.take (i+1)).filter fun b=>b.bad).length=((l.take i).filter fun b=>b.bad).length+(if x.bad=true then 1 else 0):=by
 rw[List.take_add_one,h,List.filter_append,List.length_append]
 congr 1
 simp only[Option.toList_some,List.filter_cons,List.filter_nil]
 split<;>simp_all
end Go.Kb
