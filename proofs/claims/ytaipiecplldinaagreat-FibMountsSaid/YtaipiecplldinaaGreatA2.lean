/- Part of a proof. -/
import Derived.Test.YtaipiecplldinaaGreatA1
import Derived.Lib.AppendZerosOnto
import Derived.Lib.Overlaps
import Derived.Lib.AppendZeros
set_option maxRecDepth 20000
set_option linter.unusedSimpArgs false
set_option linter.unusedVariables false
namespace Go.aL
structure lR where
 X:Type
 v:X→Value
 e:X→aj
section
variable {P:Program} {l:List Oper} {Q:Exit→Act→World→Prop} {fs:List Nat} {mk:Nat→lR} {w0:World}
def qE(P:Program)(o:Oper)(ρ:Operand→Value)(m:lR):Prop:= ∀(w0 w:World) (L:List aj),Mem w0 L w→ ∃(x:m.X) (w':World),(execOp ρ o).run P w= .ok (.value (m.v x)) w'∧Mem w0 (m.e x::L) w'
def upon(P:Program)(w:World)(R:Value→World→Prop):Result Next→Prop
 | .ok (.value v) w'=>R v w'
 | .ok .skip w'=>R undef w'
 | .ok (.enter f args) w'=>w'=w∧Calls P f args w fun e mR=> ∃v,e= .returned v∧R v mR
 |_=>False
def oL(P:Program)(l:List Oper)(fs:List Nat)(mk:Nat→lR)(Q:Exit→Act→World→Prop)(w0:World):List Nat→Act→List aj→List aj→Prop
 |[],af,L,_=> ∀w,Mem w0 L w→Q .normal af w
 |k::ord,af,L,Lq=> ∃o,l[k]? =some o∧(if fs.contains k=true then(∀i∈ord,fs.contains (i+2000)=true→ ∃oi,l[i]? =some oi∧oi.guard=none∧qE P oi af.eval (mk i))∧(if fs.contains (k+2000)=true then
  o.guard=none∧qE P o af.eval (mk k)∧ ∀x:(mk k).X,oL P l fs mk Q w0 ord (af.put o.dst ((mk k).v x)) ((mk k).e x::L) Lq
  else
   Region.wanted o (yielded l.toArray af.tmps)=true∧(∀w,Mem w0 L w→upon P w (fun v w'=> ∃L' fj,Mem w0 L' w'∧(∀w,Mem w0 L' w→Mem w0 fj w)∧(∀w,Mem w0 fj w→Mem w0 Lq w)∧(fs.contains (k+5000)=true→ ∀w,Mem w0 L' w→Mem w0 L w)∧oL P l fs mk Q w0 ord (af.put o.dst v) L' fj) ((execOp af.eval o).run P w))∧
   (fs.contains (k+4000)=true→ ∀e w,Mem w0 (e::L) w→upon P w (fun v w'=> ∃L' fj,Mem w0 (e::L') w'∧(∀w,Mem w0 L' w→Mem w0 fj w)∧(∀w,Mem w0 fj w→Mem w0 Lq w)∧(fs.contains (k+5000)=true→ ∀w,Mem w0 L' w→Mem w0 L w)∧oL P l fs mk Q w0 ord (af.put o.dst v) L' fj) ((execOp af.eval o).run P w)))
  else∃v,(Region.wanted o (yielded l.toArray af.tmps)=true→qu P o af (Mem w0 (if fs.contains (k+1000)=true then L else Lq)) v)∧(Region.wanted o (yielded l.toArray af.tmps)=false→v=undef)∧oL P l fs mk Q w0 ord (af.put o.dst v) L Lq)
def wZ(o:Oper):List Nat:=(o.after.toList.filter fun e=>Region.binds .any e).map (·.on)
def B7(l:List Oper)(fs:List Nat)(A:List (List Nat))(prev seen:List Nat)(k:Nat)(o:Oper):Bool:=
 (!fs.contains k||fs.contains (k+2000)||fs.contains (k+5000)||(prev.all fun j=> !fs.contains (j+1000)||(A.getD k []).contains j))&&
 (match o.op with| .select .. =>false|_=>true)&&
 ((wZ o).all fun j=>decide (j<k))&&
 (fs.contains (k+2000)||seen.all fun f=>(A.getD k []).contains f)&&
 ((A.getD k []).all fun f=>(wZ o).any fun j=>j==f||(A.getD j []).contains f)&&
 ((List.range l.length).all fun j=>match di l j with
  |none=>true
  |some d=>(!(o.looksAt l.toArray).contains d||(prev.contains j&&(wZ o).contains j&&(!fs.contains (k+2000)|| !fs.contains j)))&&(j==k||o.dst !=some d))
def qF(l:List Oper)(fs:List Nat)(A:List (List Nat)):List Nat→List Nat→List Nat→Bool
 |_,_,[]=>true
 |prev,seen,k::ord=>(match l[k]?with|none=>false|some o=>B7 l fs A prev seen k o)&&(!fs.contains k||fs.contains (k+2000)||(ord.all fun j=> !fs.contains (j+2000))||(fs.contains (k+4000)&&decide ((ord.filter fun j=>fs.contains (j+2000)).length≤1)))&&qF l fs A (k::prev) (if fs.contains k then k::seen else seen) ord
def zh(l:List Oper)(fs:List Nat)(A:List (List Nat))(ord:List Nat):Bool:=
 ((List.range l.length).all fun j=>ord.contains j)&&decide ord.Nodup&&(ord.all fun j=>decide (j<l.length))&&(fs.all fun j=>decide (j<2000))&&qF l fs A [] [] ord
def zj(l:List Oper)(fs:List Nat)(A:List (List Nat))(ord:List Nat):Bool:=
 ((List.range l.length).all fun j=>ord.contains j)&&decide ord.Nodup&&(ord.all fun j=>decide (j<l.length))&&qF l fs A [] [] ord
structure B8(l:List Oper)(fs:List Nat)(A:List (List Nat))(prev seen:List Nat)(k:Nat)(o:Oper):Prop where
 tmp:fs.contains k=true→fs.contains (k+2000)=false→fs.contains (k+5000)=false→ ∀j∈prev,fs.contains (j+1000)=true→j∈A.getD k []
 rr: ∀cs b,o.op≠ .select cs b
 back: ∀e∈o.after,Region.binds .any e=true→e.on<k
 MN:fs.contains (k+2000)=false→ ∀f∈seen,f∈A.getD k []
 cert: ∀f∈A.getD k [],∃e∈o.after,Region.binds .any e=true∧(e.on=f∨f∈A.getD e.on [])
 reads: ∀j d,j<l.length→di l j=some d→d∈o.looksAt l.toArray→j∈prev∧ ∃e∈o.after,Region.binds .any e=true∧e.on=j
 one: ∀j d,j<l.length→di l j=some d→j≠k→o.dst≠some d
 MO:fs.contains (k+2000)=true→ ∀j d,j<l.length→di l j=some d→d∈o.looksAt l.toArray→fs.contains j=false
theorem B9{o:Oper}{j:Nat}:j∈wZ o↔ ∃e∈o.after,Region.binds .any e=true∧e.on=j:=by
 unfold wZ
 simp only[List.mem_map,List.mem_filter]
 constructor
 ·
  rintro⟨e,⟨h1,h2⟩,h3⟩;exact⟨e,by simpa using h1,h2,h3⟩
 ·
  rintro⟨e,h1,h2,h3⟩;exact⟨e,⟨by simpa using h1,h2⟩,h3⟩
theorem MP{A:List (List Nat)}{prev seen:List Nat}{k:Nat}{o:Oper}(h:B7 l fs A prev seen k o=true):B8 l fs A prev seen k o:=by
 simp only[B7,Bool.and_eq_true]at h
 obtain⟨⟨⟨⟨⟨h0,h1⟩,h2⟩,h3⟩,h4⟩,h5⟩:=h
 refine⟨fun hk rI MQ j hj ht=>by
  rw[hk,rI,MQ,Bool.not_true,Bool.false_or,Bool.false_or,Bool.false_or]at h0
  have:=List.all_eq_true.1 h0 j hj
  rw[ht]at this
  simpa using this,fun cs b e=>by rw[e]at h1;simp at h1,fun e he hb=> ?_,fun gZ f hf=> ?_,fun f hf=> ?_,fun j d hj hd hl=> ?_,fun j d hj hd cR=> ?_,fun hk j d hj hd hl=> ?_⟩
 ·
  have:=List.all_eq_true.1 h2 e.on (B9.2 ⟨e,he,hb,rfl⟩)
  simpa using this
 ·
  rw[gZ,Bool.false_or]at h3
  have:=List.all_eq_true.1 h3 f hf
  simpa using this
 ·
  have:=List.all_eq_true.1 h4 f hf
  obtain⟨j,hj,db⟩:=List.any_eq_true.1 this
  obtain⟨e,he,hb,rfl⟩:=B9.1 hj
  exact⟨e,he,hb,by simpa using db⟩
 ·
  have:=List.all_eq_true.1 h5 j (List.mem_range.2 hj)
  rw[hd]at this
  simp only[Bool.and_eq_true,Bool.or_eq_true,Bool.not_eq_true']at this
  rcases this.1 with h6|h6
  ·
   exact absurd hl (by simpa using h6)
  ·
   exact⟨by simpa using h6.1.1,B9.1 (by simpa using h6.1.2)⟩
 ·
  have:=List.all_eq_true.1 h5 j (List.mem_range.2 hj)
  rw[hd]at this
  simp only[Bool.and_eq_true,Bool.or_eq_true,beq_iff_eq]at this
  rcases this.2 with h6|h6
  ·
   exact absurd h6 cR
  ·
   simpa using h6
 ·
  have:=List.all_eq_true.1 h5 j (List.mem_range.2 hj)
  rw[hd]at this
  simp only[Bool.and_eq_true,Bool.or_eq_true,Bool.not_eq_true']at this
  rcases this.1 with h6|h6
  ·
   exact absurd hl (by simpa using h6)
  ·
   rcases h6.2 with h7|h7
   ·
    rw[hk]at h7;cases h7
   ·
    exact h7
theorem rP{A:List (List Nat)}: ∀(ord prev seen:List Nat),qF l fs A prev seen ord=true→ ∀(x:List Nat) (k:Nat) (y:List Nat),ord=x++k::y→
  ∃o,l[k]? =some o∧B8 l fs A (x.reverse++prev) ((x.filter fun j=>fs.contains j).reverse++seen) k o∧(fs.contains k=true→fs.contains (k+2000)=false→(∀j∈y,fs.contains (j+2000)=false)∨(fs.contains (k+4000)=true∧(y.filter fun j=>fs.contains (j+2000)).length≤1))
 |[],_,_,_,x,k,y,e=>by simp at e
 |k0::ord,prev,seen,h,x,k,y,e=>by
  simp only[qF,Bool.and_eq_true]at h
  cases x with
  |nil=>
   simp only[List.nil_append,List.cons.injEq]at e
   obtain⟨rfl,rfl⟩:=e
   cases ho:l[k0]?with
   |none=>rw[ho]at h;simp at h
   |some o=>
    rw[ho]at h
    refine⟨o,rfl,by simpa using MP h.1.1,fun h1 h2=> ?_⟩
    have h3:=h.1.2
    rw[h1,h2]at h3
    simp only[Bool.not_true,Bool.false_or,Bool.or_eq_true,Bool.and_eq_true,decide_eq_true_eq]at h3
    refine h3.imp (fun h4 j hj=> ?_) id
    have:=List.all_eq_true.1 h4 j hj
    simpa using this
  |cons x0 x=>
   simp only[List.cons_append,List.cons.injEq]at e
   obtain⟨rfl,rfl⟩:=e
   obtain⟨o,ho,hk,hy⟩:=rP _ _ _ h.2 x k y rfl
   refine⟨o,ho,?_,hy⟩
   have e1:(k0::x).reverse++prev=x.reverse++(k0::prev):=by simp
   have e2:(((k0::x).filter fun j=>fs.contains j).reverse++seen)=(x.filter fun j=>fs.contains j).reverse++(if fs.contains k0 then k0::seen else seen):=by
    cases hc:fs.contains k0 with
    |true=>
     rw[List.filter_cons,if_pos hc,List.reverse_cons,List.append_assoc];rfl
    |false=>
     rw[List.filter_cons,if_neg (by rw[hc];exact Bool.false_ne_true)];rfl
   rw[e1,e2];exact hk
def mC(N0 d:Nat)(v:Value)(a:Act):Prop:=a.tmps[d]? =if d<N0 then some v else none
theorem u5{N0 d:Nat}{v:Value}{a:Act}(h:a.tmps.size=N0):mC N0 d v (a.put (some d) v):=by
 subst h
 unfold mC
 simp[Act.put,Array.getElem?_setIfInBounds]
def Ca(P:Program)(l:List Oper)(w0:World)(N0 k:Nat)(af:Act)(Lq:List aj):Prop:=
 ∃o v,l[k]? =some o∧(∀d,o.dst=some d→mC N0 d v af)∧(Region.wanted o (yielded l.toArray af.tmps)=true→qu P o af (Mem w0 Lq) v)∧(Region.wanted o (yielded l.toArray af.tmps)=false→v=undef)
def Early(l:List Oper)(fs:List Nat)(mk:Nat→lR)(N0:Nat)(fS:List Nat)(bj:Array Bool)(a:Act)(e:Nat×aj):Prop:=
 e.1∈fS∧bj.getD e.1 true=true∧fs.contains e.1=true∧fs.contains (e.1+2000)=true∧ ∃o,∃x:(mk e.1).X,l[e.1]? =some o∧e.2=(mk e.1).e x∧ ∀d,o.dst=some d→mC N0 d ((mk e.1).v x) a
structure Core(P:Program)(l:List Oper)(fs:List Nat)(mk:Nat→lR)(Q:Exit→Act→World→Prop)(w0:World)(ord:List Nat)(a0:Act)(pre fS:List Nat)(af:Act)(L Lq:List aj)(E:List (Nat×aj))(bj:Array Bool)(a:Act)(w:World):Prop where
 ord:ord=pre++fS
 inv:HeadInv .any l.toArray l.length bj
 mem:Mem w0 (E.map (·.2)++L) w
 mX: ∀e∈E,Early l fs mk a0.tmps.size fS bj a e
 keys:(E.map (·.1)).Nodup
 u6: ∀w,Mem w0 L w→Mem w0 Lq w
 tD:oL P l fs mk Q w0 fS af L Lq
 size:a.tmps.size=a0.tmps.size
 nz:af.tmps.size=a0.tmps.size
 defers:a.defers=a0.defers
 py:af.defers=a0.defers
 sub: ∀j,j<l.length→bj.getD j true=true→j∈pre∨j∈E.map (·.1)
 fresh: ∀j∈pre,fs.contains j=true→bj.getD j true=true
 rQ: ∀j∈pre,bj.getD j true=false→Ca P l w0 a0.tmps.size j af (if fs.contains (j+1000)=true then L else Lq)
 done: ∀j d,j<l.length→bj.getD j true=true→j∈pre→di l j=some d→a.tmps[d]? =af.tmps[d]?
 rest: ∀d,(∀j,j<l.length→bj.getD j true=true→di l j≠some d)→a.tmps[d]? =a0.tmps[d]?
 full: ∀d,(∀j∈pre,di l j≠some d)→af.tmps[d]? =a0.tmps[d]?
variable {A:List (List Nat)} {ord:List Nat} {a0:Act}
theorem w3{o:Oper}(hn: ∀cs b,o.op≠ .select cs b){a b:Act}(h: ∀t∈o.looksAt l.toArray,a.tmps[t]? =b.tmps[t]?):
  execOp a.eval o=execOp b.eval o∧Region.wanted o (yielded l.toArray a.tmps)=Region.wanted o (yielded l.toArray b.tmps):=
 ⟨execOp_congr o hn (Bp h),Fx h⟩
theorem Gy{o:Oper}{a b:Act}{C D:World→Prop}{v:Value}(e:execOp a.eval o=execOp b.eval o)(hD: ∀w,D w→C w)(h:qu P o a C v):qu P o b D v:=fun w hw=>by
 have:=h w (hD w hw)
 unfold Oper.quietAt at this⊢
 rw[←e];exact this
theorem u7{pre fS:List Nat}{i k N0:Nat}{af:Act}{Lq fj:List aj}{oi:Oper}{u:Value}(hB:qF l fs A [] [] ord=true)(cr:ord.Nodup)(bB: ∀j∈ord,j<l.length)(ho:ord=pre++i::fS)(tc:l[i]? =some oi)(hk:k∈pre)(hq: ∀w,Mem w0 fj w→Mem w0 Lq w)
  (h:Ca P l w0 N0 k af Lq):Ca P l w0 N0 k (af.put oi.dst u) fj:=by
 obtain⟨o,v,h1,h2,h3,h4⟩:=h
 obtain⟨x,y,rfl⟩:=List.append_of_mem hk
 have mu:ord=x++k::(y++i::fS):=by rw[ho];simp
 obtain⟨o',mD,ct,-⟩:=rP ord [] [] hB x k _ mu
 have:o'=o:=by rw[h1]at mD;exact(Option.some.inj mD).symm
 subst this
 have gm:i<l.length:=(List.getElem?_eq_some_iff.1 tc).1
 have jE:di l i=oi.dst:=by simp[di,tc]
 have mE:i≠k:=fun e=>by
  subst e
  rw[mu]at cr
  have:=(List.nodup_append.1 cr).2.1
  exact(List.nodup_cons.1 this).1 (by simp)
 have MR:i∉x:=fun hx=>by
  rw[mu]at cr
  exact(List.nodup_append.1 cr).2.2 i hx i (by simp) rfl
 have Cb: ∀t∈o'.looksAt l.toArray,af.tmps[t]? =(af.put oi.dst u).tmps[t]? :=fun t ht=>by
  refine(iE _ _ _ _ fun e=> ?_).symm
  obtain⟨hp,_⟩:=ct.reads i t gm (by rw[jE];exact e) ht
  rw[List.append_nil,List.mem_reverse]at hp
  exact MR hp
 obtain⟨e1,e2⟩:=w3 ct.rr Cb
 refine⟨o',v,h1,fun d hd=> ?_,fun hw=>Gy e1 hq (h3 (by rw[e2];exact hw)),fun hw=>h4 (by rw[e2];exact hw)⟩
 have:=h2 d hd
 unfold mC at this⊢
 rw[iE _ _ _ _ fun e=> ?_]
 ·
  exact this
 ·
  exact ct.one i d gm (by rw[jE];exact e) mE hd
theorem MS{E:List (Nat×aj)}{k:Nat}(h:k∈E.map (·.1)): ∃E1 x E2,E=E1++(k,x)::E2:=by
 obtain⟨e,he,rfl⟩:=List.mem_map.1 h
 obtain⟨E1,E2,rfl⟩:=List.append_of_mem he
 exact⟨E1,e.2,E2,rfl⟩
theorem zk(hB:qF l fs A [] [] ord=true)(cr:ord.Nodup)(bB: ∀j∈ord,j<l.length): ∀(fS pre:List Nat) (af:Act) {L Lq:List aj} {E:List (Nat×aj)} {bj:Array Bool} {a:Act} {w:World},Core P l fs mk Q w0 ord a0 pre fS af L Lq E bj a w→
  ∃MT Cc MU L' E',Core P l fs mk Q w0 ord a0 MT Cc MU L' Lq E' bj a w∧(Cc=[]∨ ∃f r,Cc=f::r∧fs.contains f=true∧f∉E'.map (·.1))
 |[],pre,af,L,_,E,_,_,_,H=>⟨pre,[],af,L,E,H, .inl rfl⟩
 |k::fS,pre,af,L,Lq,E,bj,a,w,H=>by
  have Cd:k∉pre:=fun h=>by
   have mF:=cr
   rw[H.ord]at mF
   exact(List.nodup_append.1 mF).2.2 k h k (by simp) rfl
  have fa: ∀j,j∈pre→j≠k:=fun j hj e=>Cd (e▸hj)
  have XI:k∉fS:=fun h=>by
   have mF:=cr
   rw[H.ord]at mF
   exact(List.nodup_cons.1 (List.nodup_append.1 mF).2.1).1 h
  obtain⟨o',oM,ct,-⟩:=rP ord [] [] hB pre k fS H.ord
  have tE:k<l.length:=(List.getElem?_eq_some_iff.1 oM).1
  have zl:di l k=o'.dst:=by simp[di,oM]
  cases hf:fs.contains k with
  |true=>
   by_cases hE:k∈E.map (·.1)
   ·
    obtain⟨E1,x,E2,rfl⟩:=MS hE
    obtain⟨_,pO,_,gZ,oe,b,Gz,hx,nL⟩:=H.mX (k,x) (by simp)
    simp only at pO gZ Gz hx nL
    have e0:oe=o':=by rw[Gz]at oM;exact Option.some.inj oM
    subst e0
    obtain⟨o,mD,hl⟩:=H.tD
    rw[if_pos hf,if_pos gZ]at hl
    have e1:o=oe:=by rw[mD]at oM;exact Option.some.inj oM
    subst e1
    obtain⟨_,_,_,u9⟩:=hl
    have MW:(((E1++(k,x)::E2).map (·.2))++L).Perm (((E1++E2).map (·.2))++x::L):=by
     simp only[List.map_append,List.map_cons,List.append_assoc,List.cons_append]
     exact List.Perm.append_left _ (List.perm_middle.symm)
    have Ce:=H.keys
    simp only[List.map_append,List.map_cons]at Ce
    have MX: ∀e∈E1++E2,e.1≠k:=fun e he e2=>by
     obtain⟨n1,n2,n3⟩:=List.nodup_append.1 Ce
     rcases List.mem_append.1 he with h|h
     ·
      exact n3 e.1 (List.mem_map_of_mem h) k (by simp) e2
     ·
      exact(List.nodup_cons.1 n2).1 (e2▸List.mem_map_of_mem h)
    refine zk hB cr bB fS (pre++[k]) (af.put o.dst ((mk k).v b)) (L:=x::L) (E:=E1++E2) ⟨by rw[H.ord];simp,H.inv,H.mem.perm MW,fun e he=> ?_,?_,fun w hw=>H.u6 w (hw.sub (List.sublist_cons_self _ _)),by rw[hx];exact u9 b,H.size,by rw[pv];exact H.nz,H.defers,by rw[pw];exact H.py,fun j hj hl=> ?_,fun j hj ow=> ?_,fun j hj hl=> ?_,fun j d hj hl pP hd=> ?_,H.rest,fun d hd=> ?_⟩
    ·
     have hm:e∈E1++(k,x)::E2:=by
      rcases List.mem_append.1 he with h|h
      ·
       exact List.mem_append_left _ h
      ·
       exact List.mem_append_right _ (List.mem_cons_of_mem _ h)
     obtain⟨g1,g2⟩:=H.mX e hm
     exact⟨(List.mem_cons.1 g1).resolve_left (MX e he),g2⟩
    ·
     rw[List.map_append]
     exact Ce.sublist (List.Sublist.append_left (List.sublist_cons_self _ _) _)
    ·
     rcases H.sub j hj hl with h|h
     ·
      exact .inl (List.mem_append_left _ h)
     ·
      simp only[List.map_append,List.map_cons,List.mem_append,List.mem_cons]at h
      rcases h with h|h|h
      ·
       exact .inr (by simp only[List.map_append,List.mem_append];exact .inl h)
      ·
       exact .inl (by rw[h];simp)
      ·
       exact .inr (by simp only[List.map_append,List.mem_append];exact .inr h)
    ·
     rcases List.mem_append.1 hj with h|h
     ·
      exact H.fresh j h ow
     ·
      obtain rfl:=List.mem_singleton.1 h;exact pO
    ·
     rcases List.mem_append.1 hj with h|h
     ·
      have hp:=H.rQ j h hl
      cases tF:fs.contains (j+1000)with
      |true=>
       rw[tF]at hp
       simp only[if_true]at hp⊢
       exact u7 hB cr bB H.ord mD h (fun w hw=>hw.sub (List.sublist_cons_self _ _)) hp
      |false=>
       rw[tF]at hp
       simp only[Bool.false_eq_true,if_false]at hp⊢
       exact u7 hB cr bB H.ord mD h (fun _ h=>h) hp
     ·
      obtain rfl:=List.mem_singleton.1 h
      rw[pO]at hl;cases hl
    ·
     rcases List.mem_append.1 pP with h|h
     ·
      rw[iE _ _ _ _ (ct.one j d hj hd (fa j h))]
      exact H.done j d hj hl h hd
     ·
      obtain rfl:=List.mem_singleton.1 h
      rw[zl]at hd
      have h3:=nL d hd
      rw[hd]
      have h4:mC a0.tmps.size d ((mk j).v b) (af.put (some d) ((mk j).v b)):=u5 H.nz
      unfold mC at h3 h4
      rw[h3,h4]
    ·
     rw[iE _ _ _ _ (by have:=hd k (by simp);rwa [zl]at this)]
     exact H.full d fun j hj=>hd j (List.mem_append_left _ hj)
   ·
    exact⟨pre,k::fS,af,L,E,H, .inr ⟨k,fS,rfl,hf,hE⟩⟩
  |false=>
   obtain⟨o,mD,hl⟩:=H.tD
   rw[if_neg (by rw[hf];exact Bool.false_ne_true)]at hl
   obtain⟨v,h1,h2,h3⟩:=hl
   have:o'=o:=by rw[mD]at oM;exact(Option.some.inj oM).symm
   subst this
   have Cb: ∀t∈o'.looksAt l.toArray,af.tmps[t]? =(af.put o'.dst v).tmps[t]? :=fun t ht=>by
    refine(iE _ _ _ _ fun e=> ?_).symm
    obtain⟨hp,_⟩:=ct.reads k t tE (by rw[zl];exact e) ht
    rw[List.append_nil,List.mem_reverse]at hp
    exact Cd hp
   obtain⟨e1,e2⟩:=w3 ct.rr Cb
   refine zk hB cr bB fS (pre++[k]) (af.put o'.dst v) ⟨by rw[H.ord];simp,H.inv,H.mem,fun e he=> ?_,H.keys,H.u6,h3,H.size,by rw[pv];exact H.nz,H.defers,by rw[pw];exact H.py,fun j hj hl=>(H.sub j hj hl).imp_left fun h=>List.mem_append_left _ h,fun j hj ow=> ?_,fun j hj hl=> ?_,fun j d hj hl pP hd=> ?_,H.rest,fun d hd=> ?_⟩
   ·
    obtain⟨g1,g2,g3,g4⟩:=H.mX e he
    exact⟨(List.mem_cons.1 g1).resolve_left (fun e2=>by rw[e2,hf]at g3;cases g3),g2,g3,g4⟩
   ·
    rcases List.mem_append.1 hj with h|h
    ·
     exact H.fresh j h ow
    ·
     obtain rfl:=List.mem_singleton.1 h
     rw[hf]at ow;cases ow
   ·
    rcases List.mem_append.1 hj with h|h
    ·
     exact u7 hB cr bB H.ord mD h (fun _ h=>h) (H.rQ j h hl)
    ·
     obtain rfl:=List.mem_singleton.1 h
     refine⟨o',v,mD,fun d hd=>by rw[hd];exact u5 H.nz,fun hw=>Gy e1 (fun _ h=>h) (h1 (by rw[e2];exact hw)),fun hw=>h2 (by rw[e2];exact hw)⟩
   ·
    rcases List.mem_append.1 pP with h|h
    ·
     rw[iE _ _ _ _ (ct.one j d hj hd (fa j h))]
     exact H.done j d hj hl h hd
    ·
     obtain rfl:=List.mem_singleton.1 h
     rcases H.sub j hj hl with h5|h5
     ·
      exact absurd h5 Cd
     ·
      obtain⟨e,he,MY⟩:=List.mem_map.1 h5
      obtain⟨_,_,g3,_⟩:=H.mX e he
      rw[MY,hf]at g3;cases g3
   ·
    rw[iE _ _ _ _ (by have:=hd k (by simp);rwa [zl]at this)]
    exact H.full d fun j hj=>hd j (List.mem_append_left _ hj)
theorem GA{x p1 y y':List Nat}{i:Nat}(hn:(p1++i::y').Nodup)(h:x++i::y=p1++i::y'):x=p1:=by
 induction x generalizing p1 with
 |nil=>
  cases p1 with
  |nil=>rfl
  |cons q p1=>
   simp only[List.nil_append,List.cons_append,List.cons.injEq]at h
   obtain⟨rfl,_⟩:=h
   exact absurd (by simp) (List.nodup_cons.1 hn).1
 |cons c x ih=>
  cases p1 with
  |nil=>
   simp only[List.nil_append,List.cons_append,List.cons.injEq]at h
   obtain⟨rfl,h2⟩:=h
   rw[←h2]at hn
   exact absurd (by simp) (List.nodup_cons.1 hn).1
  |cons q p1=>
   simp only[List.cons_append,List.cons.injEq]at h
   obtain⟨rfl,h2⟩:=h
   rw[ih (List.nodup_cons.1 hn).2 h2]
theorem GB{bj:Array Bool}(hB:qF l fs A [] [] ord=true)(hK: ∀j,j<l.length→j∈ord)(inv:HeadInv .any l.toArray l.length bj): ∀(k:Nat) (o:Oper),l[k]? =some o→(∀e∈o.after,Region.binds .any e=true→bj.getD e.on false=true)→
  ∀f∈A.getD k [],bj.getD f false=true:=by
 intro k
 induction k using Nat.strongRecOn with
 |_ k ih=>
  intro o mD hd f hf
  obtain⟨x,y,hx⟩:=List.append_of_mem (hK k (List.getElem?_eq_some_iff.1 mD).1)
  obtain⟨o',oM,ct,-⟩:=rP ord [] [] hB x k y hx
  have:o'=o:=by rw[mD]at oM;exact(Option.some.inj oM).symm
  subst this
  obtain⟨e,he,hb,h⟩:=ct.cert f hf
  have hl:=hd e he hb
  rcases h with rfl|h
  ·
   exact hl
  ·
   have bB:=ct.back e he hb
   have zm:e.on<l.length:=by have:=(List.getElem?_eq_some_iff.1 mD).1;omega
   exact ih e.on bB l[e.on] (by simp[zm]) (inv.closed e.on _ (by simp[zm]) hl) f h
theorem zn{bj:Array Bool}{i:Nat}(hi:i<bj.size)(h:bj.getD i false=true):bj.getD i true=true:=by
 simp[hi]at h⊢;exact h
theorem zo(hB:qF l fs A [] [] ord=true)(cr:ord.Nodup)(bB: ∀j∈ord,j<l.length)(hK: ∀j,j<l.length→j∈ord)(va: ∀k,k<l.length→fs.contains k=false→fs.contains (k+2000)=false):
  ∀(m:Nat) (pre fS:List Nat) (af:Act) (L Lq:List aj) (E:List (Nat×aj)) (bj:Array Bool) (a:Act) (w:World),left l.length bj=m→Core P l fs mk Q w0 ord a0 pre fS af L Lq E bj a w→wpAny P .any l.toArray Q m bj a w
 |0,Cf,Cg,Ci,L0,Lq,E0,bj,a,w,hm,H0=>by
  obtain⟨pre,fS,af,L,E,H,Cj⟩:=zk hB cr bB Cg Cf Ci H0
  have iG: ∀j,j<l.length→bj.getD j true=true:=fun j hj=>by
   cases h:bj.getD j true with
   |true=>rfl
   |false=>
    have:j∈(List.range l.length).filter fun i=> !bj.getD i true:=List.mem_filter.2 ⟨List.mem_range.2 hj,by rw[h];rfl⟩
    rw[List.length_eq_zero_iff.1 hm]at this
    cases this
  have hr:Region.ready .any l.toArray bj=[]:=by
   refine List.eq_nil_iff_forall_not_mem.2 fun i hi=> ?_
   obtain⟨h1,o,h2,_⟩:=mem_ready.1 hi
   rw[iG i (by have:=(Array.getElem?_eq_some_iff.1 h2).1;simpa using this)]at h1;cases h1
  have Ck:fS=[]:=by
   rcases Cj with h|⟨k,r,hs,_,hE⟩
   ·
    exact h
   ·
    exfalso
    have hk:k∈ord:=by rw[H.ord,hs];simp
    rcases H.sub k (bB k hk) (iG k (bB k hk))with this|this
    ·
     have mF:=cr
     rw[H.ord,hs]at mF
     exact absurd rfl ((List.nodup_append.1 mF).2.2 k this k (by simp))
    ·
     exact hE this
  have hE:E=[]:=List.eq_nil_iff_forall_not_mem.2 fun e he=>by
   have:=(H.mX e he).1
   rw[Ck]at this;cases this
  have u9:=H.tD
  rw[Ck]at u9
  have Cl:=H.ord
  rw[Ck,List.append_nil]at Cl
  have e1:a=af:=by
   have:a.tmps=af.tmps:=by
    apply Array.ext_getElem?
    intro d
    by_cases hw: ∃j,j<l.length∧di l j=some d
    ·
     obtain⟨j,hj,hd⟩:=hw
     exact H.done j d hj (iG j hj) (by rw[←Cl];exact hK j hj) hd
    ·
     have h1: ∀j,j<l.length→di l j≠some d:=fun j hj hd=>hw ⟨j,hj,hd⟩
     rw[H.rest d fun j hj _=>h1 j hj,H.full d fun j hj=>h1 j (bB j (by rw[Cl];exact hj))]
   have h2:a.defers=af.defers:=by rw[H.defers,H.py]
   cases a;cases af
   simp_all
  subst e1
  have GC:=H.mem
  rw[hE]at GC
  exact⟨hr,u9 w (by simpa using GC)⟩
 |m+1,Cf,Cg,Ci,L0,Lq,E0,bj,a,w,hm,H0=>by
  obtain⟨pre,fS,af,L,E,H,Cj⟩:=zk hB cr bB Cg Cf Ci H0
  have GD:Mem w0 L w:=H.mem.sub (List.sublist_append_right _ _)
  obtain⟨i0,rz,yM,wE⟩: ∃i,i<l.length∧bj.getD i true=false∧ ∀j,j<i→bj.getD j true=true:=by
   have cR: ∃i,i<l.length∧bj.getD i true=false:=by
    cases hf:(List.range l.length).filter fun i=> !bj.getD i true with
    |nil=>rw[left,hf]at hm;cases hm
    |cons i r=>
     have:i∈(List.range l.length).filter fun i=> !bj.getD i true:=by rw[hf];simp
     obtain⟨h1,h2⟩:=List.mem_filter.1 this
     exact⟨i,List.mem_range.1 h1,by simpa using h2⟩
   obtain⟨i,h1,h2⟩:=cR
   induction i using Nat.strongRecOn with
   |_ i ih=>
    by_cases h: ∃j,j<i∧bj.getD j true=false
    ·
     obtain⟨j,hj,db⟩:=h
     exact ih j hj (by omega) db
    ·
     refine⟨i,h1,h2,fun j hj=> ?_⟩
     cases hh:bj.getD j true with
     |true=>rfl
     |false=>exact absurd ⟨j,hj,hh⟩ h
  have eJ:bj.size=l.length:=by simpa using H.inv.size
  have ok: ∀k,k<l.length→ ∃x y o,ord=x++k::y∧l[k]? =some o∧B8 l fs A (x.reverse++[]) ((x.filter fun j=>fs.contains j).reverse++[]) k o:=fun k hk=>by
   obtain⟨x,y,hx⟩:=List.append_of_mem (hK k hk)
   obtain⟨o,ho,ct,-⟩:=rP ord [] [] hB x k y hx
   exact⟨x,y,o,hx,ho,ct⟩
  have wF:i0∈Region.ready .any l.toArray bj:=by
   obtain⟨x,y,o,_,ho,ct⟩:=ok i0 rz
   refine mem_ready.2 ⟨yM,o,by simpa using ho,fun e he hb=> ?_⟩
   have h1:=ct.back e he hb
   have h2:=wE e.on h1
   have h3:e.on<bj.size:=by omega
   simp[h3]at h2⊢;exact h2
  refine⟨fun h=>(by rw[h]at wF;cases wF),fun i hi=> ?_⟩
  obtain⟨fa,o',mu,nA⟩:=mem_ready.1 hi
  have qG:i<l.length:=by have:=(Array.getElem?_eq_some_iff.1 mu).1;simpa using this
  obtain⟨x,y,o,hx,ho,ct⟩:=ok i qG
  have:o'=o:=by simpa[ho]using mu.symm
  subst this
  have pz:left l.length (bj.setIfInBounds i true)=m:=by have:=Fz qG fa;omega
  have jE:di l i=o'.dst:=by simp[di,ho]
  have fT: ∀j,j≠i→(bj.setIfInBounds i true).getD j true=bj.getD j true:=fun j cx=>getD_set_ne true (Ne.symm cx)
  have mT:(bj.setIfInBounds i true).getD i true=true:=by simp[show i<bj.size by omega]
  have pQ: ∀j d,j<l.length→di l j=some d→j≠i→o'.dst≠some d:=ct.one
  have GF:(∀j∈x,j∈pre)→ ∀t∈o'.looksAt l.toArray,a.tmps[t]? =af.tmps[t]? :=fun g9 t ht=>by
   by_cases hw: ∃j,j<l.length∧di l j=some t
   ·
    obtain⟨j,hj,hd⟩:=hw
    obtain⟨ny,e,he,hb,ji⟩:=ct.reads j t hj hd ht
    have hl:=nA e he hb
    rw[ji]at hl
    rw[List.append_nil,List.mem_reverse]at ny
    exact H.done j t hj (zn (by omega) hl) (g9 j ny) hd
   ·
    have h1: ∀j,j<l.length→di l j≠some t:=fun j hj hd=>hw ⟨j,hj,hd⟩
    rw[H.rest t fun j hj _=>h1 j hj,H.full t fun j hj=>h1 j (bB j (by rw[H.ord];exact List.mem_append_left _ hj))]
  by_cases lS:i∈pre
  ·
   have g9: ∀j∈x,j∈pre:=fun j hj=>by
    obtain⟨p1,p2,hp⟩:=List.append_of_mem lS
    have h1:=H.ord
    rw[hp,hx,List.append_assoc,List.cons_append]at h1
    have w4:=cr
    rw[hx]at w4
    have h2:x=p1:=GA (h1▸w4) h1
    rw[hp,←h2];exact List.mem_append_left _ hj
   obtain⟨ee,ew⟩:=w3 ct.rr (GF g9)
   obtain⟨op,v,eA,MZ,zp,M0⟩:=H.rQ i lS fa
   have:op=o':=by rw[ho]at eA;exact(Option.some.inj eA).symm
   subst this
   have iF:fs.contains i=false:=by
    cases h:fs.contains i with
    |false=>rfl
    |true=>have:=H.fresh i lS h;rw[fa]at this;cases this
   have next: ∀w',Mem w [] w'→wpAny P .any l.toArray Q m (bj.setIfInBounds i true) (a.put op.dst v) w':=fun w' eZ=>by
    refine zo hB cr bB hK va m pre fS af L Lq E _ _ w' pz ⟨H.ord,H.inv.set hi qG,by simpa using H.mem.call eZ,fun e he=> ?_,H.keys,H.u6,H.tD,by rw[pv];exact H.size,H.nz,by rw[pw];exact H.defers,H.py,fun j hj hl=> ?_,fun j hj hf=> ?_,fun j hj hl=> ?_,fun j d hj hl pP hd=> ?_,fun d hd=> ?_,H.full⟩
    ·
     obtain⟨g1,g2,g3,g4,oe,b,g5,g7,g8⟩:=H.mX e he
     have w5:e.1≠i:=fun e2=>by
      have mF:=cr
      rw[H.ord]at mF
      exact(List.nodup_append.1 mF).2.2 i lS e.1 g1 e2.symm
     refine⟨g1,by rw[fT _ w5];exact g2,g3,g4,oe,b,g5,g7,fun d hd=> ?_⟩
     have:=g8 d hd
     unfold mC at this⊢
     rw[iE _ _ _ _ (pQ e.1 d (List.getElem?_eq_some_iff.1 g5).1 (by simp[di,g5,hd]) w5)]
     exact this
    ·
     by_cases cx:j=i
     ·
      subst cx;exact .inl lS
     ·
      exact H.sub j hj (by rw[←fT j cx];exact hl)
    ·
     rw[fT j (fun e=>by subst e;rw[iF]at hf;cases hf)];exact H.fresh j hj hf
    ·
     exact H.rQ j hj (by rw[←fT j (fun e=>by subst e;rw[mT]at hl;cases hl)];exact hl)
    ·
     by_cases cx:j=i
     ·
      subst cx
      rw[jE]at hd
      have h2:=MZ d hd
      rw[hd]
      have h3:mC a0.tmps.size d v (a.put (some d) v):=u5 H.size
      unfold mC at h2 h3
      rw[h2,h3]
     ·
      rw[fT j cx]at hl
      rw[iE _ _ _ _ (pQ j d hj hd cx)]
      exact H.done j d hj hl pP hd
    ·
     have h1:op.dst≠some d:=by
      have:=hd i qG mT
      rwa [jE]at this
     rw[iE _ _ _ _ h1]
     refine H.rest d fun j hj hl=> ?_
     by_cases cx:j=i
     ·
      subst cx;rw[jE];exact h1
     ·
      exact hd j hj (by rw[fT j cx];exact hl)
   unfold wpOp
   simp only[mu]
   rw[ew]
   split
   ·
    rename_i nC
    have h1:=zp nC w (by
     split
     ·
      exact GD
     ·
      exact H.u6 w GD)
    refine .inl ?_
    unfold Oper.wp
    rw[ee]
    unfold Oper.quietAt at h1
    generalize(execOp af.eval op).run P w=r at h1
    unfold Oper.quietUpon at h1
    split at h1
    ·
     obtain⟨rfl,rfl⟩:=h1;exact next _ (Mem.init _)
    ·
     obtain⟨rfl,e⟩:=h1;rw[e]at next;exact next _ (Mem.init _)
    ·
     obtain⟨rfl,qw⟩:=h1
     exact qw.mono fun e mR ⟨he,hm⟩=>by subst he;exact next _ hm
    ·
     exact h1.elim
   ·
    rename_i nC
    have:=M0 (by simpa using nC)
    rw[this]at next
    exact next w (Mem.init _)
  ·
   have Cm:i∈fS:=by
    have:=hK i qG
    rw[H.ord]at this
    exact(List.mem_append.1 this).resolve_left lS
   rcases Cj with rfl|⟨f,r,rfl,w6,w7⟩
   ·
    cases Cm
   have M1: ∀(v:Value) (j d:Nat),j<l.length→(bj.setIfInBounds i true).getD j true=true→j∈pre→di l j=some d→(a.put o'.dst v).tmps[d]? =af.tmps[d]? :=fun v j d hj hl pP hd=>by
    have cx:j≠i:=fun e=>lS (e▸pP)
    rw[fT j cx]at hl
    rw[iE _ _ _ _ (pQ j d hj hd cx)]
    exact H.done j d hj hl pP hd
   have zq: ∀(v:Value) (d:Nat),(∀j,j<l.length→(bj.setIfInBounds i true).getD j true=true→di l j≠some d)→(a.put o'.dst v).tmps[d]? =a0.tmps[d]? :=fun v d hd=>by
    have h1:o'.dst≠some d:=by
     have:=hd i qG mT
     rwa [jE]at this
    rw[iE _ _ _ _ h1]
    refine H.rest d fun j hj hl=> ?_
    by_cases cx:j=i
    ·
     subst cx;rw[jE];exact h1
    ·
     exact hd j hj (by rw[fT j cx];exact hl)
   have Cn:i∉E.map (·.1):=fun h=>by
    obtain⟨e,he,rfl⟩:=List.mem_map.1 h
    have:=(H.mX e he).2.1
    rw[fa]at this;cases this
   have GG: ∀(v:Value),∀e∈E,Early l fs mk a0.tmps.size (f::r) (bj.setIfInBounds i true) (a.put o'.dst v) e:=fun v e he=>by
    obtain⟨g1,g2,g3,g4,oe,b,g5,g7,g8⟩:=H.mX e he
    have w5:e.1≠i:=fun e2=>Cn (e2▸List.mem_map_of_mem he)
    refine⟨g1,by rw[fT _ w5];exact g2,g3,g4,oe,b,g5,g7,fun d hd=> ?_⟩
    have:=g8 d hd
    unfold mC at this⊢
    rw[iE _ _ _ _ (pQ e.1 d (List.getElem?_eq_some_iff.1 g5).1 (by simp[di,g5,hd]) w5)]
    exact this
   by_cases GH:i=f
   ·
    subst GH
    have g9: ∀j∈x,j∈pre:=fun j hj=>by
     have h1:=H.ord
     rw[hx]at h1
     have w4:=cr
     rw[hx]at w4
     have h2:x=pre:=GA (h1▸w4) h1
     rw[←h2];exact hj
    obtain⟨ee,ew⟩:=w3 ct.rr (GF g9)
    obtain⟨of,lI,hl⟩:=H.tD
    have:of=o':=by rw[ho]at lI;exact(Option.some.inj lI).symm
    subst this
    rw[if_pos w6]at hl
    replace hl:=hl.2
    have next: ∀v w' E' L' fj,E'=E→(∀e∈E,e.1∈r)→Mem w0 (E'.map (·.2)++L') w'→(∀w,Mem w0 L' w→Mem w0 fj w)→(∀w,Mem w0 fj w→Mem w0 Lq w)→(fs.contains (i+2000)=true∨fs.contains (i+5000)=true→ ∀w,Mem w0 L' w→Mem w0 L w)→oL P l fs mk Q w0 r (af.put of.dst v) L' fj→wpAny P .any l.toArray Q m (bj.setIfInBounds i true) (a.put of.dst v) w':=fun v w' E' L' fj tG tH g1 g2 g3 GI g4=>by
     subst tG
     refine zo hB cr bB hK va m (pre++[i]) r (af.put of.dst v) L' fj E' _ _ w' pz ⟨by rw[H.ord];simp,H.inv.set hi qG,g1,fun e he=> ?_,H.keys,g2,g4,by rw[pv];exact H.size,by rw[pv];exact H.nz,by rw[pw];exact H.defers,by rw[pw];exact H.py,fun j hj kZ=> ?_,fun j hj hf=> ?_,fun j hj kZ=> ?_,fun j d hj kZ pP hd=> ?_,zq v,fun d hd=> ?_⟩
     ·
      obtain⟨Co,M3⟩:=GG v e he
      exact⟨tH e he,M3⟩
     ·
      by_cases cx:j=i
      ·
       subst cx;exact .inl (by simp)
      ·
       exact(H.sub j hj (by rw[←fT j cx];exact kZ)).imp_left fun h=>List.mem_append_left _ h
     ·
      rcases List.mem_append.1 hj with h|h
      ·
       by_cases cx:j=i
       ·
        subst cx;exact mT
       ·
        rw[fT j cx];exact H.fresh j h hf
      ·
       obtain rfl:=List.mem_singleton.1 h;exact mT
     ·
      rcases List.mem_append.1 hj with h|h
      ·
       have cx:j≠i:=fun e=>lS (e▸h)
       cases tF:fs.contains (j+1000)with
       |true=>
        cases mY:fs.contains (i+2000)with
        |true=>
         have hp:=H.rQ j h (by rw[←fT j cx];exact kZ)
         rw[tF]at hp
         simp only[if_true]at hp⊢
         exact u7 hB cr bB H.ord ho h (GI (.inl mY)) hp
        |false=>
         cases h5:fs.contains (i+5000)with
         |true=>
          have hp:=H.rQ j h (by rw[←fT j cx];exact kZ)
          rw[tF]at hp
          simp only[if_true]at hp⊢
          exact u7 hB cr bB H.ord ho h (GI (.inr h5)) hp
         |false=>
          exfalso
          obtain⟨oi,rv,zr,-⟩:=rP ord [] [] hB pre i r H.ord
          have e1:oi=of:=by rw[ho]at rv;exact(Option.some.inj rv).symm
          subst e1
          have M4:=zr.tmp w6 mY h5 j (by rw[List.append_nil,List.mem_reverse];exact h) tF
          have iR:=GB hB hK H.inv i oi ho nA j M4
          have M5:j∈ord:=by rw[H.ord];exact List.mem_append_left _ h
          have:=zn (by have:=bB j M5;omega) iR
          rw[fT j cx]at kZ
          rw[this]at kZ;cases kZ
       |false=>
        have hp:=H.rQ j h (by rw[←fT j cx];exact kZ)
        rw[tF]at hp
        simp only[Bool.false_eq_true,if_false]at hp⊢
        exact u7 hB cr bB H.ord ho h g3 hp
      ·
       obtain rfl:=List.mem_singleton.1 h
       rw[mT]at kZ;cases kZ
     ·
      rcases List.mem_append.1 pP with h|h
      ·
       have cx:j≠i:=fun e=>lS (e▸h)
       rw[iE _ _ _ _ (pQ j d hj hd cx),iE _ _ _ _ (pQ j d hj hd cx)]
       rw[fT j cx]at kZ
       exact H.done j d hj kZ h hd
      ·
       obtain rfl:=List.mem_singleton.1 h
       rw[jE]at hd
       rw[hd]
       have h3:mC a0.tmps.size d v (a.put (some d) v):=u5 H.size
       have h4:mC a0.tmps.size d v (af.put (some d) v):=u5 H.nz
       unfold mC at h3 h4
       rw[h3,h4]
     ·
      have h1:of.dst≠some d:=by
       have:=hd i (by simp)
       rwa [jE]at this
      rw[iE _ _ _ _ h1]
      exact H.full d fun j hj=>hd j (List.mem_append_left _ hj)
    have tH: ∀e∈E,e.1∈r:=fun e he=>by
     have:=(H.mX e he).1
     exact(List.mem_cons.1 this).resolve_left fun e2=>Cn (e2▸List.mem_map_of_mem he)
    cases mY:fs.contains (i+2000)with
    |true=>
     rw[if_pos mY]at hl
     obtain⟨hg,Cq,u9⟩:=hl
     obtain⟨mx,w',ff,Cr⟩:=Cq w0 w (E.map (·.2)++L) H.mem
     unfold wpOp
     simp only[mu]
     rw[if_pos (by simp[Region.wanted,hg])]
     refine .inl ?_
     unfold Oper.wp
     rw[ee,ff]
     refine next _ _ E ((mk i).e mx::L) Lq rfl tH ?_ (fun w hw=>H.u6 w (hw.sub (List.sublist_cons_self _ _))) (fun _ h=>h) (fun _ w hw=>hw.sub (List.sublist_cons_self _ _)) (u9 _)
     exact Cr.perm (List.perm_middle.symm)
    |false=>
     rw[if_neg (by rw[mY];exact Bool.false_ne_true)]at hl
     obtain⟨hg,ff,M6⟩:=hl
     have rR:E=[]∨ ∃x,E=[x]∧fs.contains (i+4000)=true:=by
      obtain⟨oi,rv,zr,M7⟩:=rP ord [] [] hB pre i r H.ord
      rcases M7 w6 mY with h|⟨h4,h5⟩
      ·
       refine .inl (List.eq_nil_iff_forall_not_mem.2 fun e he=> ?_)
       have h1:=h e.1 (tH e he)
       rw[(H.mX e he).2.2.2.1]at h1;cases h1
      ·
       rcases tG:E with _|⟨x,_|⟨y,E'⟩⟩
       ·
        exact .inl rfl
       ·
        exact .inr ⟨x,rfl,h4⟩
       ·
        exfalso
        have m1:x.1∈r.filter fun j=>fs.contains (j+2000):=List.mem_filter.2 ⟨tH x (by rw[tG];simp),(H.mX x (by rw[tG];simp)).2.2.2.1⟩
        have m2:y.1∈r.filter fun j=>fs.contains (j+2000):=List.mem_filter.2 ⟨tH y (by rw[tG];simp),(H.mX y (by rw[tG];simp)).2.2.2.1⟩
        have GJ:=H.keys
        rw[tG]at GJ
        have cR:x.1≠y.1:=fun e=>(List.nodup_cons.1 GJ).1 (by simp[e])
        rcases dC:(r.filter fun j=>fs.contains (j+2000))with _|⟨z,_|⟨z2,fl⟩⟩
        ·
         rw[dC]at m1;cases m1
        ·
         rw[dC,List.mem_singleton]at m1 m2
         exact cR (m1.trans m2.symm)
        ·
         rw[dC]at h5;simp at h5
     have h1:upon P w (fun v w'=> ∃L' fj,Mem w0 (E.map (·.2)++L') w'∧(∀w,Mem w0 L' w→Mem w0 fj w)∧(∀w,Mem w0 fj w→Mem w0 Lq w)∧(fs.contains (i+5000)=true→ ∀w,Mem w0 L' w→Mem w0 L w)∧oL P l fs mk Q w0 r (af.put of.dst v) L' fj) ((execOp af.eval of).run P w):=by
      have w8:=H.mem
      rcases rR with hE|⟨x,hE,h4⟩
      ·
       rw[hE]at w8⊢
       exact ff w (by simpa using w8)
      ·
       rw[hE]at w8⊢
       exact M6 h4 x.2 w (by simpa using w8)
     have Cs: ∀v w',(∃L' fj,Mem w0 (E.map (·.2)++L') w'∧(∀w,Mem w0 L' w→Mem w0 fj w)∧(∀w,Mem w0 fj w→Mem w0 Lq w)∧(fs.contains (i+5000)=true→ ∀w,Mem w0 L' w→Mem w0 L w)∧oL P l fs mk Q w0 r (af.put of.dst v) L' fj)→wpAny P .any l.toArray Q m (bj.setIfInBounds i true) (a.put of.dst v) w':=fun v w' ⟨L',fj,g1,g2,g3,g5,g4⟩=>
      next v w' E L' fj rfl tH g1 g2 g3 (fun h=>h.elim (fun h=>by rw[mY]at h;cases h) g5) g4
     unfold wpOp
     simp only[mu]
     rw[if_pos (by rw[ew];exact hg)]
     refine .inl ?_
     unfold Oper.wp
     rw[ee]
     generalize(execOp af.eval of).run P w=r' at h1
     unfold upon at h1
     split at h1
     ·
      exact Cs _ _ h1
     ·
      exact Cs _ _ h1
     ·
      obtain⟨rfl,qw⟩:=h1
      exact qw.mono fun e mR ⟨u,he,hR⟩=>by subst he;exact Cs u _ hR
     ·
      exact h1.elim
   ·
    have wG:i∈r:=(List.mem_cons.1 Cm).resolve_left GH
    cases mY:fs.contains (i+2000)with
    |false=>
     exfalso
     obtain⟨r1,r2,rfl⟩:=List.append_of_mem wG
     have Ct:ord=(pre++f::r1)++i::r2:=by rw[H.ord];simp
     obtain⟨oi,rv,zr,-⟩:=rP ord [] [] hB _ i r2 Ct
     have e1:oi=o':=by rw[ho]at rv;exact(Option.some.inj rv).symm
     subst e1
     have w9:=zr.MN mY f (by
      rw[List.append_nil,List.mem_reverse,List.mem_filter]
      exact⟨by simp,w6⟩)
     have dC:=GB hB hK H.inv i oi ho nA f w9
     have ow:f∈ord:=by rw[H.ord];simp
     rcases H.sub f (bB f ow) (zn (by have:=bB f ow;omega) dC)with s0|s0
     ·
      have mF:=cr
      rw[H.ord]at mF
      exact(List.nodup_append.1 mF).2.2 f s0 f (by simp) rfl
     ·
      exact w7 s0
    |true=>
     obtain⟨of,lI,hl⟩:=H.tD
     rw[if_pos w6]at hl
     obtain⟨oa,GK,M8,Cq⟩:=hl.1 i wG mY
     have e1:oa=o':=by rw[ho]at GK;exact(Option.some.inj GK).symm
     subst e1
     have M9: ∀t∈oa.looksAt l.toArray,a.tmps[t]? =af.tmps[t]? :=fun t ht=>by
      by_cases hw: ∃j,j<l.length∧di l j=some t
      ·
       obtain⟨j,hj,hd⟩:=hw
       obtain⟨_,e,he,hb,ji⟩:=ct.reads j t hj hd ht
       have kZ:=nA e he hb
       rw[ji]at kZ
       have GL:=zn (by omega) kZ
       rcases H.sub j hj GL with hp|hp
       ·
        exact H.done j t hj GL hp hd
       ·
        obtain⟨e2,xd,rfl⟩:=List.mem_map.1 hp
        have g3:=(H.mX e2 xd).2.2.1
        rw[ct.MO mY e2.1 t hj hd ht]at g3;cases g3
      ·
       have h1: ∀j,j<l.length→di l j≠some t:=fun j hj hd=>hw ⟨j,hj,hd⟩
       rw[H.rest t fun j hj _=>h1 j hj,H.full t fun j hj=>h1 j (bB j (by rw[H.ord];exact List.mem_append_left _ hj))]
     obtain⟨ee,_⟩:=w3 ct.rr M9
     obtain⟨mx,w',ff,Cr⟩:=Cq w0 w (E.map (·.2)++L) H.mem
     have iF:fs.contains i=true:=by
      cases iF:fs.contains i with
      |true=>rfl
      |false=>
       exfalso
       obtain⟨r1,r2,rfl⟩:=List.append_of_mem wG
       exact absurd mY (by rw[va i qG iF];exact Bool.false_ne_true)
     unfold wpOp
     simp only[mu]
     rw[if_pos (by simp[Region.wanted,M8])]
     refine .inl ?_
     unfold Oper.wp
     rw[ee,ff]
     refine zo hB cr bB hK va m pre (f::r) af L Lq ((i,(mk i).e mx)::E) _ _ _ pz ⟨H.ord,H.inv.set hi qG,Cr,fun e he=> ?_,List.nodup_cons.2 ⟨Cn,H.keys⟩,H.u6,H.tD,by rw[pv];exact H.size,H.nz,by rw[pw];exact H.defers,H.py,fun j hj hl=> ?_,fun j hj hf=> ?_,fun j hj hl=> ?_,M1 _,zq _,H.full⟩
     ·
      rcases List.mem_cons.1 he with rfl|he
      ·
       exact⟨Cm,mT,iF,mY,oa,mx,ho,rfl,fun d hd=>by rw[hd];exact u5 H.size⟩
      ·
       exact GG _ e he
     ·
      by_cases cx:j=i
      ·
       subst cx;exact .inr (by simp)
      ·
       exact(H.sub j hj (by rw[←fT j cx];exact hl)).imp_right fun h=>List.mem_cons_of_mem _ h
     ·
      have cx:j≠i:=fun e=>lS (e▸hj)
      rw[fT j cx];exact H.fresh j hj hf
     ·
      have cx:j≠i:=fun e=>lS (e▸hj)
      exact H.rQ j hj (by rw[←fT j cx];exact hl)
theorem GM{id:Nat}{ro:Option Nat}[jh Q]{a:Act}{w:World}{L Lq:List aj}(A:List (List Nat))(ord:List Nat)(cr:mQ l=true)(hm:P.follows .mixedOrders=true)(hB:zj l fs A ord=true)(hC:Mem w0 L {w with drawn:=w.drawn+1})(lH: ∀w,Mem w0 L w→Mem w0 Lq w)
  (va: ∀k,k<l.length→fs.contains k=false→fs.contains (k+2000)=false)
  (h:oL P l fs mk Q w0 ord a L Lq):(Code.region id l.toArray true).wpIn (kg ro) 0 P Q a w:=by
 simp only[zj,Bool.and_eq_true,decide_eq_true_eq]at hB
 obtain⟨⟨⟨h1,h2⟩,h3⟩,h4⟩:=hB
 have hK: ∀j,j<l.length→j∈ord:=fun j hj=>by have:=List.all_eq_true.1 h1 j (List.mem_range.2 hj);simpa using this
 have bB: ∀j∈ord,j<l.length:=fun j hj=>by have:=List.all_eq_true.1 h3 j hj;simpa using this
 refine Bi cr hm ?_
 have Bt:HeadInv .any l.toArray l.length (Array.replicate l.toArray.size false):=
  ⟨by simp,fun j oj _ hl=>(by rw[getD_replicate_false]at hl;cases hl),fun t h1 h2=>by simp at h2;omega⟩
 have fa: ∀j,j<l.length→(Array.replicate l.toArray.size false).getD j true=false:=fun j hj=>by simp[hj]
 have pz:left l.length (Array.replicate l.toArray.size false)=l.length:=by
  unfold left
  rw[List.filter_eq_self.2 (fun j hj=> ?_),List.length_range]
  rw[fa j (List.mem_range.1 hj)];rfl
 have:=zo (P:=P) (Q:=Q) (w0:=w0) (a0:=a) h4 h2 bB hK va l.length [] ord a L Lq [] (Array.replicate l.toArray.size false) a _ pz
  ⟨rfl,Bt,hC,fun e he=>(by cases he),List.nodup_nil,lH,h,rfl,rfl,rfl,rfl,fun j hj hl=>(by rw[fa j hj]at hl;cases hl),fun j hj=>(by cases hj),fun j hj=>(by cases hj),fun j d hj hl=>(by rw[fa j hj]at hl;cases hl),fun _ _=>rfl,fun _ _=>rfl⟩
 simpa using this
theorem Na{id:Nat}{ro:Option Nat}[jh Q]{a:Act}{w:World}{L Lq:List aj}(A:List (List Nat))(ord:List Nat)(cr:mQ l=true)(hm:P.follows .mixedOrders=true)(hB:zh l fs A ord=true)(hC:Mem w0 L {w with drawn:=w.drawn+1})(lH: ∀w,Mem w0 L w→Mem w0 Lq w)
  (h:oL P l fs mk Q w0 ord a L Lq):(Code.region id l.toArray true).wpIn (kg ro) 0 P Q a w:=by
 have h5: ∀k,fs.contains (k+2000)=false:=fun k=>by
  simp only[zh,Bool.and_eq_true]at hB
  cases hk:fs.contains (k+2000)with
  |false=>rfl
  |true=>
   have:=List.all_eq_true.1 hB.1.2 (k+2000) (by simpa using hk)
   have:=of_decide_eq_true this
   omega
 refine GM A ord cr hm ?_ hC lH (fun k _ _=>h5 k) h
 simp only[zh,zj,Bool.and_eq_true]at hB⊢
 exact⟨hB.1.1,hB.2⟩
end
open Go.RowKit
section
variable {P:Program} {N:cy} {w0:World} {env:Env} {L R R1 R2:List aj} {Q:Exit→Act→World→Prop} {d:Option Tmp} {ty:TypeId} {ps:String} {af:Array Edge} {gd:Option (Nat×Bool)} {K:Value→List aj→Prop}
def gn(P:Program)(N:cy)(w0:World)(env:Env)(L:List aj)(o:Oper)(K:Value→List aj→Prop):Prop:=
 ∀a w,cV N env a→Mem w0 L w→upon P w (fun v w'=> ∃L',Mem w0 L' w'∧K v L') ((execOp a.eval o).run P w)
theorem qH{o:Oper}(h: ∀a w,cV N env a→Mem w0 L w→ ∃v w' L',(execOp a.eval o).run P w= .ok (.value v) w'∧Mem w0 L' w'∧K v L'):gn P N w0 env L o K:=fun a w ha hw=>by
 obtain⟨v,w',L',h1,h2,h3⟩:=h a w ha hw
 rw[h1];exact⟨L',h2,h3⟩
theorem Cu{o:Oper}(h: ∀a w,cV N env a→Mem w0 L w→ ∃w' L',(execOp a.eval o).run P w= .ok .skip w'∧Mem w0 L' w'∧K undef L'):gn P N w0 env L o K:=fun a w ha hw=>by
 obtain⟨w',L',h1,h2,h3⟩:=h a w ha hw
 rw[h1];exact⟨L',h2,h3⟩
theorem xe{w:World}{R R':Value→World→Prop}(h: ∀v w,R v w→R' v w){r:Result Next}(hr:upon P w R r):upon P w R' r:=by
 unfold upon at hr⊢
 split at hr
 ·
  exact h _ _ hr
 ·
  exact h _ _ hr
 ·
  exact⟨hr.1,hr.2.mono fun e mR ⟨v,he,hv⟩=>⟨v,he,h _ _ hv⟩⟩
 ·
  exact hr.elim
theorem GN{o:Oper}{K':Value→List aj→Prop}(h:gn P N w0 env L o K')(hk: ∀v L',K' v L'→ ∃zt,(∀w,Mem w0 L' w→Mem w0 zt w)∧K v zt):gn P N w0 env L o K:=fun a w ha hw=>
 xe (fun v _ ⟨L',h1,h2⟩=>by obtain⟨zt,h3,h4⟩:=hk v L' h2;exact⟨zt,h3 _ h1,h4⟩) (h a w ha hw)
theorem lT{X:Type}{val:X→Value}{L':X→List aj}{pr:X→Prop}{pre:Prop}{f:FuncId}{xs:List Operand}{ts:Array TypeId}{vs:List Value}[hf:aM P f](hx:gB env xs=some vs)
  [hc:bW P f w0 L vs X val L' pr pre] (hp:pre) (hk: ∀x,pr x→K (val x) (L' x)):
  gn P N w0 env L ⟨d, .call {callee:= .value (.func f),args:=xs.toArray,argTypes:=ts},ty,ps,af,gd⟩ K:=fun a w ha hw=>by
 rw[yS hf w rfl,ha.gB hx]
 exact⟨rfl,(hc.h hp w hw).mono fun e w' ⟨x,he,g9,hm⟩=>⟨val x,he,L' x,hm,hk x g9⟩⟩
section
variable {α:Type} {enc:α→Array Value} {c:Nat} {s:Sv} {xs ys:List α}
theorem Nb{t:TypeId}{z:Value}[hz:eC P t z](hk: ∀b,K ((.pointer (some ⟨b,0,none⟩))) ((ar b z.cells t::L))):
  gn P N w0 env L ⟨d, .alloc t,ty,ps,af,none⟩ K:=
 qH fun a w ha hw=>⟨_,_,_,by simp only[execOp,Instr.alloc,newVar,newRow,Sem.run_bind,yQ w hz,newObj,Sem.run,Result.andThen,Sem.run_pure];rfl,hw.alloc z.cells t,hk _⟩
theorem zu{t:TypeId}{cs:Array Value}[hz:eC P t (.agg cs)](hk: ∀b,K ((.pointer (some ⟨b,0,none⟩))) ((ar b cs t::L))):
  gn P N w0 env L ⟨d, .alloc t,ty,ps,af,none⟩ K:=Nb (z:= .agg cs) hk
theorem tI{t:TypeId}{x y:Operand}{i b o:Nat}{cs:Array Value}{T:TypeId}{v:Value}(hx:ev env x=some (.pointer (some ⟨b,o,none⟩)))(hy:ev env y=some v)[ht:gC P t][hh:Has L b cs T i](ho:o<cs.size)(hv:v.oneCell'=true){cs':Array Value}{L':List aj}(fV:cs.setIfInBounds o v=cs')[hu:eK L i (ar b cs' T) L'](hk:K undef (L')):
  gn P N w0 env L ⟨none, .store t x y,ty,ps,af,none⟩ K:=
 Cu fun a w ha hw=>by
  have hi:=hh.h
  have hb:=hw.block hi
  have hc:w.cell? ⟨b,o,none⟩=some cs[o]:=by rw[hw.cell hi];simp[ho]
  have hf:w.frozen? ⟨b,o,none⟩=false:=frozen_of_row w b o cs T hb
  subst fV
  refine⟨w.setCell ⟨b,o,none⟩ v,_,?_,?_,hk⟩
  ·
   have h1:(storeCells ⟨b,o,none⟩ [v]).run P w= .ok () (w.setCell ⟨b,o,none⟩ v):=by
    have:=run_storeCells_at (P:=P) b o T [v] 0 cs w hb (by simp;omega) (by simpa using hv)
    rw[this,setCell_eq_setRow w b o cs T (0,0) v hb]
    congr 2
    apply Array.ext'
    simp[List.set_eq_take_append_cons_drop,ho]
   have fV:v.cells= #[v]:=by cases v<;>simp_all[Value.oneCell',Value.cells]
   simp only[execOp,ha.ev hx,ha.ev hy,Instr.storeAt,Instr.sureAddr,storeVar,Sem.run_bind,Sem.run_pure,Result.andThen,jR w ht.size,fV]
   simp[h1]
  ·
   rw[setCell_eq_setRow w b o cs T (0,0) v hb]
   rw[←hu.h]
   exact hw.setRow hi _
theorem GO{t:TypeId}{x y:Operand}{i b o n:Nat}{cs vs:Array Value}{T:TypeId}(hx:ev env x=some (.pointer (some ⟨b,o,none⟩)))(hy:ev env y=some (.agg vs))[ht:eQ P t n][hh:Has L b cs T i][hs:fv vs n](ho:o+n≤cs.size){cs':Array Value}{L':List aj}(fV:cI cs o vs=cs')[hu:eK L i (ar b cs' T) L'](hk:K undef (L')):
  gn P N w0 env L ⟨none, .store t x y,ty,ps,af,none⟩ K:=
 Cu fun a w ha hw=>by
  have hi:=hh.h
  have hn:=hs.h
  have hv:=hs.one
  have hb:=hw.block hi
  subst fV
  refine⟨_,_,?_,by rw[←hu.h];exact hw.setRow hi _,hk⟩
  have h1:=run_storeCells_at (P:=P) b o T vs.toList 0 cs w hb (by simp;omega) (fun v jT=>(Array.all_eq_true_iff_forall_mem.1 hv) v (by simpa using jT))
  simp only[execOp,ha.ev hx,ha.ev hy,Instr.storeAt,Instr.sureAddr,storeVar,Value.cells,Sem.run_bind,Sem.run_pure,Result.andThen,jR w ht.size,hn]
  simp[h1,cI]
theorem km{t:TypeId}{x y:Operand}{i b n:Nat}{cs vs:Array Value}{T:TypeId}(hx:ev env x=some (.pointer (some ⟨b,0,none⟩)))(hy:ev env y=some (.agg vs))[ht:eQ P t n][hh:Has L b cs T i][hs:fv vs n][hc:fv cs n]{L':List aj}[hu:eK L i (ar b vs T) L'](hk:K undef (L')):
  gn P N w0 env L ⟨none, .store t x y,ty,ps,af,none⟩ K:=by
 have hn:=hs.h
 have LK:=hc.h
 refine GO hx hy (by omega) (?_:cI cs 0 vs=vs) hk
 apply Array.ext'
 simp[cI];omega
theorem Nc{x y:Operand}{tx fg e:TypeId}{i b o dl dc sl sc:Nat}{a:Addr}{cs vs:Array Value}{T:TypeId}(hx:ev env x=some (.slice (some ⟨b,o,none⟩) dl dc))(hy:ev env y=some (.slice (some a) sl sc))
  [ht:eB P tx e 1] [hh:Has L b cs T i] (hn:vs.size=Nat.min sl dl) (oB: ∀w,Mem w0 L w→ ∀j,j<vs.size→w.cell? (a.add j)=vs[j]?) (hv:vs.all (·.oneCell')=true) (ho:o+vs.size≤cs.size)
  {cs':Array Value} {L':List aj} (fV:cI cs o vs=cs') [hu:eK L i (ar b cs' T) L'] (hk:K ((.int .i64 vs.size)) (L')):
  gn P N w0 env L ⟨d, .call {callee:= .builtin .copy,args:= #[x,y],argTypes:= #[tx,fg]},ty,ps,af,none⟩ K:=
 qH fun aa w ha hw=>by
  have hi:=hh.h
  have hb:=hw.block hi
  subst fV
  have ff:=run_copy_row (P:=P) w tx fg ty e b o dl dc a sl sc cs T vs.toList ht.dP ht.size hb (by simpa using hn)
   (fun j v jT=>by
    have hj:j<vs.size:=by simpa using(List.getElem?_eq_some_iff.1 jT).1
    rw[oB w hw j hj];simpa using jT) (by simpa using ho) (fun v jT=>(Array.all_eq_true_iff_forall_mem.1 hv) v (by simpa using jT))
  refine⟨_,w.setRow b (cI cs o vs),_,?_,by rw[←hu.h];exact hw.setRow hi _,hk⟩
  simp[execOp,ha.ev hx,ha.ev hy,resolve,invoke,builtin,ff,Result.andThen,goInt,cI]
theorem zv{t tx e:TypeId}{x y:Operand}{yv:Value}{cE i:Nat}[ht:eo P t e c cE][he:bF enc c](hx:ev env x=some s.val)(hy:ev env y=some yv)[q:eT L s enc c xs i](hc:0<c)
  (hs: ∀w,Mem w0 L w→Src P c tx yv ys.length (aQ enc ys) w) (hb:(xs.length+ys.length)*cE≤140737488355328) (ij:xs.length+ys.length≤140737488355328) {L':Sv→List aj} [hu: ∀s',eK L i (own enc c s' (xs++ys)) (L' s')]
  (hk: ∀s':Sv,s'.Ok→s'.len=(xs++ys).length→K (s'.val) ((L' s'))):
  gn P N w0 env L ⟨d, .call {callee:= .builtin .append,args:= #[x,y],argTypes:= #[t,tx]},ty,ps,af,none⟩ K:=
 qH fun a w ha hw=>by
  obtain⟨s',w',h1,h2,h3,h4⟩:=BM (ty:=ty) ht hc hw q.h (hs w hw) hb ij
  refine⟨s'.val,w',L' s',?_,by rw[←(hu s').h];exact h4,hk s' h2 h3⟩
  simp[execOp,ha.ev hx,ha.ev hy,resolve,invoke,builtin,h1,Result.andThen]
theorem GP{t e:TypeId}{cE n:Nat}[ht:eo P t e c cE][he:bF enc c]{ops:List (Nat×Operand)}{vals:List Value}(xs:List α)(hx:jS env ops=some (idx vals 0))(hv:vals.map Value.cells=xs.map enc)(hn:xs.length=n)(hc:0<n*c)(qB:n*c≤16777216)
  (hk: ∀b,K ((Sv.val ⟨false,b,0,n,n,none⟩)) ((own enc c ⟨false,b,0,n,n,none⟩ xs::L))):
  gn P N w0 env L ⟨d, .buildSlice t n ops.toArray,ty,ps,af,none⟩ K:=
 qH fun a w ha hw=>by
  subst hn
  have e1:(ops.toArray.map fun(p:Nat×Operand)=>match p with|(i,x)=>(i,a.eval x))=(idx vals 0).toArray:=by
   rw[←ha.jS hx];simp
  refine⟨_,_,_,?_,hw.call (tv (enc:=enc) (c:=c) (xs:=xs) (cs:=(aQ enc xs).toArray) (e:=e) rfl xs.length xs.length rfl (Nat.le_refl _) (BN hc qB) (by simp[gl]) fun i x hx j hj=>by rw[←lN (enc:=enc) xs i x hx j hj];simp),hk _⟩
  simp only[execOp,e1,Sem.run_bind,BO ht hv hc qB w,Result.andThen,Sem.run_pure];rfl
theorem GQ{t e:TypeId}{cE n cap:Nat}{z:Value}{x y:Operand}{k k':IntKind}{ix iy:Int}[ht:eo P t e c cE][hz:eC P e z](x0:α)(h0:enc x0=z.cells)(hx:ev env x=some (.int k ix))(hy:ev env y=some (.int k' iy))(ex:ix=(n:Int))(ey:iy=(cap:Int))(hle:n≤cap)(hb:cE*cap≤281474976710656)(ij:cap≤140737488355328)
  (hk: ∀b,K ((Sv.val ⟨false,b,0,n,cap,none⟩)) ((own enc c ⟨false,b,0,n,cap,none⟩ (List.replicate n x0)::L))):
  gn P N w0 env L ⟨d, .makeSlice t x y,ty,ps,af,none⟩ K:=
 qH fun a w ha hw=>by
  subst ex ey
  obtain⟨w',h1,h2⟩:=BP ht hz (k:=k) (k':=k') (n:=n) x0 h0 hle hb ij w
  exact⟨_,w',_,by simp only[execOp,ha.ev hx,ha.ev hy,Sem.run_bind,h1,Result.andThen,Sem.run_pure],hw.call h2,hk _⟩
theorem tJ{t:TypeId}{x y:Operand}{i k j n p:Nat}{a a':α}{v:Value}(sz:(P.info? t).map (·.size)=some n)[he:bF enc c](hx:ev env x=some (.pointer (some ⟨s.b,p,none⟩)))(hy:ev env y=some v)[q:eT L s enc c xs i](gW:p=s.o+k*c+j)
  (ha:xs[k]? =some a) (hv:v.cells.all (·.oneCell')=true) (hn:v.cells.size=n) (hj:j+n≤c) (oE:cI (enc a) j v.cells=enc a') {L':List aj} [hu:eK L i (own enc c s (xs.set k a')) L'] (hk:K undef (L')):
  gn P N w0 env L ⟨none, .store t x y,ty,ps,af,none⟩ K:=
 Cu fun aa w wQ hw=>by
  subst gW hn
  obtain⟨w',h1,h2⟩:=FR (P:=P) hw q ha hv hj oE hu
  refine⟨w',_,?_,h2,hk⟩
  simp only[execOp,wQ.ev hx,wQ.ev hy,Instr.storeAt,Instr.sureAddr,storeVar,Sem.run_bind,Sem.run_pure,Result.andThen,jR w sz]
  simp[h1]
theorem Nf{t e:TypeId}{cE:Nat}(enc:α→Array Value)[ht:eo P t e c cE][he:bF enc c](hk: ∀b,K ((Sv.val ⟨false,b,0,0,0,none⟩)) ((own enc c ⟨false,b,0,0,0,none⟩ []::L))):
  gn P N w0 env L ⟨d, .buildSlice t 0 #[],ty,ps,af,none⟩ K:=
 qH fun a w _ hw=>by
  refine⟨_,_,_,?_,hw.call (tv (enc:=enc) (c:=c) (xs:=[]) (cs:= #[]) (e:=e) rfl 0 0 rfl (Nat.le_refl _) (Nat.zero_le _) (by simp) (by simp)),hk _⟩
  simp only[execOp,Sem.run_bind,List.map_toArray,List.map_nil,F1 ht w,Result.andThen,Sem.run_pure];rfl
theorem Ng{P:Program}{N:cy}{w0:World}{env:Env}{L:List aj}{ty:TypeId}{ps:String}{af:Array Edge}{τ:Type}{t:TypeId}{x y:Operand}{i k p:Nat}{s:Sv}{xs:List (Sl τ)}{a:Sl τ}(a':Sl τ)
  (sz:(P.info? t).map (·.size)=some 1) (hx:ev env x=some (.pointer (some ⟨s.b,p,none⟩))) (hy:ev env y=some a'.sv.val) [q:eT L s (bP (τ:=τ)) 1 xs i] (gW:p=s.o+k*1) (ha:xs[k]? =some a) {L':List aj} [hu:eK L i (own bP 1 s (xs.set k a')) L'] (hk:K undef (L')):
  gn P N w0 env L ⟨none, .store t x y,ty,ps,af,none⟩ K:=
 tJ (j:=0) (a':=a') sz hx hy (q:=q) gW ha (by rw[Sv.hQ];simp[Sv.one]) (by rw[Sv.hQ];rfl) (by decide) (by rw[Sv.hQ];rfl) hk
theorem Nh{α:Type}{enc:α→Array Value}{x y:Operand}{tx fg e:TypeId}{i b o dl dc:Nat}{sv:Sv}{ys:List α}{cs:Array Value}{T:TypeId}(hx:ev env x=some (.slice (some ⟨b,o,none⟩) dl dc))(hy:ev env y=some sv.val)
  [ht:eB P tx e 1] [hh:Has L b cs T i] [q:Hd w0 L sv enc 1 ys] [he:bF enc 1] (h0:0<ys.length) (hl:ys.length≤dl) (ho:o+ys.length≤cs.size)
  {cs':Array Value} {L':List aj} (fV:cI cs o (aQ enc ys).toArray=cs') [hu:eK L i (ar b cs' T) L'] (hk:K ((.int .i64 (ys.length:Nat))) (L')):
  gn P N w0 env L ⟨d, .call {callee:= .builtin .copy,args:= #[x,y],argTypes:= #[tx,fg]},ty,ps,af,none⟩ K:=fun a w ha hw=>by
 have r:=q.h w hw
 have hn:=r.some (i:=0) h0
 have hlen:=r.len
 rw[Sv.gD hn,r.ok.sp (by have:=r.ok.le;omega)]at hy
 have hs:(aQ enc ys).toArray.size=ys.length:=by rw[List.size_toArray,gl,Nat.mul_one]
 have iQ:=hk
 rw[←hs]at iQ
 refine Nc (vs:=(aQ enc ys).toArray) hx hy ?_ (fun w hw j hj=> ?_) ?_ (by rw[hs];exact ho) fV iQ a w ha hw
 ·
  rw[hs];simp only[Nat.min_def];split<;>omega
 ·
  rw[hs]at hj
  have:=lN (enc:=enc) ys j ys[j] (by simp[hj]) 0 (by decide)
  have r2:=(q.h w hw).row j ys[j] (by simp[hj]) 0 (by decide)
  simp only[Nat.mul_one,Nat.add_zero]at this r2
  rw[Addr.fF,pF,r2,←this];simp
 ·
  rw[Array.all_eq_true_iff_forall_mem];intro v hv;exact rG (enc:=enc) ys v (by simpa using hv)
end
section
variable {τ:Type} [dp:Deep τ] {enc:τ→Array Value} {c:Nat}
end
theorem GR{l:List Oper}{rest:List Oper}{o:Oper}(hg:o.guard=none)(hd:cW N o.dst=true)(h:gn P N w0 env L o (fun v L'=>Sq P N w0 l Q rest (cm env o.dst v) L')):Sq P N w0 l Q (o::rest) env L:=fun a w ha hw=>by
 unfold wpList
 rw[if_pos (oy hg)]
 refine .inl ?_
 have h1:=h a w ha hw
 unfold Oper.wp
 generalize(execOp a.eval o).run P w=r at h1
 unfold upon at h1
 split at h1
 ·
  obtain⟨L',h2,h3⟩:=h1;exact h3 _ _ (ha.put hd _) h2
 ·
  obtain⟨L',h2,h3⟩:=h1;exact h3 _ _ (ha.put hd _) h2
 ·
  obtain⟨rfl,hc⟩:=h1
  exact hc.mono fun e mR ⟨v,he,L',h2,h3⟩=>by subst he;exact h3 _ _ (ha.put hd _) h2
 ·
  exact h1.elim
end
section
variable {P:Program} {N:cy} {w0:World} {env:Env} {L Lq:List aj} {l:List Oper} {fs ord:List Nat} {mk:Nat→lR} {Q:Exit→Act→World→Prop} {k:Nat} {o:Oper}
def Ln(P:Program)(N:cy)(w0:World)(l:List Oper)(fs:List Nat)(mk:Nat→lR)(Q:Exit→Act→World→Prop)(ord:List Nat)(env:Env)(L Lq:List aj):Prop:= ∀a,cV N env a→oL P l fs mk Q w0 ord a L Lq
def Cert(P:Program)(N:cy)(env:Env)(l:List Oper)(fs:List Nat)(mk:Nat→lR)(ord:List Nat):Prop:=
 ∀i∈ord,fs.contains (i+2000)=true→ ∃oi,l[i]? =some oi∧oi.guard=none∧ ∀a,cV N env a→qE P oi a.eval (mk i)
theorem Cert.none(h:(ord.all fun i=> !fs.contains (i+2000))=true):Cert P N env l fs mk ord:=fun i hi hf=>by
 have:=List.all_eq_true.1 h i hi
 rw[hf]at this;cases this
theorem Cert.one{i:Nat}{m:lR}(ho:l[i]? =some o)(hg:o.guard=Option.none)(hm:mk i=m)(h: ∀a,cV N env a→qE P o a.eval m)(hr:Cert P N env l fs mk (ord.filter fun j=> !(j==i))):Cert P N env l fs mk ord:=fun j hj hf=>by
 by_cases e:j=i
 ·
  subst e
  exact⟨o,ho,hg,by rw[hm];exact h⟩
 ·
  exact hr j (List.mem_filter.2 ⟨hj,by simpa using e⟩) hf
theorem Cert.at(h:Cert P N env l fs mk ord){a:Act}(ha:cV N env a): ∀i∈ord,fs.contains (i+2000)=true→ ∃oi,l[i]? =some oi∧oi.guard=Option.none∧qE P oi a.eval (mk i):=fun i hi hf=>by
 obtain⟨oi,h1,h2,h3⟩:=h i hi hf
 exact⟨oi,h1,h2,h3 a ha⟩
theorem xf(h:Ex N w0 Q .normal env L):Ln P N w0 l fs mk Q [] env L Lq:=fun a ha w hw=>h a w ha hw
theorem GS{v:Value}(ho:l[k]? =some o)(hf:fs.contains k=false)(hd:cW N o.dst=true)(h1: ∀a,cV N env a→Region.wanted o (yielded l.toArray a.tmps)=true→qu P o a (Mem w0 Lq) v)(h2: ∀a,cV N env a→Region.wanted o (yielded l.toArray a.tmps)=false→v=undef)
  (hk:Ln P N w0 l fs mk Q ord (cm env o.dst v) L Lq) (jY:fs.contains (k+1000)=false:=by rfl):Ln P N w0 l fs mk Q (k::ord) env L Lq:=fun a ha=>
 ⟨o,ho,by
  rw[if_neg (by rw[hf];exact Bool.false_ne_true)]
  exact⟨v,by rw[if_neg (by rw[jY];exact Bool.false_ne_true)];exact h1 a ha,h2 a ha,hk _ (ha.put hd v)⟩⟩
theorem Ni{v:Value}(ho:l[k]? =some o)(h:Yl P N w0 env L o v)(hk:Ln P N w0 l fs mk Q ord (cm env o.dst v) L Lq)(hg:o.guard=none:=by rfl)(hd:cW N o.dst=true:=by rfl)(hf:fs.contains k=false:=by rfl)(jY:fs.contains (k+1000)=true:=by rfl):Ln P N w0 l fs mk Q (k::ord) env L Lq:=fun a ha=>
 ⟨o,ho,by
  rw[if_neg (by rw[hf];exact Bool.false_ne_true)]
  exact⟨v,fun _=>by rw[if_pos jY];exact h a ha,(fun hw=>by rw[oy hg]at hw;cases hw),hk _ (ha.put hd v)⟩⟩
theorem jo{v:Value}(ho:l[k]? =some o)(h:Ry P N w0 env L o v)(hk:Ln P N w0 l fs mk Q ord (cm env o.dst v) L Lq)(hg:o.guard=none:=by rfl)(hd:cW N o.dst=true:=by rfl)(hf:fs.contains k=false:=by rfl)(jY:fs.contains (k+1000)=true:=by rfl):Ln P N w0 l fs mk Q (k::ord) env L Lq:=Ni ho h.yl hk hg hd hf jY
theorem nM{v:Value}(ho:l[k]? =some o)(h:Yl P N w0 env Lq o v)(hk:Ln P N w0 l fs mk Q ord (cm env o.dst v) L Lq)(hg:o.guard=none:=by rfl)(hd:cW N o.dst=true:=by rfl)(hf:fs.contains k=false:=by rfl)(jY:fs.contains (k+1000)=false:=by rfl):Ln P N w0 l fs mk Q (k::ord) env L Lq:=
 GS (jY:=jY) ho hf hd (fun a ha _=>h a ha) (fun a ha hw=>by rw[oy hg]at hw;cases hw) hk
theorem ak{v:Value}(ho:l[k]? =some o)(h:Ry P N w0 env Lq o v)(hk:Ln P N w0 l fs mk Q ord (cm env o.dst v) L Lq)(hg:o.guard=none:=by rfl)(hd:cW N o.dst=true:=by rfl)(hf:fs.contains k=false:=by rfl)(jY:fs.contains (k+1000)=false:=by rfl):Ln P N w0 l fs mk Q (k::ord) env L Lq:=nM ho h.yl hk hg hd hf jY
theorem GU{v:Value}{j t:Nat}{g:Bool}(ho:l[k]? =some o)(hg:o.guard=some (j,false))(hj:(l[j]?).bind (·.dst)=some t)(hv:look env t=some (.bool g))(h:(!g)=true→Yl P N w0 env Lq o v)
  (hk:Ln P N w0 l fs mk Q ord (cm env o.dst (if(!g)=true then v else undef)) L Lq) (hd:cW N o.dst=true:=by rfl) (hf:fs.contains k=false:=by rfl) (jY:fs.contains (k+1000)=false:=by rfl):Ln P N w0 l fs mk Q (k::ord) env L Lq:=
 GS (jY:=jY) ho hf hd (fun a ha hw=>by
  rw[tn ha hg hj hv]at hw
  cases g
  ·
   exact h rfl a ha
  ·
   cases hw) (fun a ha hw=>by
  rw[tn ha hg hj hv]at hw
  cases g
  ·
   cases hw
  ·
   rfl) hk
theorem GV(ho:l[k]? =some o)(h:gn P N w0 env L o fun v L'=> ∃fj,(∀w,Mem w0 L' w→Mem w0 fj w)∧(∀w,Mem w0 fj w→Mem w0 Lq w)∧Ln P N w0 l fs mk Q ord (cm env o.dst v) L' fj)(hg:o.guard=none:=by rfl)(hd:cW N o.dst=true:=by rfl)(hf:fs.contains k=true:=by rfl)(pR:fs.contains (k+2000)=false:=by rfl)(vb:fs.contains (k+4000)=false:=by rfl)(qI:fs.contains (k+5000)=false:=by rfl)(hC:Cert P N env l fs mk ord:=by exact Cert.none rfl):Ln P N w0 l fs mk Q (k::ord) env L Lq:=fun a ha=>
 ⟨o,ho,by
  rw[if_pos hf,if_neg (by rw[pR];exact Bool.false_ne_true)]
  exact⟨hC.at ha,oy hg,fun w hw=>xe (fun v w' ⟨L',h1,fj,h2,h3,h4⟩=>⟨L',fj,h1,h2,h3,(fun h=>by rw[qI]at h;cases h),h4 _ (ha.put hd v)⟩) (h a w ha hw),fun h=>by rw[vb]at h;cases h⟩⟩
theorem GW(ho:l[k]? =some o)(h:gn P N w0 env L o fun v L'=>(∀w,Mem w0 L' w→Mem w0 Lq w)∧(∀w,Mem w0 L' w→Mem w0 L w)∧Ln P N w0 l fs mk Q ord (cm env o.dst v) L' Lq)(hg:o.guard=none:=by rfl)(hd:cW N o.dst=true:=by rfl)(hf:fs.contains k=true:=by rfl)(pR:fs.contains (k+2000)=false:=by rfl)(vb:fs.contains (k+4000)=false:=by rfl)(hC:Cert P N env l fs mk ord:=by exact Cert.none rfl):Ln P N w0 l fs mk Q (k::ord) env L Lq:=fun a ha=>
 ⟨o,ho,by
  rw[if_pos hf,if_neg (by rw[pR];exact Bool.false_ne_true)]
  exact⟨hC.at ha,oy hg,fun w hw=>xe (fun v w' ⟨L',h1,h2,h3,h4⟩=>⟨L',Lq,h1,h2,fun _ h=>h,(fun _=>h3),h4 _ (ha.put hd v)⟩) (h a w ha hw),fun h=>by rw[vb]at h;cases h⟩⟩
theorem Nj(K:Value→List aj→Prop)(ho:l[k]? =some o)(h:gn P N w0 env L o K)(hF: ∀e,gn P N w0 env (e::L) o fun v L'=> ∃L1,(∀w,Mem w0 L' w→Mem w0 (e::L1) w)∧K v L1)(hk: ∀v L',K v L'→(∀w,Mem w0 L' w→Mem w0 Lq w)∧Ln P N w0 l fs mk Q ord (cm env o.dst v) L' Lq)(hC:Cert P N env l fs mk ord)(hg:o.guard=none:=by rfl)(hd:cW N o.dst=true:=by rfl)(hf:fs.contains k=true:=by rfl)(pR:fs.contains (k+2000)=false:=by rfl)(qI:fs.contains (k+5000)=false:=by rfl):Ln P N w0 l fs mk Q (k::ord) env L Lq:=fun a ha=>
 ⟨o,ho,by
  rw[if_pos hf,if_neg (by rw[pR];exact Bool.false_ne_true)]
  exact⟨hC.at ha,oy hg,fun w hw=>xe (fun v w' ⟨L',h1,h2⟩=>⟨L',Lq,h1,(hk v L' h2).1,fun _ h=>h,(fun h=>by rw[qI]at h;cases h),(hk v L' h2).2 _ (ha.put hd v)⟩) (h a w ha hw),fun _ e w hw=>xe (fun v w' ⟨L',h1,L1,h2,h3⟩=>⟨L1,Lq,h2 _ h1,(hk v L1 h3).1,fun _ h=>h,(fun h=>by rw[qI]at h;cases h),(hk v L1 h3).2 _ (ha.put hd v)⟩) (hF e a w ha hw)⟩⟩
theorem rS{X:Type}{val:X→Value}{L':X→List aj}{L2:aj→X→List aj}{pr:X→Prop}{pre:Prop}{f:FuncId}{xs:List Operand}{ts:Array TypeId}{vs:List Value}{d:Option Tmp}{ty:TypeId}{ps:String}{af:Array Edge}[hf:aM P f](ho:l[k]? =some ⟨d, .call {callee:= .value (.func f),args:=xs.toArray,argTypes:=ts},ty,ps,af,none⟩)(hx:gB env xs=some vs)
  [hc:bW P f w0 L vs X val L' pr pre] [Cv: ∀e,bW P f w0 (e::L) vs X val (L2 e) pr pre] (hp:pre) (hP: ∀e x w,Mem w0 (L2 e x) w→Mem w0 (e::L' x) w) (hC:Cert P N env l fs mk ord) (hk: ∀x,pr x→(∀w,Mem w0 (L' x) w→Mem w0 Lq w)∧Ln P N w0 l fs mk Q ord (cm env d (val x)) (L' x) Lq)
  (hd:cW N d=true:=by rfl) (vc:fs.contains k=true:=by rfl) (pR:fs.contains (k+2000)=false:=by rfl) (qI:fs.contains (k+5000)=false:=by rfl):Ln P N w0 l fs mk Q (k::ord) env L Lq:=
 Nj (fun v L1=> ∃x,v=val x∧L1=L' x∧pr x) ho (lT hx hp fun x g9=>⟨x,rfl,rfl,g9⟩) (fun e=>GN (lT (K:=fun v L1=> ∃x,v=val x∧L1=L2 e x∧pr x) hx hp fun x g9=>⟨x,rfl,rfl,g9⟩) fun v L1 ⟨x,h1,h2,h3⟩=>⟨L1,fun _ h=>h,L' x,fun w hw=>hP e x w (by rw[←h2];exact hw),x,h1,rfl,h3⟩)
  (fun v L1 ⟨x,h1,h2,h3⟩=>by subst h1;subst h2;exact hk x h3) hC rfl hd vc pR qI
theorem mZ{m:lR}(ho:l[k]? =some o)(hm:mk k=m)(h: ∀a,cV N env a→qE P o a.eval m)(hC:Cert P N env l fs mk ord)(hk: ∀x:m.X,Ln P N w0 l fs mk Q ord (cm env o.dst (m.v x)) (m.e x::L) Lq)(hg:o.guard=none:=by rfl)(hd:cW N o.dst=true:=by rfl)(hf:fs.contains k=true:=by rfl)(jY:fs.contains (k+2000)=true:=by rfl):Ln P N w0 l fs mk Q (k::ord) env L Lq:=fun a ha=>by
 subst hm
 refine⟨o,ho,?_⟩
 rw[if_pos hf,if_pos jY]
 exact⟨hC.at ha,hg,h a ha,fun x=>hk x _ (ha.put hd _)⟩
theorem cK(ho:l[k]? =some o)(h:gn P N w0 env L o fun v L'=>(∀w,Mem w0 L' w→Mem w0 Lq w)∧Ln P N w0 l fs mk Q ord (cm env o.dst v) L' Lq)(hg:o.guard=none:=by rfl)(hd:cW N o.dst=true:=by rfl)(hf:fs.contains k=true:=by rfl)(pR:fs.contains (k+2000)=false:=by rfl)(vb:fs.contains (k+4000)=false:=by rfl)(qI:fs.contains (k+5000)=false:=by rfl)(hC:Cert P N env l fs mk ord:=by exact Cert.none rfl):Ln P N w0 l fs mk Q (k::ord) env L Lq:=
 GV (pR:=pR) (vb:=vb) (qI:=qI) (hC:=hC) ho (GN h fun v L' ⟨h1,h2⟩=>⟨L',fun _ h=>h,Lq,h1,fun _ h=>h,h2⟩) hg hd hf
def Cx:List (Nat×lR)→Nat→lR
 |[],_=>⟨Unit,fun _=>undef,fun _=> .emp⟩
 |(i,m)::r,k=>match Nat.beq i k with
  |true=>m
  |false=>Cx r k
@[reducible] def kF (P:Program)(t:TypeId){z:Value}[_hz:eC P t z]:lR:=⟨Nat,fun b=> .pointer (some ⟨b,0,none⟩),fun b=>ar b z.cells t⟩
theorem jZ{t:TypeId}{z:Value}[hz:eC P t z]{d:Option Tmp}{ty:TypeId}{ps:String}{af:Array Edge}{gd:Option (Nat×Bool)}: ∀a,cV N env a→qE P ⟨d, .alloc t,ty,ps,af,gd⟩ a.eval (kF P t):=fun a _ w0 w L hw=>by
 refine⟨w.heap.size,w.alloc (.cells z.cells t),?_,hw.alloc z.cells t⟩
 simp only[execOp,Instr.alloc,newVar,newRow,Sem.run_bind,yQ w hz,newObj,Sem.run,Result.andThen,Sem.run_pure];rfl
@[reducible] def nN {α:Type}(enc:α→Array Value)(c n:Nat)(xs:List α):lR:=⟨Nat,fun b=>Sv.val ⟨false,b,0,n,n,none⟩,fun b=>own enc c ⟨false,b,0,n,n,none⟩ xs⟩
theorem zw{α:Type}{enc:α→Array Value}{c:Nat}{t e:TypeId}{cE n:Nat}{d:Option Tmp}{ty:TypeId}{ps:String}{af:Array Edge}{gd:Option (Nat×Bool)}[ht:eo P t e c cE][he:bF enc c]{ops:List (Nat×Operand)}{vals:List Value}(xs:List α)(hx:jS env ops=some (idx vals 0))(hv:vals.map Value.cells=xs.map enc)(hn:xs.length=n)(hc:0<n*c)(qB:n*c≤16777216):
  ∀a,cV N env a→qE P ⟨d, .buildSlice t n ops.toArray,ty,ps,af,gd⟩ a.eval (nN enc c n xs):=fun a ha w0 w L hw=>by
 subst hn
 have e1:(ops.toArray.map fun(p:Nat×Operand)=>match p with|(i,x)=>(i,a.eval x))=(idx vals 0).toArray:=by
  rw[←ha.jS hx];simp
 refine⟨w.heap.size,_,?_,hw.call (tv (enc:=enc) (c:=c) (xs:=xs) (cs:=(aQ enc xs).toArray) (e:=e) rfl xs.length xs.length rfl (Nat.le_refl _) (BN hc qB) (by simp[gl]) fun i x hx j hj=>by rw[←lN (enc:=enc) xs i x hx j hj];simp)⟩
 simp only[execOp,e1,Sem.run_bind,BO ht hv hc qB w,Result.andThen,Sem.run_pure];rfl
theorem oN{id:Nat}[jh Q](fs:List Nat)(A:List (List Nat))(ord:List Nat)(Lq:List aj)(mk:List (Nat×lR))(Nk:(fs.all fun j=>decide (j<2000)||decide (4000≤j)||fs.contains (j -2000))=true)(lH: ∀w,Mem w0 L w→Mem w0 Lq w)(hm:P.follows .mixedOrders=true)(hB:zj l fs A ord=true)(h:Ln P N w0 l fs (Cx mk) Q ord env L Lq)(bB:l.length≤1000:=by decide)(cr:mQ l=true:=by kernel_rfl):Cw P N w0 Q (.region id l.toArray true) env L:=fun a _ ha hw=>by
 refine GM A ord cr hm hB hw.yC lH (fun k tE hk=> ?_) (h a ha)
 cases h2:fs.contains (k+2000)with
 |false=>rfl
 |true=>
  have:=List.all_eq_true.1 Nk (k+2000) (by simpa using h2)
  rw[Bool.or_eq_true,Bool.or_eq_true,decide_eq_true_eq,decide_eq_true_eq]at this
  rcases this with(h|h)|h
  ·
   omega
  ·
   omega
  ·
   rw[Nat.add_sub_cancel,hk]at h;cases h
theorem fw{id:Nat}[jh Q](fs:List Nat)(A:List (List Nat))(ord:List Nat)(Lq:List aj)(lH: ∀w,Mem w0 L w→Mem w0 Lq w)(hm:P.follows .mixedOrders=true)(hB:zh l fs A ord=true)(h:Ln P N w0 l fs (Cx []) Q ord env L Lq)(cr:mQ l=true:=by kernel_rfl):Cw P N w0 Q (.region id l.toArray true) env L:=fun a _ ha hw=>
 Na A ord cr hm hB hw.yC lH (h a ha)
end
open Go.RowKit
theorem Ry.n{P:Program}{N:cy}{w0:World}{env:Env}{L:List aj}{d:Option Tmp}{ty:TypeId}{ps:String}{af:Array Edge}{gd:Option (Nat×Bool)}{s:TypeId}{x:Operand}{fi off b o o':Nat}[hf:dA P s fi off](hx:ev env x=some (.pointer (some ⟨b,o,none⟩)))(ho:Nat.add o off=o':=by(simp only[Nat.add_eq,Nat.reduceAdd];exact rfl)):
  Ry P N w0 env L ⟨d, .fieldAddr s x fi,ty,ps,af,gd⟩ (.pointer (some ⟨b,o',none⟩)):=aA hx ho
theorem tS{P:Program}{N:cy}{w0:World}{l:List Oper}{Q:Exit→Act→World→Prop}{rest:List Oper}{env:Env}{L:List aj}{d:Option Tmp}{ty:TypeId}{ps:String}{af:Array Edge}(op:Op)(gd:Option (Nat×Bool))(h:Sq P N w0 l Q (⟨d,op,ty,ps,af,gd⟩::rest) env L):Sq P N w0 l Q (⟨d,op,ty,ps,af,gd⟩::rest) env L:=h
theorem tQ{P:Program}{N:cy}{w0:World}{l:List Oper}{fs:List Nat}{F:Act→Prop}{k:Nat}{rest:List Oper}{env:Env}{L:List aj}{d:Option Tmp}{ty:TypeId}{ps:String}{af:Array Edge}(op:Op)(gd:Option (Nat×Bool))(h:Qt P N w0 l fs F k (⟨d,op,ty,ps,af,gd⟩::rest) env L):Qt P N w0 l fs F k (⟨d,op,ty,ps,af,gd⟩::rest) env L:=h
theorem Gs{G G':Prop}(k:G')(h:G'→G:=by
 intro k
 first
 |(with_reducible refine tS (.move _) none ?_);exact ae (au rfl) k
 |(with_reducible refine tS (.assign _) none ?_);exact ae (aP rfl) k
 |(with_reducible refine tS (.fieldAddr _ _ _) none ?_);exact ae (Ry.n rfl) k
 |(with_reducible refine tS (.load _ _) none ?_);exact ae (bl rfl) k
 |(with_reducible refine tS (.load _ _) none ?_);exact ae (dW rfl) k
 |(with_reducible refine tS (.binOp .add _ _ _ _) none ?_);exact ae (gk rfl rfl (by omega)) k
 |(with_reducible refine tS (.binOp .sub _ _ _ _) none ?_);exact ae (qx rfl rfl (by omega)) k
 |(with_reducible refine tS (.pick _ _ _) none ?_);exact ae (hM rfl rfl rfl) k
 |(with_reducible refine tS (.pick _ _ _) none ?_);exact ae (nD rfl rfl rfl) k
 |(with_reducible refine tS (.unOp _ _ _) none ?_);exact ae (fU rfl) k
 |(with_reducible refine tS (.binOp _ _ _ _ _) none ?_);exact ae (bt rfl rfl rfl) k
 |(with_reducible refine tS (.nilCheck _) none ?_);exact ae (iV rfl) k
 |(with_reducible refine tS (.call _) none ?_);exact ae (iT rfl) k
 |(with_reducible refine tS (.store _ _ _) none ?_);exact pC rfl rfl k
 |(with_reducible refine tS (.call _) none ?_);exact dQ (bX rfl trivial) k):G:=h k
theorem Gq{G G':Prop}(k:G')(h:G'→G:=by
 intro k
 first
 |(with_reducible refine tQ (.move _) none ?_);exact aT (au rfl) k
 |(with_reducible refine tQ (.assign _) none ?_);exact aT (aP rfl) k
 |(with_reducible refine tQ (.fieldAddr _ _ _) none ?_);exact aT (Ry.n rfl) k
 |(with_reducible refine tQ (.load _ _) none ?_);exact aT (bl rfl) k
 |(with_reducible refine tQ (.load _ _) none ?_);exact aT (dW rfl) k
 |(with_reducible refine tQ (.binOp .add _ _ _ _) none ?_);exact aT (gk rfl rfl (by omega)) k
 |(with_reducible refine tQ (.binOp .sub _ _ _ _) none ?_);exact aT (qx rfl rfl (by omega)) k
 |(with_reducible refine tQ (.pick _ _ _) none ?_);exact aT (hM rfl rfl rfl) k
 |(with_reducible refine tQ (.pick _ _ _) none ?_);exact aT (nD rfl rfl rfl) k
 |(with_reducible refine tQ (.unOp _ _ _) none ?_);exact aT (fU rfl) k
 |(with_reducible refine tQ (.binOp _ _ _ _ _) none ?_);exact aT (bt rfl rfl rfl) k
 |(with_reducible refine tQ (.nilCheck _) none ?_);exact aT (iV rfl) k
 |(with_reducible refine tQ (.call _) none ?_);exact aT (iT rfl) k):G:=h k
theorem Gg{G G':Prop}(k:G')(h:G'→G:=by
 intro k
 first
 |(with_reducible refine tS (.move _) (some (_,false)) ?_);exact bD rfl rfl rfl (fun hg=>Ry.yl (au rfl)) k
 |(with_reducible refine tS (.fieldAddr _ _ _) (some (_,false)) ?_);exact bD rfl rfl rfl (fun hg=>Ry.yl (Ry.n rfl)) k
 |(with_reducible refine tS (.load _ _) (some (_,false)) ?_);exact bD rfl rfl rfl (fun hg=>Ry.yl (bl (av hg rfl))) k
 |(with_reducible refine tS (.binOp _ _ _ _ _) (some (_,false)) ?_);exact bD rfl rfl rfl (fun hg=>Ry.yl (bt (av hg rfl) rfl rfl)) k
 |(with_reducible refine tS (.binOp _ _ _ _ _) (some (_,false)) ?_);exact bD rfl rfl rfl (fun hg=>Ry.yl (bt (av hg rfl) (av hg rfl) rfl)) k
 |(with_reducible refine tS (.call _) (some (_,false)) ?_);exact bD rfl rfl rfl (fun hg=>Ry.yl (iT (av hg rfl))) k
 |(with_reducible refine tS (.move _) (some (_,true)) ?_);exact dG rfl rfl rfl (fun hg=>Ry.yl (au rfl)) k
 |(with_reducible refine tS (.fieldAddr _ _ _) (some (_,true)) ?_);exact dG rfl rfl rfl (fun hg=>Ry.yl (Ry.n rfl)) k
 |(with_reducible refine tS (.load _ _) (some (_,true)) ?_);exact dG rfl rfl rfl (fun hg=>Ry.yl (bl (av hg rfl))) k
 |(with_reducible refine tS (.binOp _ _ _ _ _) (some (_,true)) ?_);exact dG rfl rfl rfl (fun hg=>Ry.yl (bt (av hg rfl) rfl rfl)) k
 |(with_reducible refine tS (.binOp _ _ _ _ _) (some (_,true)) ?_);exact dG rfl rfl rfl (fun hg=>Ry.yl (bt (av hg rfl) (av hg rfl) rfl)) k
 |(with_reducible refine tS (.call _) (some (_,true)) ?_);exact dG rfl rfl rfl (fun hg=>Ry.yl (iT (av hg rfl))) k):G:=h k
theorem Gh{G G':Prop}(k:G')(h:G'→G:=by
 intro k
 first
 |(with_reducible refine tQ (.move _) (some (_,false)) ?_);exact dB rfl rfl rfl (fun hg=>Ry.yl (au rfl)) k
 |(with_reducible refine tQ (.fieldAddr _ _ _) (some (_,false)) ?_);exact dB rfl rfl rfl (fun hg=>Ry.yl (Ry.n rfl)) k
 |(with_reducible refine tQ (.load _ _) (some (_,false)) ?_);exact dB rfl rfl rfl (fun hg=>Ry.yl (bl (av hg rfl))) k
 |(with_reducible refine tQ (.binOp _ _ _ _ _) (some (_,false)) ?_);exact dB rfl rfl rfl (fun hg=>Ry.yl (bt (av hg rfl) rfl rfl)) k
 |(with_reducible refine tQ (.binOp _ _ _ _ _) (some (_,false)) ?_);exact dB rfl rfl rfl (fun hg=>Ry.yl (bt (av hg rfl) (av hg rfl) rfl)) k
 |(with_reducible refine tQ (.call _) (some (_,false)) ?_);exact dB rfl rfl rfl (fun hg=>Ry.yl (iT (av hg rfl))) k
 |(with_reducible refine tQ (.move _) (some (_,true)) ?_);exact c5 rfl rfl rfl (fun hg=>Ry.yl (au rfl)) k
 |(with_reducible refine tQ (.fieldAddr _ _ _) (some (_,true)) ?_);exact c5 rfl rfl rfl (fun hg=>Ry.yl (Ry.n rfl)) k
 |(with_reducible refine tQ (.load _ _) (some (_,true)) ?_);exact c5 rfl rfl rfl (fun hg=>Ry.yl (bl (av hg rfl))) k
 |(with_reducible refine tQ (.binOp _ _ _ _ _) (some (_,true)) ?_);exact c5 rfl rfl rfl (fun hg=>Ry.yl (bt (av hg rfl) rfl rfl)) k
 |(with_reducible refine tQ (.binOp _ _ _ _ _) (some (_,true)) ?_);exact c5 rfl rfl rfl (fun hg=>Ry.yl (bt (av hg rfl) (av hg rfl) rfl)) k
 |(with_reducible refine tQ (.call _) (some (_,true)) ?_);exact c5 rfl rfl rfl (fun hg=>Ry.yl (iT (av hg rfl))) k):G:=h k
theorem tR{P:Program}{N:cy}{w0:World}{Q:Exit→Act→World→Prop}{env:Env}{L:List aj}{id:Nat}{l:Array Oper}(h:Cw P N w0 Q (.region id l false) env L):Cw P N w0 Q (.region id l false) env L:=h
theorem Gc{G G':Prop}(k:G')(h:G'→G:=by
 intro k
 repeat (first
  |(with_reducible refine ay ?_)
  |(with_reducible refine ax ?_)
  |(with_reducible refine aG ?_)
  |(with_reducible refine cS ?_)
  |(with_reducible refine cD ?_)
  |(with_reducible refine cw ?_)
  |(with_reducible refine eR ?_)
  |(with_reducible refine eL ?_)
  |(with_reducible refine fW ?_)
  |(with_reducible refine kl ?_)
  |(with_reducible refine jj ?_)
  |(with_reducible refine kj ?_)
  |(with_reducible refine xf ?_)
  |(with_reducible refine qy ?_)
  |(with_reducible refine tR ?_);refine aI ?_)
 exact k):G:=h k
theorem Gi{G G':Prop}(k:G')(h:G'→G:=by
 intro k
 first
  |(with_reducible refine ay ?_)
  |(with_reducible refine ax ?_)
  |(with_reducible refine aG ?_)
  |(with_reducible refine cS ?_)
  |(with_reducible refine cD ?_)
  |(with_reducible refine cw ?_)
  |(with_reducible refine eR ?_)
  |(with_reducible refine eL ?_)
  |(with_reducible refine fW ?_)
  |(with_reducible refine kl ?_)
  |(with_reducible refine jj ?_)
  |(with_reducible refine kj ?_)
  |(with_reducible refine xf ?_)
  |(with_reducible refine qy ?_)
  |(with_reducible refine tR ?_);refine aI ?_
 exact k):G:=h k
theorem bz{p q:Prop}(h:p)(e:p=q:=by(try simp only[Z0,Z1,Z2,Z3,Z4,Z5,Z6,Z7,Z8,Z9]);exact rfl):q:=e▸h
open Go.RowKit
theorem vd{A X V:List Value}{o:Nat}(h:o=A.length):cI (A++X).toArray o V.toArray=(A++(V++X.drop V.length)).toArray:=by
 subst h
 unfold cI
 simp only[List.size_toArray,List.append_assoc]
 rw[List.take_left,List.drop_append]
 simp
section
variable {α:Type} {enc:α→Array Value} {c:Nat} {s:Sv} {xs:List α}
theorem tK(xs ys:List α):aQ enc (xs++ys)=aQ enc xs++aQ enc ys:=by simp[aQ]
theorem Nl[he:bF enc c](hc:0<c){cs:Array Value}{o:Nat}(eJ:o+xs.length*c≤cs.size)(hr: ∀i x,xs[i]? =some x→ ∀j,j<c→cs[o+i*c+j]? =(enc x)[j]?):
  cs=(cs.toList.take o++(aQ enc xs++cs.toList.drop (o+xs.length*c))).toArray:=by
 have key:(cs.toList.drop o).take (xs.length*c)=aQ enc xs:=by
  refine List.ext_getElem? fun k=> ?_
  rcases Nat.lt_or_ge k (xs.length*c)with hk|hk
  ·
   rw[List.getElem?_take_of_lt hk,List.getElem?_drop,Array.getElem?_toList]
   have hd:k/c<xs.length:=Nat.div_lt_of_lt_mul (by rwa [Nat.mul_comm])
   have hm:=Nat.mod_lt k hc
   have e:k/c*c+k%c=k:=by rw[Nat.mul_comm];exact Nat.div_add_mod k c
   have h1:=hr (k/c) xs[k/c] (by simp[hd]) (k%c) hm
   have h2:=lN (enc:=enc) xs (k/c) xs[k/c] (by simp[hd]) (k%c) hm
   rw[e]at h2
   rw[h2,←h1];congr 1;omega
  ·
   rw[List.getElem?_eq_none (by simp;omega),List.getElem?_eq_none (by rw[gl];omega)]
 apply Array.ext'
 simp only
 rw[←key,←List.append_assoc,show o+xs.length*c=o+xs.length*c from rfl,←List.drop_drop,List.append_assoc,List.take_append_drop,List.take_append_drop]
theorem Cy{a b:Nat}(h:a≤b):a=Nat.min a b:=(Nat.min_eq_left h).symm
theorem Nm{a b:Nat}(h:b≤a):b=Nat.min a b:=(Nat.min_eq_right h).symm
theorem Nn[he:bF enc c](hc:1<c){w0 w:World}{L:List aj}{i:Nat}(hw:Mem w0 L w)(hi:L[i]? =some (own enc c s xs))(hn:s.nil=false):
  ∃pre mid T,pre.length=s.o∧s.o+s.cap*c≤pre.length+(xs.length*c+mid.length)∧s.sp=none∧s.Ok∧s.len=xs.length∧Mem w0 (L.set i (ar s.b (pre++(aQ enc xs++mid)).toArray T)) w:=by
 obtain⟨r,lO⟩:=hw.get hi
 obtain⟨fG,cs,T,fz,eS,eJ,kC,kW⟩:=lO hn
 obtain rfl:=kW hc
 have hle:=r.ok.le
 have hlen:=r.len
 have hm:xs.length*c≤s.cap*c:=Nat.mul_le_mul_right _ (by omega)
 have e:=Nl (enc:=enc) (c:=c) (xs:=xs) (cs:=cs) (o:=s.o) (by omega) (by omega) fun i x hx j hj=>by
  rw[←r.row i x hx j hj];unfold lK;rw[eS]
 refine⟨cs.toList.take s.o,cs.toList.drop (s.o+xs.length*c),T,by simp;omega,by simp;omega,fG,r.ok,hlen,?_⟩
 rw[←e]
 exact hw.change hi (fun k (hk:k=s.b)=>⟨hn,hk⟩) (fun _ _=>rfl) rfl ⟨rfl,rfl,rfl⟩ eS
theorem Cz[he:bF enc c]{w0 w:World}{L:List aj}{i b:Nat}{pre mid:List Value}{T:TypeId}(hw:Mem w0 L w)(hi:L[i]? =some (ar b (pre++(aQ enc xs++mid)).toArray T))(s':Sv)(ct:s'.Ok)(hn:s'.nil=false)(hb:s'.b=b)(fG:s'.sp=none)(ho:s'.o=pre.length)(hl:s'.len=xs.length)
  (tt:s'.o+s'.cap*c≤pre.length+(xs.length*c+mid.length)):Mem w0 (L.set i (own enc c s' xs)) w:=by
 subst hb
 have eS:hp w s'.b=some (.cells (pre++(aQ enc xs++mid)).toArray T (0,0)):=hw.block hi
 refine hw.change hi (fun k hk=>hk.2) (fun _ _=>rfl) rfl ⟨rfl,rfl,rfl⟩ ⟨rH ct hl eS fun k y hy j hj=> ?_,fun _=>⟨fG,_,_,_,eS,by simp[gl];omega,BI _,fun _=>rfl⟩⟩
 have bB:k*c+j<(aQ enc xs).length:=by
  rw[gl]
  have h1:=(List.getElem?_eq_some_iff.1 hy).1
  calc k*c+j<k*c+c:=by omega
   _=(k+1)*c:=by rw[Nat.add_mul];omega
   _≤_:=Nat.mul_le_mul_right _ h1
 rw[List.getElem?_toArray,List.getElem?_append_right (by omega),List.getElem?_append_left (by omega),←lN (enc:=enc) xs k y hy j hj]
 congr 1;omega
theorem Sv.rT{lo hi:Nat}(h:lo<s.cap):(s.sub c lo hi).o=s.o+lo*c:=by simp only[Sv.sub];rw[if_neg (by omega)]
theorem Sv.xh{hi:Nat}:(s.sub c 0 hi).o=s.o:=by simp only[Sv.sub];split<;>simp
theorem Sv.sub_eq{hi:Nat}(hn:s.nil=false)(fG:s.sp= .none):s.sub c 0 hi=⟨false,s.b,s.o,hi,s.cap, .none⟩:=by
 have h0:=Sv.xh (s:=s) (c:=c) (hi:=hi)
 obtain⟨sn,sb,so,sl,sc,ss⟩:=s
 simp only[Sv.sub]at h0 hn fG⊢
 subst hn fG
 rw[h0];rfl
end
section
variable {P:Program} {N:cy} {w0:World} {env:Env} {L:List aj} {Q:Exit→Act→World→Prop} {l rest:List Oper} {d:Option Tmp} {ty:TypeId} {ps:String} {af:Array Edge} {gd:Option (Nat×Bool)} {K:Value→List aj→Prop}
variable {α:Type} {enc:α→Array Value} {c:Nat} {s:Sv} {xs:List α}
theorem No{w:World}{pre A mid:List Value}{T:TypeId}{b o:Nat}{L':List aj}(hw:Mem w0 (ar b (pre++(A++mid)).toArray T::L') w)(ho:pre.length=o){j:Nat}{u:Value}(hj:A[j]? =some u):w.cell? ⟨b,o+j,none⟩=some u:=by
 have iR:=(List.getElem?_eq_some_iff.1 hj).1
 have h0:(ar b (pre++(A++mid)).toArray T::L')[0]? =some (ar b (pre++(A++mid)).toArray T):=rfl
 rw[hw.cell h0,List.getElem?_toArray,List.getElem?_append_right (by omega),List.getElem?_append_left (by omega),←hj]
 congr 1;omega
theorem GX{code:Code}[he:bF enc c]{i:Nat}(q:eT L s enc c xs i)(hc:1<c)(hn:0<xs.length){L':List Value→List Value→TypeId→List aj}[hu: ∀pre mid T,eK L i (ar s.b (pre++(aQ enc xs++mid)).toArray T) (L' pre mid T)]
  (h: ∀pre mid T,pre.length=s.o→s.o+s.cap*c≤pre.length+(xs.length*c+mid.length)→s.nil=false→s.sp=none→s.Ok→s.len=xs.length→Cw P N w0 Q code env (L' pre mid T)):Cw P N w0 Q code env L:=fun a w ha hw=>by
 have lU:=(hw.get q.h).1.some hn
 obtain⟨pre,mid,T,h1,h2,h3,h4,h5,h6⟩:=Nn hc hw q.h lU
 rw[(hu pre mid T).h]at h6
 exact h pre mid T h1 h2 lU h3 h4 h5 a w ha h6
theorem zx{code:Code}{i:Nat}(q:eT L s enc c xs i)(hn:0<xs.length)(h:s.nil=false→s.sp=none→s.Ok→s.len=xs.length→Cw P N w0 Q code env L):Cw P N w0 Q code env L:=fun a w ha hw=>by
 obtain⟨r,lO⟩:=hw.get q.h
 have lU:=r.some hn
 exact h lU (lO lU).1 r.ok r.len a w ha hw
theorem GY[he:bF enc c](hc:0<c){i:Nat}(q:eT L s enc c xs i){w:World}(hw:Mem w0 L w){j:Nat}{v:Value}(hj:(aQ enc xs)[j]? =some v):w.cell? ⟨s.b,s.o+j,none⟩=some v:=by
 obtain⟨x,hx,hv⟩:=y5 hc hj
 have r:=(hw.get q.h).1
 rw[pF,←hv,←r.row _ x hx (j%c) (Nat.mod_lt _ hc)]
 congr 1
 have:=Nat.div_add_mod j c
 rw[Nat.mul_comm]at this;omega
theorem Np(w:World)(dT sT ty elem:TypeId)(b o GZ Nq:Nat)(a:Addr)(G0 Nr n:Nat)(cur:Array Value)(t:TypeId)(vs:List Value)
  (hu:P.underlying dT=some (.slice elem)) (hs:(P.info? elem).map (·.size)=some c) (hg:w.heap[b]? =some (.cells cur t (0,0))) (hn:n=Nat.min G0 GZ) (hv:vs.length=n*c)
  (oB: ∀j v,vs[j]? =some v→w.cell? (a.add j)=some v) (hO:o+vs.length≤cur.size) (h1: ∀v∈vs,v.oneCell'=true):
  (Builtin.copy_ #[dT,sT] ty #[.slice (some ⟨b,o,none⟩) GZ Nq, .slice (some a) G0 Nr]).run P w= .ok (goInt n) (w.setRow b (cI cur o vs.toArray)):=by
 have hl:=run_loadCells_list (P:=P) w a vs oB
 have bH:=run_storeCells_at P b o t vs 0 cur w hg (by simpa using hO) h1
 rw[hv]at hl
 cases hq:P.info? elem with
 |none=>simp[hq]at hs
 |some i=>
  have hi:i.size=c:=by simpa[hq]using hs
  simp[Builtin.copy_,run_underlying hu,Builtin.lenOf,Builtin.firstCells,sizeOf,typeInfo,hq,hi,←hn,hl,bH,cI]
theorem zy{D S:Sv}{x y:Operand}{tx fg e:TypeId}{i b o n:Nat}{cs:Array Value}{T:TypeId}{vs:List Value}(hx:ev env x=some D.val)(hy:ev env y=some S.val)
  (lV:D.nil=false) (lW:D.sp=none) (m0:D.b=b) (oO:D.o=o) (xi:S.nil=false) (xj:S.sp=none) [ht:eB P tx e c] [hh:Has L b cs T i] (hn:n=Nat.min S.len D.len) (hv:vs.length=n*c)
  (oB: ∀w,Mem w0 L w→ ∀j v,vs[j]? =some v→w.cell? ⟨S.b,S.o+j,none⟩=some v) (h1: ∀v∈vs,v.oneCell'=true) (ho:o+vs.length≤cs.size) {cs':Array Value} {L':List aj} (fV:cI cs o vs.toArray=cs') [hu:eK L i (ar b cs' T) L']
  (hk:Sq P N w0 l Q rest (cm env d (.int .i64 n)) L') (hd:cW N d=true:=by rfl):
  Sq P N w0 l Q (⟨d, .call {callee:= .builtin .copy,args:= #[x,y],argTypes:= #[tx,fg]},ty,ps,af,none⟩::rest) env L:=
 lJ rfl hd fun aa w ha hw=>by
  rw[Sv.gD lV,lW,m0,oO]at hx
  rw[Sv.gD xi,xj]at hy
  have hb:=hw.block hh.h
  have ff:=Np (P:=P) w tx fg ty e b o D.len D.cap ⟨S.b,S.o,none⟩ S.len S.cap n cs T vs ht.dP ht.size hb hn hv (fun j v hj=>by rw[Addr.fF];exact oB w hw j v hj) ho h1
  refine⟨_,_,_,?_,by rw[←hu.h,←fV];exact hw.setRow hh.h _,hk⟩
  simp[execOp,ha.ev hx,ha.ev hy,resolve,invoke,builtin,ff,Result.andThen,goInt]
theorem Ns{D S:Sv}{x y:Operand}{tx fg e e':TypeId}{cE i b o n:Nat}{cs:Array Value}{T:TypeId}{vs:List Value}(hx:ev env x=some D.val)(hy:ev env y=some S.val)
  (lV:D.nil=false) (lW:D.sp=none) (m0:D.b=b) (oO:D.o+D.len*c=o) (xi:S.nil=false) (xj:S.sp=none) [ht:eo P tx e c cE] (CA:P.underlying fg=some (.slice e')) [hh:Has L b cs T i] (hn:S.len=n) (hv:vs.length=n*c) (my:D.len+n≤D.cap)
  (oB: ∀w,Mem w0 L w→ ∀j v,vs[j]? =some v→w.cell? ⟨S.b,S.o+j,none⟩=some v) (h1: ∀v∈vs,v.oneCell'=true) (ho:o+vs.length≤cs.size) {cs':Array Value} {L':List aj} (fV:cI cs o vs.toArray=cs') [hu:eK L i (ar b cs' T) L']
  {R:Sv} (hR:R=⟨false,b,D.o,D.len+n,D.cap,none⟩) (hk:Sq P N w0 l Q rest (cm env d R.val) L') (hd:cW N d=true:=by rfl):
  Sq P N w0 l Q (⟨d, .call {callee:= .builtin .append,args:= #[x,y],argTypes:= #[tx,fg]},ty,ps,af,none⟩::rest) env L:=
 lJ rfl hd fun aa w ha hw=>by
  subst hR oO m0
  rw[Sv.gD lV,lW]at hx
  rw[Sv.gD xi,xj,hn]at hy
  have hb:=hw.block hh.h
  obtain⟨i',z,bb,aH,bu,cJ,kV⟩:=ht.info
  have hs:=Src.ofSlice (P:=P) (size:=c) w CA ⟨S.b,S.o,none⟩ n S.cap vs hv (fun j v hj=>by rw[Addr.fF];exact oB w hw j v hj) h1
  have bH:=run_storeCells_at P D.b (D.o+D.len*c) T vs 0 cs w hb (by simpa using ho) h1
  have ff:(Builtin.append_ #[tx,fg] ty #[.slice (some ⟨D.b,D.o,none⟩) D.len D.cap, .slice (some ⟨S.b,S.o,none⟩) n S.cap]).run P w= .ok (.slice (some ⟨D.b,D.o,none⟩) (D.len+n) D.cap) (w.setRow D.b (cI cs (D.o+D.len*c) vs.toArray)):=by
   subst bu
   rcases hs.kind with⟨e',hk⟩|hk<;>simp[Builtin.append_,run_underlying ht.dP,run_underlying hk,sizeOf,typeInfo,bb,hs.len,my,hs.cells,Addr.fF,bH,cI]
  refine⟨_,_,_,?_,by rw[←hu.h,←fV];exact hw.setRow hh.h _,hk⟩
  simp[execOp,ha.ev hx,ha.ev hy,resolve,invoke,builtin,ff,Result.andThen,Sv.val]
theorem Nt{D:Sv}{x y:Operand}{tx fg e:TypeId}{cE k:Nat}{z:Value}{olds:List Value}{kn kq:IntKind}{iy:Int}{p m:Nat}(hp:D.len=p)(hm:p+k=m)(hx:ev env x=some D.val)(hy:ev env y=some (.int kq iy))(rU:iy=(k:Int))(h0:0<k)
  (lV:D.nil=false) (lW:D.sp=none) [ht:eo P tx e c cE] (hc:0<c) [hz:eC P e z] (CB:P.underlying fg=some (.int kn)) (holds:olds.length=D.len*c) (oB: ∀w,Mem w0 L w→ ∀j v,olds[j]? =some v→w.cell? ⟨D.b,D.o+j,none⟩=some v)
  (hg:D.cap<D.len+k) (hb:(D.len+k)*cE≤140737488355328) (ij:D.len+k≤140737488355328)
  (hk: ∀(b C:Nat) (Z:List Value),m≤C→p*c+Z.length=C*c→Sq P N w0 l Q rest (cm env d (Sv.val ⟨false,b,0,m,C,none⟩)) (ar b (olds++Z).toArray e::L)) (hd:cW N d=true:=by rfl):
  Sq P N w0 l Q (⟨d, .call {callee:= .builtin .append,args:= #[x,y],argTypes:= #[tx,fg]},ty,ps,af,none⟩::rest) env L:=
 lJ rfl hd fun aa w ha hw=>by
  subst rU hp hm
  rw[Sv.gD lV,lW]at hx
  obtain⟨i',z',bb,aH,bu,cJ,kV⟩:=ht.info
  subst bu cJ
  have tt:=nextslicecap_le hg
  have hO:Builtin.nextslicecap (D.len+k) D.cap*i'.bytes≤281474976710656:=by
   have h2:Builtin.nextslicecap (D.len+k) D.cap*i'.bytes≤2*(D.len+k)*i'.bytes:=Nat.mul_le_mul_right _ tt
   rw[Nat.mul_assoc]at h2
   omega
  have CC:k*i'.bytes≤281474976710656:=by
   have:k*i'.bytes≤(D.len+k)*i'.bytes:=Nat.mul_le_mul_right _ (by omega)
   omega
  have hold:=run_firstCells_some (P:=P) w.drew i'.size D.len ⟨D.b,D.o,none⟩ D.len D.cap olds holds (fun j v hj=>by rw[Addr.fF];exact oB w hw j v hj)
  have ff:=Lib.run_append_grow_zeros (P:=P) w tx fg ty e i' z' kq kn ht.dP CB bb aH (some ⟨D.b,D.o,none⟩) D.len D.cap olds hold k h0 hc hg (by omega) CC hO
  have pH:=grownCap_ge w (D.len+k) D.cap e
  generalize grownCap w (D.len+k) D.cap e=C at ff pH
  have xk:=size_zeroCells z'.cells k
  have zA:=size_zeroCells z'.cells (C -(D.len+k))
  rw[kV]at xk zA
  have hZ:D.len*i'.size+(Builtin.zeroCells z'.cells k++Builtin.zeroCells z'.cells (C -(D.len+k))).toList.length=C*i'.size:=by
   rw[Array.length_toList,Array.size_append,xk,zA,←Nat.add_mul,←Nat.add_mul];congr 1;omega
  have e1:olds.toArray++Builtin.zeroCells z'.cells k++Builtin.zeroCells z'.cells (C -(D.len+k))=(olds++(Builtin.zeroCells z'.cells k++Builtin.zeroCells z'.cells (C -(D.len+k))).toList).toArray:=by apply Array.ext';simp
  rw[e1]at ff
  refine⟨_,_,_,?_,hw.drew.alloc _ e,hk w.heap.size C _ pH hZ⟩
  simp[execOp,ha.ev hx,ha.ev hy,resolve,invoke,builtin,ff,Result.andThen,Sv.val]
theorem Nu{D:Sv}{x:Operand}{tx e:TypeId}{cE i b o n:Nat}{z:Value}{cs:Array Value}{T:TypeId}(hx:ev env x=some D.val)(lV:D.nil=false)(lW:D.sp=none)(m0:D.b=b)(oO:D.o=o)(hn:D.len=n)(h0:0<n)[ht:eo P tx e c cE][hz:eC P e z](h1:z.cells.all (·.oneCell')=true)[hh:Has L b cs T i](ho:o+n*c≤cs.size)
  {L':List Value→List aj} [hu: ∀Z,eK L i (ar b (cI cs o Z.toArray) T) (L' Z)] (hk: ∀Z:List Value,Z.length=n*c→Sq P N w0 l Q rest env (L' Z)):
  Sq P N w0 l Q (⟨none, .call {callee:= .builtin .clear,args:= #[x],argTypes:= #[tx]},ty,ps,af,none⟩::rest) env L:=
 lJ rfl rfl fun aa w ha hw=>by
  rw[Sv.gD lV,lW,m0,oO,hn]at hx
  have hb:=hw.block hh.h
  obtain⟨i',z',bb,aH,bu,cJ,kV⟩:=ht.info
  obtain rfl:z'=z:=by
   have:=hz.zero
   rw[bb,Option.map_some,aH]at this;exact Option.some.inj (Option.some.inj this)
  subst bu
  have hZ:=size_zeroCells z'.cells n
  rw[kV]at hZ
  have pQ: ∀v∈(Builtin.zeroCells z'.cells n).toList,v.oneCell'=true:=fun v hv=>by
   simp only[Builtin.zeroCells,Array.toList_map,List.mem_map]at hv
   obtain⟨j,hj,rfl⟩:=hv
   have qJ:0<z'.cells.size:=by
    rcases Nat.eq_zero_or_pos z'.cells.size with h|h
    ·
     rw[h]at hj;simp at hj
    ·
     exact h
   rw[getElem!_pos z'.cells _ (Nat.mod_lt _ qJ)]
   exact(Array.all_eq_true_iff_forall_mem.1 h1) _ (Array.getElem_mem _)
  have bH:=run_storeCells_at P b o T (Builtin.zeroCells z'.cells n).toList 0 cs w hb (by simp[hZ];omega) pQ
  have ff:(Builtin.clear_ #[tx] ty #[.slice (some ⟨b,o,none⟩) n D.cap]).run P w= .ok (.tuple #[]) (w.setRow b (cI cs o (Builtin.zeroCells z'.cells n))):=by
   obtain⟨m,rfl⟩: ∃m,n=m+1:=⟨n -1,by omega⟩
   simp[Builtin.clear_,run_underlying ht.dP,zeroValue,typeInfo,bb,aH,bH,cI]
  refine⟨.tuple #[],w.setRow b (cI cs o (Builtin.zeroCells z'.cells n)),L' (Builtin.zeroCells z'.cells n).toList,?_,?_,hk _ (by rw[Array.length_toList,hZ])⟩
  ·
   simp[execOp,ha.ev hx,resolve,invoke,builtin,ff,Result.andThen]
  ·
   have h9:=hw.setRow hh.h (cI cs o (Builtin.zeroCells z'.cells n))
   rw[←(hu _).h]
   simpa using h9
def Sv.top(s:Sv)(m:Nat):Sv:=⟨s.nil,s.b,s.o,s.len,m,s.sp⟩
theorem G1{t e:TypeId}{x lo hi mx:Operand}{l h m:Nat}{k k' G2:IntKind}{il ih im:Int}[ht:eB P t e c](hx:ev env x=some s.val)[q:Hd w0 L s enc c xs](hl:ev env lo=some (.int k il))(hh:ev env hi=some (.int k' ih))(hm:ev env mx=some (.int G2 im))(el:il=(l:Int))(eh:ih=(h:Int))(em:im=(m:Int))(h1:l≤h)(h2:h≤m)(h3:m≤xs.length):
  Ry P N w0 env L ⟨d, .slice t x (some lo) (some hi) (some mx),ty,ps,af,gd⟩ ((s.top m).sub c l h).val:=fun a w ha hw=>by
 subst el eh em
 have r:=q.h w hw
 have hs:=r.ok
 have hlen:=r.len
 have hle:=hs.le
 have ee:=uW ht.dP
 have hu:P.underlying t=some (.slice (P.elem t)):=by rw[ee];exact ht.dP
 obtain⟨ad,len,cap,lL⟩:=s.ex
 have e3:len=s.len∧cap=s.cap∧sliced ad l h m c=((s.top m).sub c l h).val:=by
  cases hn:s.nil with
  |true=>
   rw[Sv.pE hn]at lL
   obtain⟨rfl,rfl,rfl⟩:=by simpa using lL
   have:=hs.nil hn
   have e2:((s.top m).sub c l h).nil=true:=hn
   rw[Sv.pE e2]
   have:l=0:=by omega
   have:h=0:=by omega
   have:m=0:=by omega
   subst l h m
   exact⟨by omega,by omega,by simp[sliced]⟩
  |false=>
   rw[Sv.gD hn]at lL
   obtain⟨rfl,rfl,rfl⟩:=by simpa using lL
   have e2:((s.top m).sub c l h).nil=false:=hn
   rw[Sv.gD e2]
   refine⟨rfl,rfl,?_⟩
   simp only[sliced,Sv.sub,Sv.top]
   by_cases hc:m=l
   ·
    simp[hc]
   ·
    have fG:=hs.sp (by omega)
    simp[hc,fG,Addr.fF]
 obtain⟨e1,e2,e3⟩:=e3
 have hr:=run_slice_lhm (P:=P) (w:=w) t ad len cap hu k k' G2 (l:Int) (h:Int) (m:Int) (by omega) (by omega) (by omega) (by omega)
 rw[ee,jR w ht.size]at hr
 simp only[Result.andThen,Int.toNat_natCast,e3]at hr
 simp only[execOp,ha.ev hx,ha.ev hl,ha.ev hh,ha.ev hm,lL,Option.map_some,run_sliceAt_slice (h:=hu),hr,Sem.run_bind,Result.andThen,Sem.run_pure]
theorem Nv{t e:TypeId}{x:Operand}{m n:Nat}[ht:eB P t e m](hx:ev env x=some s.val)(lU:s.nil=false)(hn:s.cap=n):
  Ry P N w0 env L ⟨d, .call {callee:= .builtin .cap,args:= #[x],argTypes:= #[t]},ty,ps,af,gd⟩ (.int .i64 n):=fun a w ha _=>by
 subst hn
 rw[Sv.gD lU]at hx
 have hu:P.underlying t=some (.slice (P.elem t)):=by rw[uW ht.dP];exact ht.dP
 have:=run_cap_slice (P:=P) (w:=w) t ty (some ⟨s.b,s.o,s.sp⟩) s.len s.cap hu
 simp[execOp,ha.ev hx,resolve,invoke,builtin,this,Result.andThen,goInt]
class G3(P:Program)(f:FuncId)(tS tR:outParam TypeId):Prop where
 fn: ∃fn,P.funcs[f]? =some fn∧(fn.name== "runtime.NumGoroutine")=false∧fn.body.isNone=true∧Extern.findNext fn=none∧Extern.find fn=some (Extern.SlicesOverlaps.overlaps #[tS,tS] #[tR])
theorem Mem.apart{w:World}{i j k:Nat}{e e':aj}(h:Mem w0 L w)(hi:L[i]? =some e)(hj:L[j]? =some e')(mS:i≠j)(hk:e.fp k): ¬e'.fp k:=by
 obtain⟨gi,rfl⟩:=List.getElem?_eq_some_iff.1 hi
 obtain⟨gj,rfl⟩:=List.getElem?_eq_some_iff.1 hj
 have hd:=List.pairwise_iff_getElem.1 h.mr
 rcases Nat.lt_or_gt_of_ne mS with h1|h1
 ·
  exact hd i j gi gj h1 k hk
 ·
  exact fun h2=>hd j i gj gi h1 k h2 hk
theorem Nw{V D:Sv}{x y:Operand}{f:FuncId}{ts:Array TypeId}{tS tR e T:TypeId}{i j b:Nat}{cs:Array Value}(hx:ev env x=some V.val)(hy:ev env y=some D.val)[hf:G3 P f tS tR][ht:eB P tS e c](hc:1<c)[q:eT L V enc c xs i](hv:0<xs.length)[hh:Has L b cs T j](lV:D.nil=false)(lW:D.sp=none)(m0:D.b=b)(fV:0<cs.size)(mS:i≠j:=by decide):
  Ry P N w0 env L ⟨d, .call {callee:= .value (.func f),args:= #[x,y],argTypes:=ts},ty,ps,af,gd⟩ (.bool false):=fun a w ha hw=>by
 obtain⟨r,lO⟩:=hw.get q.h
 have CD:=r.some hv
 obtain⟨Nx,cv,Tv,fz,eS,eJ,kC,kW⟩:=lO CD
 obtain rfl:=kW hc
 have hb:=hw.block hh.h
 have cR:V.b≠b:=fun e0=>hw.apart q.h hh.h mS (k:=V.b) ⟨CD,rfl⟩ e0
 subst m0
 rw[Sv.gD CD,Nx]at hx
 rw[Sv.gD lV,lW]at hy
 obtain⟨fn,h1,h2,h3,h4,h5⟩:=hf.fn
 have ff:=Lib.run_overlaps_apart (P:=P) w tS tR e ht.dP c (fun w=>jR w ht.size) ⟨V.b,V.o,none⟩ ⟨D.b,D.o,none⟩ V.len V.cap D.len D.cap cR Tv T cv.size cs.size (by simp[World.shape?,eS]) (by simp[World.shape?,hb]) (by omega) (by simp[World.frozen?,eS]) (by simp[World.frozen?,eS])
 have G4:=run_callFunc_extern (P:=P) h1 h2 h3 h4 h5 #[.slice (some ⟨V.b,V.o,none⟩) V.len V.cap, .slice (some ⟨D.b,D.o,none⟩) D.len D.cap] w
 rw[ff]at G4
 have e1:a.eval (.func f)= .func (.func f) #[] #[]:=rfl
 simp[execOp,ha.ev hx,ha.ev hy,resolve,e1,Deferred.ofValue,invoke,G4,Result.andThen]
end
end Go.aL
namespace Go.Kb
def Ny:Nat:=3988292384
def xm(n:Nat):Nat:=(n/2)^^^(if n%2=1 then Ny else 0)
theorem Nz{n:Nat}(h:n<2^32):xm n<2^32:=by
 refine Nat.xor_lt_two_pow (by omega) ?_
 split
 ·
  decide
 ·
  decide
def ia(n:Nat):Nat→Nat
 |0=>n
 |k+1=>xm (ia n k)
theorem zB{n:Nat}(h:n<2^32): ∀k,ia n k<2^32
 |0=>h
 |k+1=>Nz (zB h k)
def CE(n:Nat)(b:UInt8):Nat:=ia (n^^^b.toNat) 8
theorem NA{n:Nat}{b:UInt8}(h:n<2^32):CE n b<2^32:=zB (Nat.xor_lt_two_pow h (by have:=b.toNat_lt;omega)) 8
def eG(n:Nat)(l:List UInt8):Nat:=l.foldl CE n
theorem tL{n:Nat}(h:n<2^32): ∀l,eG n l<2^32
 |[]=>h
 |b::l=>tL (NA h) l
theorem G5{n:Nat}{l:List UInt8}{i:Nat}{b:UInt8}(h:l[i]? =some b):eG n (l.take (i+1))=CE (eG n (l.take i)) b:=by
 rw[List.take_add_one,h,eG,eG,List.foldl_append];rfl
def gp(l:List UInt8):Nat:=4294967295 -eG 4294967295 l
theorem zC(l:List UInt8):gp l<2^32:=by unfold gp;omega
end Go.Kb
namespace Go.aL
open Go.RowKit
section
variable {α:Type} {enc:α→Array Value} {c:Nat} {s:Sv} {xs:List α}
theorem Mem.G6{w0 w:World}{L:List aj}{i k:Nat}(hw:Mem w0 L w)(hi:L[i]? =some (own enc c s xs))(hk:k≤xs.length):Mem w0 (L.set i (own enc c (s.sub c 0 k) (xs.take k))) w:=by
 obtain⟨r,lO⟩:=hw.get hi
 have r2:=r.sub (lo:=0) (hi:=k) (Nat.zero_le _) hk
 rw[List.drop_zero,Nat.sub_zero]at r2
 refine hw.change hi (fun k hk=>hk) (fun _ _=>rfl) rfl ⟨rfl,rfl,rfl⟩ ⟨r2,fun hn=> ?_⟩
 obtain⟨h1,cs,T,fz,h2,h3,h4,h5⟩:=lO hn
 refine⟨h1,cs,T,fz,h2,?_,h4,h5⟩
 rw[Sv.xh];exact h3
end
section
variable {P:Program} {N:cy} {w0:World} {env:Env} {L:List aj} {Q:Exit→Act→World→Prop} {l rest:List Oper} {d:Option Tmp} {ty:TypeId} {ps:String} {af:Array Edge} {gd:Option (Nat×Bool)}
variable {α:Type} {enc:α→Array Value} {c:Nat} {xs:List α}
theorem G7{x y:Operand}{tx fg e:TypeId}{cE k:Nat}{z:Value}{kn kq:IntKind}{iy:Int}(x0:α)(hx:ev env x=some (.slice none 0 0))(hy:ev env y=some (.int kq iy))(rU:iy=(k:Int))(h0:0<k)
  [ht:eo P tx e c cE] [he:bF enc c] (hc:0<c) [hz:eC P e z] (G8:enc x0=z.cells) (CB:P.underlying fg=some (.int kn)) (hb:k*cE≤140737488355328) (ij:k≤140737488355328)
  (hk: ∀b C:Nat,k≤C→Sq P N w0 l Q rest (cm env d (Sv.val ⟨false,b,0,k,C,none⟩)) (own enc c ⟨false,b,0,k,C,none⟩ (List.replicate k x0)::L)) (hd:cW N d=true:=by rfl):
  Sq P N w0 l Q (⟨d, .call {callee:= .builtin .append,args:= #[x,y],argTypes:= #[tx,fg]},ty,ps,af,none⟩::rest) env L:=
 lJ rfl hd fun aa w ha hw=>by
  subst rU
  obtain⟨i',z',bb,aH,bu,cJ,kV⟩:=ht.info
  obtain rfl:z'=z:=by
   have:=hz.zero
   rw[bb,Option.map_some,aH]at this;exact Option.some.inj (Option.some.inj this)
  subst bu cJ
  have ff:=Lib.run_append_nil_zeros (P:=P) w tx fg ty e i' z' kq kn ht.dP CB bb aH k h0 hc (by omega) (by omega)
  have pH:=grownCap_ge w k 0 e
  generalize grownCap w k 0 e=C at ff pH
  have xk:=size_zeroCells z'.cells k
  have zA:=size_zeroCells z'.cells (C -k)
  have NB: ∀m i j,i<m→j<i'.size→(Builtin.zeroCells z'.cells m)[i*i'.size+j]? =z'.cells[j]? :=fun m i j hi hj=>by
   have bB:i*i'.size+j<m*z'.cells.size:=by
    rw[kV]
    have:(i+1)*i'.size≤m*i'.size:=Nat.mul_le_mul_right _ hi
    rw[Nat.add_mul]at this;omega
   have e1:(i*i'.size+j)%z'.cells.size=j:=by rw[kV,Nat.mul_comm,Nat.mul_add_mod];exact Nat.mod_eq_of_lt hj
   have NC:j<z'.cells.size:=by omega
   simp[Builtin.zeroCells,bB,e1,NC]
  refine⟨_,_,_,?_,hw.drew.call (tv (enc:=enc) (c:=i'.size) (xs:=List.replicate k x0) (cs:=Builtin.zeroCells z'.cells k++Builtin.zeroCells z'.cells (C -k)) (e:=e) rfl k C (by simp) pH ij ?_ fun i x hx j hj=> ?_),hk _ C pH⟩
  ·
   simp[execOp,ha.ev hx,ha.ev hy,resolve,invoke,builtin,ff,Result.andThen,Sv.val]
  ·
   rw[Array.size_append,xk,zA,kV,←Nat.add_mul];exact Nat.mul_le_mul_right _ (by omega)
  ·
   have hi:i<k:=by
    have:=(List.getElem?_eq_some_iff.1 hx).1
    simpa using this
   obtain rfl:x0=x:=by rw[List.getElem?_replicate,if_pos hi]at hx;exact Option.some.inj hx
   rw[G8,←NB k i j hi hj,Array.getElem?_append_left]
   rw[xk,kV]
   have:(i+1)*i'.size≤k*i'.size:=Nat.mul_le_mul_right _ hi
   rw[Nat.add_mul]at this;omega
theorem zD{t e:TypeId}{x:Operand}{m:Nat}[ht:eB P t e m](hx:ev env x=some (.slice none 0 0)):
  Ry P N w0 env L ⟨d, .call {callee:= .builtin .cap,args:= #[x],argTypes:= #[t]},ty,ps,af,gd⟩ (.int .i64 (0:Nat)):=fun a w ha _=>by
 have hu:P.underlying t=some (.slice (P.elem t)):=by rw[uW ht.dP];exact ht.dP
 have:=run_cap_slice (P:=P) (w:=w) t ty none 0 0 hu
 simp[execOp,ha.ev hx,resolve,invoke,builtin,this,Result.andThen,goInt]
class rV(w0:World)(L:List aj){τ:Type}[Deep τ](xs:List τ):Prop where
 h: ∀w,Mem w0 L w→ ∀x∈xs,Deep.bk (hp w) x
instance rV.nil{τ:Type}[Deep τ]:rV w0 L ([]:List τ):=⟨fun _ _ _ h=>by cases h⟩
instance rV.cons{τ:Type}[Deep τ]{x:τ}{xs:List τ}[a:aS w0 L x][b:rV w0 L xs]:rV w0 L (x::xs):=⟨fun w hw y hy=>by
 rcases List.mem_cons.1 hy with rfl|hy
 ·
  exact a.h w hw
 ·
  exact b.h w hw y hy⟩
instance (priority:=low) aS.flat {τ:Type}[Deep τ][Plain τ]{enc:τ→Array Value}{c:Nat}[fh τ enc c]{s:Sv}{xs:List τ}[q:cl w0 L enc c s xs]:aS w0 L (⟨s,xs⟩:Sl τ):=⟨fun w hw=>by
 have hl:=q.h w hw
 have e1:Deep.cells (τ:=τ)=enc:=funext (fh.h (c:=c))
 have e2:Deep.c τ=c:=fh.hc (enc:=enc)
 refine⟨?_,fun x _=>Deep.jm _ x (by rw[Plain.h x];exact trivial)⟩
 subst e1 e2
 exact hl⟩
instance (priority:=low) aS.rows {τ:Type}[Deep τ]{enc:τ→Array Value}{c:Nat}[fh τ enc c]{s:Sv}{xs:List τ}[q:cl w0 L enc c s xs][g:rV w0 L xs]:aS w0 L (⟨s,xs⟩:Sl τ):=⟨fun w hw=>by
 have hl:=q.h w hw
 have e1:Deep.cells (τ:=τ)=enc:=funext (fh.h (c:=c))
 have e2:Deep.c τ=c:=fh.hc (enc:=enc)
 refine⟨?_,g.h w hw⟩
 subst e1 e2
 exact hl⟩
theorem ND{τ:Type}[Deep τ]{s:Sv}{xs:List τ}[g:aS w0 L (⟨s,xs⟩:Sl τ)](h: ∀a:Sl τ,a=⟨s,xs⟩→aS w0 L a→Sq P N w0 l Q rest (cm env d a.sv.val) L):Sq P N w0 l Q rest (cm env d s.val) L:=h _ rfl g
def iW(l:List (Sl UInt8)):List UInt8:=(l.map Sl.xs).flatten
theorem zE{l:List (Sl UInt8)}{i:Nat}{x:Sl UInt8}(h:l[i]? =some x):iW (l.take (i+1))=iW (l.take i)++x.xs:=by
 rw[iW,List.take_add_one,h];simp[iW]
theorem NF(l:List (Sl UInt8))(i:Nat):(iW (l.take i)).length≤(iW l).length:=by
 have e:iW l=iW (l.take i)++iW (l.drop i):=by
  unfold iW
  rw[←List.flatten_append,←List.map_append,List.take_append_drop]
 rw[e,List.length_append];omega
end
def xn(l:List UInt8):List UInt8:=l++be (Kb.gp l) 4
def oP(l:List UInt8):Int:=if l.length<4 then 3 else if Kb.gp (l.take (l.length -4))=de (l.drop (l.length -4))then 0 else 4
theorem NG(l:List UInt8): ∀n,l.foldl (fun a b=>a*256+b.toNat) n=n*256^l.length+de l:=by
 induction l with
 |nil=>intro n;simp[de]
 |cons x l ih=>
  intro n
  rw[List.foldl_cons,ih,show de (x::l)=l.foldl (fun a b=>a*256+b.toNat) (0*256+x.toNat)from rfl,ih,List.length_cons,Nat.pow_succ]
  simp only[Nat.zero_mul,Nat.zero_add,Nat.add_mul]
  rw[Nat.mul_assoc n,Nat.mul_comm 256,Nat.add_assoc]
theorem G9(x:UInt8)(l:List UInt8):de (x::l)=x.toNat*256^l.length+de l:=by
 rw[show de (x::l)=l.foldl (fun a b=>a*256+b.toNat) (0*256+x.toNat)from rfl,NG];simp
theorem CF(l:List UInt8):de l<256^l.length:=by
 have:=y7 l l.length (Nat.le_refl _)
 rwa [List.take_length]at this
theorem Ha(m n:Nat): ∀k,be (m*256^k+n) k=be n k
 |0=>rfl
 |k+1=>by
  have e:m*256^(k+1)+n=(m*256)*256^k+n:=by rw[Nat.pow_succ,Nat.mul_assoc,Nat.mul_comm 256]
  rw[be,be,e,Ha (m*256) n k,Nat.add_comm,Nat.add_mul_div_right _ _ (Nat.pow_pos (by decide))]
  congr 1
  apply UInt8.toNat_inj.1
  rw[rK,rK];omega
theorem Hb: ∀l:List UInt8,be (de l) l.length=l
 |[]=>rfl
 |x::l=>by
  have h:=CF l
  rw[G9,List.length_cons,be,Ha,Hb l,Nat.add_comm,Nat.add_mul_div_right _ _ (Nat.pow_pos (by decide)),Nat.div_eq_of_lt h,Nat.zero_add,Mc]
theorem Hc(n:Nat): ∀k,de (be n k)=n%256^k
 |0=>by simp[be,de,Nat.mod_one]
 |k+1=>by
  rw[be,G9,jl,Hc n k,rK,Nat.pow_succ,Nat.mod_mul,Nat.mul_comm,Nat.add_comm]
theorem He{l:List UInt8}(h: ¬l.length<4):xn (l.take (l.length -4))=l↔Kb.gp (l.take (l.length -4))=de (l.drop (l.length -4)):=by
 have hd:(l.drop (l.length -4)).length=4:=by simp;omega
 have e:l=l.take (l.length -4)++l.drop (l.length -4):=(List.take_append_drop _ _).symm
 constructor
 ·
  intro h1
  have h2:be (Kb.gp (l.take (l.length -4))) 4=l.drop (l.length -4):=by
   have h3:l.take (l.length -4)++be (Kb.gp (l.take (l.length -4))) 4=l.take (l.length -4)++l.drop (l.length -4):=by rw[←e];exact h1
   exact List.append_cancel_left h3
  rw[←h2,Hc,Nat.mod_eq_of_lt (Nat.lt_of_lt_of_le (Kb.zC _) (by decide))]
 ·
  intro h1
  have h2:=Hb (l.drop (l.length -4))
  rw[hd,←h1]at h2
  rw[xn,h2,←e]
def ve(b:Sv)(l:List UInt8):Sv:=if oP l=0 then b.sub 1 0 (l.length -4)else Sv.none
open Go.RowKit
section
variable {w0:World} {L:List aj} {α:Type} {enc:α→Array Value} {c:Nat} {xs ys:List α} {s t:Sv} {g:Bool}
end
section
variable {P:Program} {N:cy} {w0:World} {env:Env} {L:List aj} {l:List Oper} {Q:Exit→Act→World→Prop} {rest:List Oper} {d:Option Tmp} {ty:TypeId} {ps:String} {af:Array Edge}
end
section
variable {w0:World} {L:List aj} {τ:Type} [Deep τ]
instance (priority:=low) rV.of {a:Sl τ}[q:aS w0 L a]:rV w0 L a.xs:=⟨fun w hw=>(q.h w hw).2⟩
end
section
variable {w0:World} {L:List aj} {τ:Type} [Deep τ]
end
open Go.RowKit
class eU(τ:Type)[d:Deep τ] where
 reach:τ→Nat→Prop
 congr: ∀(h h':Nat→Option Obj) (x:τ),(∀k,reach x k→h' k=h k)→d.bk h x→d.bk h' x
theorem bM.congr{α:Type}{enc:α→Array Value}{c:Nat}{h h':Nat→Option Obj}{s:Sv}{xs:List α}(e:xs≠[]→h' s.b=h s.b)(r:bM enc c h s xs):bM enc c h' s xs:=
 ⟨r.ok,r.len,fun i x hi j hj=>by
  have cR:xs≠[]:=fun he=>by rw[he]at hi;simp at hi
  rw[←r.row i x hi j hj];unfold lK;rw[e cR]⟩
@[reducible] def eU.flat {τ:Type}[d:Deep τ](hg: ∀h x,d.bk h x):eU τ:=⟨fun _ _=>False,fun _ h' x _ _=>hg h' x⟩
instance eU.slice{τ:Type}[d:Deep τ][r:eU τ]:eU (Sl τ) where
 reach a k:=(a.xs≠[]∧k=a.sv.b)∨ ∃x∈a.xs,r.reach x k
 congr h h' a e g:=⟨g.1.congr fun cR=>e _ (.inl ⟨cR,rfl⟩),fun x hx=>r.congr h h' x (fun k hk=>e k (.inr ⟨x,hx,hk⟩)) (g.2 x hx)⟩
instance:eU UInt8:=eU.flat fun _ _=>trivial
def fz{τ:Type}[d:Deep τ][r:eU τ](x:τ):aj:=⟨r.reach x,fun h=>d.bk h x,fun h h' e s=>r.congr h h' x e s⟩
section
variable {w0:World} {L:List aj} {τ:Type} [d:Deep τ] [r:eU τ]
instance (priority:=high) aS.frozen {a:τ}{i:Nat}[q:At L (fz a) i]:aS w0 L a:=⟨fun _ hw=>hw.get q.h⟩
theorem Mem.freeze{w:World}{es:List aj}(x:τ)(hg:d.bk (hp w) x)(hr: ∀k,r.reach x k→ ∃e∈es,e.fp k)(h:Mem w0 (es++L) w):Mem w0 (fz x::L) w:=by
 have hd:=List.pairwise_append.1 h.mr
 refine⟨h.below,fun e he=> ?_,fun e he k hk=> ?_,List.pairwise_cons.2 ⟨fun y hy k hk iQ=> ?_,hd.2.1⟩⟩
 ·
  rcases List.mem_cons.1 he with rfl|he
  ·
   exact hg
  ·
   exact h.sat e (List.mem_append.2 (.inr he))
 ·
  rcases List.mem_cons.1 he with rfl|he
  ·
   obtain⟨e',oE,iQ⟩:=hr k hk
   exact h.iD e' (List.mem_append.2 (.inl oE)) k iQ
  ·
   exact h.iD e (List.mem_append.2 (.inr he)) k hk
 ·
  obtain⟨e',oE,rI⟩:=hr k hk
  exact hd.2.2 e' oE y hy k rI iQ
theorem Mem.NH{w:World}{e:aj}(x:τ)(hg:d.bk (hp w) x)(hr: ∀k,r.reach x k→e.fp k)(h:Mem w0 (e::L) w):Mem w0 (fz x::L) w:=
 Mem.freeze (es:=[e]) x hg (fun k hk=>⟨e,by simp,hr k hk⟩) h
end
open Go.RowKit Go.Kb
section
variable {w0:World} {L:List aj} {τ:Type} [Deep τ] {xs:List τ} {es:List aj}
theorem Mem.tM{w:World}(h:Mem w0 L w):Mem w0 (aj.all []::L) w:=Mem.wR.2 h
theorem Mem.NI{w:World}{e:aj}(h:Mem w0 (e::aj.all es::L) w):Mem w0 (aj.all (e::es)::L) w:=Mem.u1.2 h
theorem Mem.Hf{w:World}{s:Sv}{enc:τ→Array Value}{c:Nat}[f:fh τ enc c][Plain τ](h:Mem w0 (own enc c s xs::L) w):Mem w0 (Deep.ck (⟨s,xs⟩:Sl τ)::L) w:=Tr.BX.mem h
end
end Go.aL
namespace Go.Kb
structure NJ where
 len:Int
 eA:UInt16
 deriving DecidableEq
structure Nd where
 NK:List NJ
 NL:List Int
 hs:NK.length=16
 hn:NL.length=16
 deriving DecidableEq
def NM(k:Key)(n b:Nat):Key:=if n%2=0 then wX k (n/2) (16*b%256)else wX k (n/2) ((ca k (n/2)+b)%256)
def NN(p:cF):Nat:=((p.len -1)/4).toNat
structure Wy where
 steps:Nat
 key:Key
 deriving DecidableEq
def root:Wy:=⟨0,0#128⟩
def oQ(r:Rt)(bits:Int)(w:Wy)(b:Nat):Bool:=decide (r.p.bits=bits)&&decide (NN r.p=w.steps)&&jX r.p (NM w.key w.steps b)
section
variable {k:Key} {n b:Nat}
end
section
variable {bits:Int} {W:List Wy} {R:List Rt} {w:Wy} {node b:Nat}
end
section
variable {bits:Int} {W:List Wy} {R:List Rt} {r:Rt} {f:Nat}
end
theorem vf{t:List Rt}(h:dD t=true){r:Rt}(hr:r∈t):cN r.p=true:=by
 obtain⟨i,hi⟩:=List.mem_iff_getElem?.1 hr
 have bB:=(List.getElem?_eq_some_iff.1 hi).1
 cases hm:cN r.p with
 |true=>rfl
 |false=>rw[wY bB (Gu hi hm)]at h;cases h
theorem zF{t:List Rt}(h:dD t=true):t.length≤256:=by
 rcases Nat.lt_or_ge 256 t.length with h1|h1
 ·
  rw[B5 h1]at h;cases h
 ·
  exact h1
open Go.aL
def bf(x:Int):Array Value:= #[.int .i64 x]
instance:bF bf 1:=⟨fun _=>rfl,fun _=>by simp[bf,Value.oneCell']⟩
instance (x:Int):cj (bf x) 0 (.int .i64 x):=⟨rfl⟩
instance:Deep Int:=Deep.flat bf 1
instance:fh Int bf 1:=⟨rfl,fun _=>rfl⟩
instance:Plain Int:=⟨fun _=>rfl⟩
end Go.Kb
namespace Go.aL
open Go.Kb
section
variable {P:Program} {N:cy} {w0:World} {env:Env} {L:List aj} {d:Option Tmp} {ty:TypeId} {ps:String} {af:Array Edge} {gd:Option (Nat×Bool)}
theorem iV{x:Operand}{a:Addr}(hx:ev env x=some (.pointer (some a))):Ry P N w0 env L ⟨d, .nilCheck x,ty,ps,af,gd⟩ (.pointer (some a)):=fun _ w ha _=>by
 simp only[execOp,ha.ev hx,Sem.run_pure]
variable {s:Sv} {xs:List Nd} {a:Nd}
end
section
variable {P:Program} {N:cy} {w0:World} {env:Env} {L:List aj} {l:List Oper} {Q:Exit→Act→World→Prop} {rest:List Oper} {ty:TypeId} {ps:String} {af:Array Edge}
variable {s:Sv} {xs:List Nd} {a:Nd}
end
end Go.aL
namespace Go.Kb
open Go.aL
theorem qK(k:IntKind)(n:Int):(Value.int k n).oneCell'=true:=rfl
theorem qL(b:Bool):(Value.bool b).oneCell'=true:=rfl
instance:eU Int:=eU.flat fun _ _=>trivial
structure Ft where
 op:Int
 fail:Bool
 cut:Bool
 mask:UInt8
 deriving DecidableEq
def cX(x:Ft):Array Value:= #[.int .i64 x.op, .bool x.fail, .bool x.cut, .int .u8 x.mask.toNat]
instance:bF cX 4:=⟨fun _=>rfl,fun x=>by
 simp only[cX,List.all_toArray,List.all_cons,List.all_nil,Sv.one,qK,qL,Bool.and_self]⟩
instance (x:Ft):fv (cX x) 4:=⟨rfl,bF.one x⟩
instance (x:Ft):cj (cX x) 0 (.int .i64 x.op):=⟨rfl⟩
instance (x:Ft):cj (cX x) 1 (.bool x.fail):=⟨rfl⟩
instance (x:Ft):cj (cX x) 2 (.bool x.cut):=⟨rfl⟩
instance (x:Ft):cj (cX x) 3 (.int .u8 x.mask.toNat):=⟨rfl⟩
instance:Deep Ft:=Deep.flat cX 4
instance:Plain Ft:=⟨fun _=>rfl⟩
instance:eU Ft:=eU.flat fun _ _=>trivial
instance:fh Ft cX 4:=⟨rfl,fun _=>rfl⟩
def vg:Ft:=⟨0,false,false,0⟩
structure Bk where
 ag:Sl (Sl UInt8)
 used:Int
 bE:Int
 bad:Bool
def bN(x:Bk):Array Value:= #[x.ag.sv.val, .int .i64 x.used, .int .i64 x.bE, .bool x.bad]
instance:bF bN 4:=⟨fun _=>rfl,fun x=>by
 simp only[bN,List.all_toArray,List.all_cons,List.all_nil,Sv.one,qK,qL,Bool.and_self]⟩
instance (x:Bk):fv (bN x) 4:=⟨rfl,bF.one x⟩
instance (x:Bk):cj (bN x) 0 (x.ag.sv.val):=⟨rfl⟩
instance (x:Bk):cj (bN x) 1 (.int .i64 x.used):=⟨rfl⟩
instance (x:Bk):cj (bN x) 2 (.int .i64 x.bE):=⟨rfl⟩
instance (x:Bk):cj (bN x) 3 (.bool x.bad):=⟨rfl⟩
instance:Deep Bk where
 c:=4
 cells:=bN
 size:=bF.size
 one:=bF.one
 bk h x:=Deep.bk h x.ag
 ck x:=Deep.ck x.ag
 jm h x hs:=Deep.jm h x.ag hs
 mono w w' x hg hb:=Deep.mono w w' x.ag hg hb
instance:eU Bk where
 reach x k:=eU.reach x.ag k
 congr h h' x e hg:=eU.congr h h' x.ag (fun k hk=>e k (hk)) hg
instance {w0:World}{L:List aj}{x:Bk}[q:aS w0 L x]:aS w0 L x.ag:=⟨fun w hw=>(q.h w hw)⟩
instance:fh Bk bN 4:=⟨rfl,fun _=>rfl⟩
def k6:Bk:=⟨⟨Sv.none,[]⟩,0,0,false⟩
structure Cp where
 ag:Int
 size:Int
 blocks:Sl Bk
 ops:Int
 off:Bool
 bc:Sl Ft
def aB(x:Cp):Array Value:= #[.int .i64 x.ag, .int .i64 x.size,x.blocks.sv.val, .int .i64 x.ops, .bool x.off,x.bc.sv.val]
instance:bF aB 6:=⟨fun _=>rfl,fun x=>by
 simp only[aB,List.all_toArray,List.all_cons,List.all_nil,Sv.one,qK,qL,Bool.and_self]⟩
instance (x:Cp):fv (aB x) 6:=⟨rfl,bF.one x⟩
instance (x:Cp):cj (aB x) 0 (.int .i64 x.ag):=⟨rfl⟩
instance (x:Cp):cj (aB x) 1 (.int .i64 x.size):=⟨rfl⟩
instance (x:Cp):cj (aB x) 2 (x.blocks.sv.val):=⟨rfl⟩
instance (x:Cp):cj (aB x) 3 (.int .i64 x.ops):=⟨rfl⟩
instance (x:Cp):cj (aB x) 4 (.bool x.off):=⟨rfl⟩
instance (x:Cp):cj (aB x) 5 (x.bc.sv.val):=⟨rfl⟩
instance:Deep Cp where
 c:=6
 cells:=aB
 size:=bF.size
 one:=bF.one
 bk h x:=Deep.bk h x.blocks∧Deep.bk h x.bc
 ck x:= .two (Deep.ck x.blocks) (Deep.ck x.bc)
 jm h x hs:=⟨Deep.jm h x.blocks hs.1,Deep.jm h x.bc hs.2.1⟩
 mono w w' x hg hb:=⟨Deep.mono w w' x.blocks hg.1 hb,Deep.mono w w' x.bc hg.2 hb⟩
instance:eU Cp where
 reach x k:=eU.reach x.blocks k∨eU.reach x.bc k
 congr h h' x e hg:=⟨eU.congr h h' x.blocks (fun k hk=>e k (.inl hk)) hg.1,eU.congr h h' x.bc (fun k hk=>e k (.inr hk)) hg.2⟩
instance {w0:World}{L:List aj}{x:Cp}[q:aS w0 L x]:aS w0 L x.blocks:=⟨fun w hw=>(q.h w hw).1⟩
instance {w0:World}{L:List aj}{x:Cp}[q:aS w0 L x]:aS w0 L x.bc:=⟨fun w hw=>(q.h w hw).2⟩
instance {w0:World}{L:List aj}{ag:Int}{size:Int}{blocks:Sl Bk}{ops:Int}{off:Bool}{bc:Sl Ft}[q0:aS w0 L blocks][q1:aS w0 L bc]:aS w0 L (Cp.mk ag size blocks ops off bc):=⟨fun w hw=>⟨q0.h w hw,q1.h w hw⟩⟩
def ep:Cp:=⟨0,0,⟨Sv.none,[]⟩,0,false,⟨Sv.none,[]⟩⟩
end Go.Kb
namespace Go.aL
theorem bM.cut{α:Type}{enc:α→Array Value}{c:Nat}{h:Nat→Option Obj}{s:Sv}{xs:List α}(r:bM enc c h s xs){lo hi:Nat}(h1:lo≤hi)(h2:hi≤xs.length):bM enc c h ⟨s.nil,s.b,if hi=lo then s.o else s.o+lo*c,hi -lo,hi -lo,s.sp⟩ ((xs.drop lo).take (hi -lo)):=by
  have hl:=r.len
  have hle:=r.ok.le
  have fJ:=r.ok.bd
  refine⟨⟨fun hn=> ?_,Nat.le_refl _,?_,fun hc=> ?_⟩,?_,fun i x nB j hj=> ?_⟩
  ·have:=r.ok.nil hn
   simp only at this⊢;omega
  ·simp only;omega
  ·simp only at hc⊢;exact r.ok.sp (by omega)
  ·simp;omega
  ·have gm:=(List.getElem?_eq_some_iff.1 nB).1
   rw[List.length_take,List.length_drop]at gm
   have hx:xs[lo+i]? =Option.some x:=by rw[List.getElem?_take,if_pos (by omega),List.getElem?_drop]at nB;exact nB
   have:=r.row (lo+i) x hx j hj
   simp only
   rw[if_neg (by omega),show s.o+lo*c+i*c+j=s.o+(lo+i)*c+j by rw[Nat.add_mul];omega]
   exact this
end Go.aL
namespace Go.Kb
open Go.aL
structure BV where
  ag:List (List UInt8)
  used:Int
  bE:Int
  bad:Bool
  deriving DecidableEq
structure CV where
  ag:Int
  size:Int
  blocks:List BV
  ops:Int
  off:Bool
  bc:List Ft
  deriving DecidableEq
def aE(l:List (Sl UInt8)):List (List UInt8):=l.map fun x=>x.xs
theorem fk(l:List (Sl UInt8)):(aE l).length=l.length:=by simp[aE]
theorem ib{l:List (Sl UInt8)}{i:Nat}{x:Sl UInt8}(h:l[i]? =some x):(aE l)[i]? =some x.xs:=by simp[aE,h]
def bv(b:Bk):BV:=⟨aE b.ag.xs,b.used,b.bE,b.bad⟩
def fm(l:List Bk):List BV:=l.map bv
theorem dH(l:List Bk):(fm l).length=l.length:=by simp[fm]
theorem fK{l:List Bk}{i:Nat}{x:Bk}(h:l[i]? =some x):(fm l)[i]? =some (bv x):=by simp[fm,h]
def cv(c:Cp):CV:=⟨c.ag,c.size,fm c.blocks.xs,c.ops,c.off,c.bc.xs⟩
def eV(rm:Sv)(lo hi:Nat):Sv:=⟨rm.nil,rm.b,if hi=lo then rm.o else rm.o+lo,hi -lo,hi -lo,rm.sp⟩
def cZ(rm:Sv):Nat→List (List UInt8)→List (Sl UInt8)
  |_,[]=>[]
  |o,p::r=>⟨eV rm o (o+p.length),p⟩::cZ rm (o+p.length) r
theorem rW(rm:Sv): ∀(o:Nat) (l:List (List UInt8)),aE (cZ rm o l)=l
  |_,[]=>rfl
  |o,p::r=>by
   have:=rW rm (o+p.length) r
   simp only[aE,cZ,List.map_cons]at this⊢
   rw[this]
theorem CG(rm:Sv): ∀(o:Nat) (l:List (List UInt8)),(cZ rm o l).length=l.length
  |_,[]=>rfl
  |o,p::r=>by rw[cZ,List.length_cons,List.length_cons,CG]
theorem zG(rm:Sv): ∀(o:Nat) (l:List (List UInt8)) (x:Sl UInt8),x∈cZ rm o l→x.sv.b=rm.b
  |_,[],_,h=>by cases h
  |o,p::r,x,h=>by
   rcases List.mem_cons.1 h with rfl|h
   ·rfl
   ·exact zG rm _ r x h
theorem Hg(rm:Sv): ∀(o:Nat) (l:List (List UInt8)) (p:List UInt8),cZ rm o (l++[p])=cZ rm o l++[⟨eV rm (o+l.flatten.length) (o+l.flatten.length+p.length),p⟩]
  |o,[],p=>by simp[cZ]
  |o,q::r,p=>by
   rw[List.cons_append,cZ,Hg,cZ]
   simp only[List.flatten_cons,List.length_append,List.cons_append,Nat.add_assoc]
theorem Hh{rm:Sv}{h:Nat→Option Obj}{all:List UInt8}(hl:bM aJ 1 h rm all): ∀(o:Nat) (l:List (List UInt8)),o+l.flatten.length≤all.length→(all.drop o).take l.flatten.length=l.flatten→ ∀x∈cZ rm o l,bM aJ 1 h x.sv x.xs
  |_,[],_,_,_,hx=>by cases hx
  |o,p::r,hb,he,x,hx=>by
   rw[List.flatten_cons,List.length_append]at hb
   rw[List.flatten_cons,List.length_append]at he
   have e1:(all.drop o).take p.length=p:=by
      have:=congrArg (List.take p.length) he
      rw[List.take_take,Nat.min_eq_left (by omega),List.take_left']at this
      ·exact this
      ·rfl
   have e2:(all.drop (o+p.length)).take r.flatten.length=r.flatten:=by
      have:=congrArg (List.drop p.length) he
      rw[List.drop_take,List.drop_drop,List.drop_left' rfl,show p.length+r.flatten.length -p.length=r.flatten.length by omega]at this
      exact this
   rcases List.mem_cons.1 hx with rfl|hx
   ·have:=hl.cut (lo:=o) (hi:=o+p.length) (by omega) (by omega)
    rw[Nat.mul_one,show o+p.length -o=p.length by omega,e1]at this
    simpa[eV]using this
   ·exact Hh hl (o+p.length) r (by omega) e2 x hx
def vh(a:Sl (Sl UInt8)):aj:=⟨fun k=> ∃x∈a.xs,k=x.sv.b,fun h=>a.xs=[]∨ ∃rm,rm.nil=false∧a.xs=cZ rm 0 (aE a.xs)∧(own aJ 1 rm (aE a.xs).flatten).sat h,fun h h' e s=>by
  rcases s with s|⟨rm,h1,h2,h3⟩
  ·exact .inl s
  ·rcases List.eq_nil_or_concat a.xs with hx|⟨l,x,hx⟩
   ·exact .inl hx
   ·have hm:x∈a.xs:=by rw[hx];simp
    have hb:x.sv.b=rm.b:=zG rm 0 _ x (h2▸hm)
    exact .inr ⟨rm,h1,h2,(own aJ 1 rm (aE a.xs).flatten).loc h h' (fun k hk=>e k ⟨x,hm,by rw[hb];exact hk.2⟩) h3⟩⟩
def dY(a:Sl (Sl UInt8)):aj:= .two (own (bP (τ:=UInt8)) 1 a.sv a.xs) (vh a)
theorem NO{a:Sl (Sl UInt8)}{h:Nat→Option Obj}(s:(vh a).sat h): ∀x∈a.xs,bM aJ 1 h x.sv x.xs:=fun x hx=>by
  rcases s with s|⟨rm,h1,h2,h3⟩
  ·rw[s]at hx;cases hx
  ·refine Hh h3.1 0 (aE a.xs) (by omega) (by rw[List.drop_zero,List.take_length]) x (h2▸hx)
theorem xo{α:Type}{enc:α→Array Value}{c:Nat}{s:Sv}{xs:List α}{h:Nat→Option Obj}(hl:bM enc c h s xs)(hx:xs≠[]):(own enc c s xs).fp s.b:=
  ⟨hl.ok.some (by have:=hl.len;have:=List.length_pos_iff.2 hx;omega),rfl⟩
theorem aj.zH{k:Nat}: ∀{es:List aj} {e:aj},e∈es→e.fp k→(aj.all es).fp k
  |_::_,_,he,hk=>(List.mem_cons.1 he).elim (fun h=> .inl (h▸hk)) fun h=> .inr (aj.zH h hk)
theorem Hi{α:Type}{e:α}: ∀{L:List α} {i:Nat},L[i]? =Option.some e→L.Perm (e::L.eraseIdx i)
  |[],i,h=>by simp at h
  |x::L,0,h=>by obtain rfl:x=e:=by simpa using h
                simp
  |x::L,i+1,h=>by
   have:=Hi (L:=L) (i:=i) (by simpa using h)
   rw[List.eraseIdx_cons_succ]
   exact(this.cons x).trans (.swap _ _ _)
theorem Mem.pick{τ:Type}{f:τ→aj}{w0 w:World}{L:List aj}{xs:List τ}{i:Nat}{x:τ}(hx:xs[i]? =some x):Mem w0 (aj.all (xs.map f)::L) w↔Mem w0 (f x::aj.all ((xs.eraseIdx i).map f)::L) w:=by
  have hp:(xs.map f).Perm (f x::(xs.eraseIdx i).map f):=by
    have:=Hi hx
    simpa using this.map f
  rw[Mem.wS]
  have e:Mem w0 (f x::aj.all ((xs.eraseIdx i).map f)::L) w↔Mem w0 (f x::((xs.eraseIdx i).map f++L)) w:=by
    have sw: ∀(a b:aj) (K:List aj),Mem w0 (a::b::K) w↔Mem w0 (b::a::K) w:=fun a b K=>⟨fun h=>h.perm (List.Perm.swap _ _ _),fun h=>h.perm (List.Perm.swap _ _ _)⟩
    rw[sw,Mem.wS]
    exact⟨fun h=>h.perm List.perm_middle,fun h=>h.perm List.perm_middle.symm⟩
  rw[e]
  exact⟨fun h=>h.perm (hp.append_right L),fun h=>h.perm (hp.append_right L).symm⟩
theorem NP{w0 w:World}{L:List aj}{a:Sl Bk}(h:Mem w0 (own bN 4 a.sv a.xs::aj.all (a.xs.map fun b:Bk=>dY b.ag)::L) w):Mem w0 (fz a::L) w:=by
  have hs:=h.sat (own bN 4 a.sv a.xs) (by simp)
  have ha:=h.sat (aj.all (a.xs.map fun b:Bk=>dY b.ag)) (by simp)
  have hb: ∀x∈a.xs,(dY x.ag).sat fun k=>w.heap[k]? :=fun x hx=>aj.wT ha _ (List.mem_map_of_mem hx)
  refine Mem.freeze (es:=[own bN 4 a.sv a.xs,aj.all (a.xs.map fun b:Bk=>dY b.ag)]) a ⟨hs.1,fun x hx=>⟨(hb x hx).1.1,fun y hy=>⟨NO (hb x hx).2.1 y hy,fun _ _=>trivial⟩⟩⟩ (fun k hk=> ?_) h
  rcases hk with⟨cR,rfl⟩|⟨x,hx,hk⟩
  ·exact⟨_,by simp,xo hs.1 cR⟩
  ·refine⟨aj.all (a.xs.map fun b:Bk=>dY b.ag),by simp,aj.zH (List.mem_map_of_mem hx) ?_⟩
   rcases hk with⟨cR,rfl⟩|⟨y,hy,⟨_,rfl⟩|⟨_,_,hf⟩⟩
   ·exact .inl (xo (hb x hx).1.1 cR)
   ·exact .inr ⟨y,hy,rfl⟩
   ·exact hf.elim
theorem zI{τ:Type}[Deep τ][r:eU τ][Plain τ]{enc:τ→Array Value}{c:Nat}[f:fh τ enc c](hr: ∀(x:τ) k,¬r.reach x k)(hg: ∀h (x:τ),Deep.bk h x){w0 w:World}{L:List aj}{a:Sl τ}(h:Mem w0 (own enc c a.sv a.xs::L) w):Mem w0 (fz a::L) w:=by
  have hs:=h.sat (own enc c a.sv a.xs) (by simp)
  have e1:Deep.cells (τ:=τ)=enc:=funext (fh.h (c:=c))
  have e2:Deep.c τ=c:=fh.hc (enc:=enc)
  refine Mem.NH a ⟨by rw[e1,e2];exact hs.1,fun x _=>hg _ x⟩ (fun k hk=> ?_) h
  rcases hk with⟨cR,rfl⟩|⟨x,_,hk⟩
  ·exact xo hs.1 cR
  ·exact(hr x k hk).elim
theorem zJ{w0 w:World}{L:List aj}{d:Cp}(h:Mem w0 (fz d.blocks::fz d.bc::L) w):Mem w0 (fz d::L) w:=by
  refine Mem.freeze (es:=[fz d.blocks,fz d.bc]) d ⟨h.sat (fz d.blocks) (by simp),h.sat (fz d.bc) (by simp)⟩ (fun k hk=> ?_) h
  rcases hk with hk|hk
  ·exact⟨fz d.blocks,by simp,hk⟩
  ·exact⟨fz d.bc,by simp,hk⟩
theorem Hj{w0 w:World}{L:List aj}{a:Sl Ft}(h:Mem w0 (own cX 4 a.sv a.xs::L) w):Mem w0 (fz a::L) w:=zI (fun _ _ h=>h) (fun _ _=>trivial) h
theorem tN{w0 w:World}{L:List aj}{a:Sl Int}(h:Mem w0 (own bf 1 a.sv a.xs::L) w):Mem w0 (fz a::L) w:=zI (fun _ _ h=>h) (fun _ _=>trivial) h
theorem CH{w0 w:World}{L:List aj}{a:Sl UInt8}(h:Mem w0 (own aJ 1 a.sv a.xs::L) w):Mem w0 (fz a::L) w:=zI (fun _ _ h=>h) (fun _ _=>trivial) h
open Go.aL
def dJ:Int:=1099511627776
def nO(b p s:Int):Bool:=decide (1≤b)&&decide (b≤32)&&decide (1≤p)&&decide (p≤16)&&decide (1≤s)&&decide (s≤256)
theorem ik{b p s:Int}:nO b p s=true↔1≤b∧b≤32∧1≤p∧p≤16∧1≤s∧s≤256:=by
 simp only[nO,Bool.and_eq_true,decide_eq_true_eq,and_assoc]
def Hk(s:Int)(x:List UInt8):Bool:=decide ((x.length:Int)=s)
def k7(p s:Int)(b:BV):Bool:=decide ((b.ag.length:Int)=p)&&decide (0≤b.used)&&decide (b.used≤p)&&decide (0≤b.bE)&&decide (b.bE≤dJ)&&b.ag.all (Hk s)
theorem eM{p s:Int}{b:BV}:k7 p s b=true↔(b.ag.length:Int)=p∧0≤b.used∧b.used≤p∧0≤b.bE∧b.bE≤dJ∧ ∀x∈b.ag,(x.length:Int)=s:=by
 simp only[k7,Hk,Bool.and_eq_true,decide_eq_true_eq,and_assoc,List.all_eq_true]
def bg(c:CV):Bool:=nO c.blocks.length c.ag c.size&&decide (0≤c.ops)&&decide (c.ops≤dJ)&&decide (c.bc.length≤64)&&c.blocks.all (k7 c.ag c.size)
theorem dE{c:CV}:bg c=true↔nO c.blocks.length c.ag c.size=true∧0≤c.ops∧c.ops≤dJ∧c.bc.length≤64∧ ∀b∈c.blocks,k7 c.ag c.size b=true:=by
 simp only[bg,Bool.and_eq_true,decide_eq_true_eq,and_assoc,List.all_eq_true]
def ko(c:CV)(block:Int):Bool:=bg c&&decide (0≤block)&&decide (block<c.blocks.length)
theorem lX{c:CV}{block:Int}:ko c block=true↔bg c=true∧0≤block∧block<c.blocks.length:=by
 simp only[ko,Bool.and_eq_true,decide_eq_true_eq,and_assoc]
def NQ:BV:=⟨[],0,0,false⟩
def aO(c:CV)(block:Int):BV:=c.blocks.getD block.toNat NQ
def gE(n:Int):List UInt8:=List.replicate n.toNat 255
def oR(b p s:Int):CV×Int:=if nO b p s=true then(⟨p,s,List.replicate b.toNat ⟨List.replicate p.toNat (gE s),0,0,false⟩,0,false,[]⟩,0)else(⟨0,0,[],0,false,[]⟩,1)
def bR(c:CV):Ft×Bool:=match c.bc.find? fun f=>decide (f.op=c.ops)with
 |some f=>(f,f.cut||f.fail)
 |none=>(vg,false)
def mG(f:Ft):Int:=if f.cut=true then 7 else 9
def qM(c:CV)(block lY:Int)(p:List UInt8):Bool:=ko c block&&decide (0≤lY)&&decide (lY<c.ag)&&decide ((p.length:Int)=c.size)&&decide (c.ops<dJ)
theorem oS{c:CV}{block lY:Int}{p:List UInt8}:qM c block lY p=true↔ko c block=true∧0≤lY∧lY<c.ag∧(p.length:Int)=c.size∧c.ops<dJ:=by
 simp only[qM,Bool.and_eq_true,decide_eq_true_eq,and_assoc]
def cU(m:UInt8)(p:List UInt8):List UInt8:=p.map fun x=>x|||m
def vi(c:CV)(p:List UInt8):List UInt8:=if(bR c).2=true then cU (~~~(bR c).1.mask) p else p
def pS(c:CV)(block lY:Int)(p:List UInt8):CV:=
 {c with ops:=c.ops+1,off:=(bR c).2&&(bR c).1.cut,blocks:=c.blocks.set block.toNat {aO c block with used:=(aO c block).used+1,ag:=(aO c block).ag.set lY.toNat (vi c p)}}
def kG(c:CV)(block lY:Int)(p:List UInt8):Int:=
 if qM c block lY p=true then(if c.off=true then 7 else if(aO c block).bad=true∨lY≠(aO c block).used then 9 else if(bR c).2=true then mG (bR c).1 else 0)else 1
def k8(c:CV)(block lY:Int)(p:List UInt8):CV:=
 if qM c block lY p=true∧c.off=false∧(aO c block).bad=false∧lY=(aO c block).used then pS c block lY p else c
def qN(c:CV)(block:Int):Bool:=ko c block&&decide (c.ops<dJ)&&decide ((aO c block).bE<dJ)
theorem vj{c:CV}{block:Int}:qN c block=true↔ko c block=true∧c.ops<dJ∧(aO c block).bE<dJ:=by
 simp only[qN,Bool.and_eq_true,decide_eq_true_eq,and_assoc]
def rX(c:CV)(ps:List (List UInt8)):List (List UInt8):=if(bR c).2=true then ps.map (cU (bR c).1.mask)else ps.map fun _=>gE c.size
def rY(c:CV)(block:Int):CV:=
 {c with ops:=c.ops+1,off:=(bR c).2&&(bR c).1.cut,blocks:=c.blocks.set block.toNat {aO c block with used:=if(bR c).2=true then c.ag else 0,bE:=(aO c block).bE+1,ag:=rX c (aO c block).ag}}
def eD(c:CV)(block:Int):Int:=
 if qN c block=true then(if c.off=true then 7 else if(aO c block).bad=true then 9 else if(bR c).2=true then mG (bR c).1 else 0)else 1
def k9(c:CV)(block:Int):CV:=if qN c block=true∧c.off=false∧(aO c block).bad=false then rY c block else c
def oT(c:CV)(block:Int):Int:=if ko c block=true then(if c.off=true then 7 else 0)else 1
def nP(c:CV)(block:Int):CV:=if oT c block=0 then{c with blocks:=c.blocks.set block.toNat {aO c block with bad:=true}}else c
def qO(c:CV)(fs:List Ft):Int:=if bg c=true∧fs.length≤64 then 0 else 1
def vk(c:CV)(fs:List Ft):CV:=if qO c fs=0 then{c with off:=false,bc:=fs}else c
theorem zK{c:CV}{block:Int}(h:ko c block=true):c.blocks[block.toNat]? =some (aO c block):=by
 obtain⟨_,h2,h3⟩:=lX.1 h
 exact iU (by omega)
theorem tO{c:CV}{block:Int}(h:ko c block=true):k7 c.ag c.size (aO c block)=true:=
 (dE.1 (lX.1 h).1).2.2.2.2 _ (List.mem_of_getElem? (zK h))
end Go.Kb
namespace Go.aL
open Go.RowKit
section
variable {α:Type} {enc:α→Array Value} {c:Nat}
theorem NR{P:Program}{t tx ty e:TypeId}{cE:Nat}(ht:eo P t e c cE)[he:bF enc c]{w0 w:World}{L:List aj}{i:Nat}{s:Sv}{xs ys:List α}{x:Value}
  (hw:Mem w0 L w) (hi:L[i]? =some (own enc c s xs)) (hs:Src P c tx x ys.length (aQ enc ys) w) (hn:s.nil=false) (my:s.len+ys.length≤s.cap) (fJ:s.len+ys.length≤140737488355328):
  ∃w',(Builtin.append_ #[t,tx] ty #[s.val,x]).run P w= .ok (Sv.val {s with len:=s.len+ys.length}) w'∧Mem w0 (L.set i (own enc c {s with len:=s.len+ys.length} (xs++ys))) w':=by
 obtain⟨r,lO⟩:=hw.get hi
 obtain⟨i',z,bb,aH,bu,cJ,kV⟩:=ht.info
 subst bu cJ
 have hlen:=r.len
 have hle:=r.ok.le
 obtain⟨fG,cs,T,fz,eS,eJ,kC,kW⟩:=lO hn
 have hmul:(s.len+ys.length)*i'.size≤s.cap*i'.size:=Nat.mul_le_mul_right _ my
 have dC:(aQ enc ys).length=ys.length*i'.size:=gl ys
 have hO:s.o+s.len*i'.size+(aQ enc ys).toArray.size≤cs.size:=by
  rw[List.size_toArray,dC];rw[Nat.add_mul]at hmul;omega
 have bH:=wN (P:=P) s.b (s.o+s.len*i'.size) T fz (aQ enc ys) 0 cs w eS kC (by simpa using hO) hs.one
 have wP:(storeCells ⟨s.b,s.o+s.len*i'.size,none⟩ (aQ enc ys)).run P w= .ok () (w.setRow s.b (cI cs (s.o+s.len*i'.size) (aQ enc ys).toArray)):=by
  simpa[cI]using bH
 refine⟨w.setRow s.b (cI cs (s.o+s.len*i'.size) (aQ enc ys).toArray),?_,?_⟩
 ·
  have jT:({s with len:=s.len+ys.length}:Sv).val= .slice (some ⟨s.b,s.o,s.sp⟩) (s.len+ys.length) s.cap:=Sv.gD (s:={s with len:=s.len+ys.length}) hn
  rw[Sv.gD hn,jT,fG]
  rcases hs.kind with⟨e',hk⟩|hk<;>simp[Builtin.append_,run_underlying ht.dP,run_underlying hk,sizeOf,typeInfo,bb,hs.len,my,hs.cells,Addr.fF,wP]
 ·
  have lP:hp (w.setRow s.b (cI cs (s.o+s.len*i'.size) (aQ enc ys).toArray)) s.b=some (.cells (cI cs (s.o+s.len*i'.size) (aQ enc ys).toArray) T fz):=setRow_heap w s.b cs _ T fz eS
  refine hw.change hi (fun k hk=>hk) (fun k hk=> ?_) (by simp[World.setRow]) ⟨rfl,rfl,rfl⟩ ⟨rH ⟨(fun h=>by rw[hn]at h;cases h),my,by simp only;omega,r.ok.sp⟩ (by simp[hlen]) lP fun k y hy j hj=> ?_,fun _=>⟨fG,_,_,_,lP,?_,by rw[lM hO];exact kC,kW⟩⟩
  ·
   exact setRow_other w s.b k _ (fun e=>hk ⟨hn,e⟩)
  ·
   rw[tr hO]
   by_cases hk:k<xs.length
   ·
    rw[if_neg,←r.row k y (by rw[List.getElem?_append_left hk]at hy;exact hy) j hj]
    ·
     unfold lK;rw[eS]
    ·
     have:(k+1)*i'.size≤s.len*i'.size:=Nat.mul_le_mul_right _ (by omega)
     rw[Nat.add_mul]at this
     intro h;have:=h.1;simp only at this;omega
   ·
    rw[List.getElem?_append_right (by omega)]at hy
    have tu:=lN (enc:=enc) ys (k -xs.length) y hy j hj
    have rI:s.len*i'.size+(k -xs.length)*i'.size=k*i'.size:=by rw[←Nat.add_mul];congr 1;omega
    have bB:(k -xs.length+1)*i'.size≤ys.length*i'.size:=Nat.mul_le_mul_right _ (by have:=(List.getElem?_eq_some_iff.1 hy).1;omega)
    rw[Nat.add_mul]at bB
    rw[if_pos ⟨by simp only;omega,by rw[List.size_toArray,dC];simp only;omega⟩,←tu]
    simp only[List.getElem?_toArray]
    congr 1;omega
  ·
   rw[lM hO];exact eJ
theorem NT{P:Program}{w0 w:World}{L:List aj}{i:Nat}{s:Sv}{xs ys:List α}[he:bF enc c]{k:Nat}(hw:Mem w0 L w)(hi:L[i]? =some (own enc c s xs))(hn:s.nil=false)(hk:k+ys.length≤xs.length):
  ∃w',(storeCells ⟨s.b,s.o+k*c,none⟩ (aQ enc ys)).run P w= .ok () w'∧Mem w0 (L.set i (own enc c s (xs.take k++(ys++xs.drop (k+ys.length))))) w':=by
 obtain⟨r,lO⟩:=hw.get hi
 have hlen:=r.len
 have hle:=r.ok.le
 obtain⟨fG,cs,T,fz,eS,eJ,kC,kW⟩:=lO hn
 have hmul:(k+ys.length)*c≤s.cap*c:=Nat.mul_le_mul_right _ (by omega)
 have dC:(aQ enc ys).length=ys.length*c:=gl ys
 have hO:s.o+k*c+(aQ enc ys).toArray.size≤cs.size:=by
  rw[List.size_toArray,dC];rw[Nat.add_mul]at hmul;omega
 have pQ: ∀v∈aQ enc ys,v.oneCell'=true:=rG ys
 have bH:=wN (P:=P) s.b (s.o+k*c) T fz (aQ enc ys) 0 cs w eS kC (by simpa using hO) pQ
 have wP:(storeCells ⟨s.b,s.o+k*c,none⟩ (aQ enc ys)).run P w= .ok () (w.setRow s.b (cI cs (s.o+k*c) (aQ enc ys).toArray)):=by
  simpa[cI]using bH
 refine⟨_,wP,?_⟩
 have lP:hp (w.setRow s.b (cI cs (s.o+k*c) (aQ enc ys).toArray)) s.b=some (.cells (cI cs (s.o+k*c) (aQ enc ys).toArray) T fz):=setRow_heap w s.b cs _ T fz eS
 have la:(xs.take k++(ys++xs.drop (k+ys.length))).length=xs.length:=by simp only[List.length_append,List.length_take,List.length_drop];omega
 refine hw.change hi (fun k hk=>hk) (fun k hk=> ?_) (by simp[World.setRow]) ⟨rfl,rfl,rfl⟩ ⟨rH r.ok (by rw[la];exact hlen) lP fun m y hy j hj=> ?_,fun _=>⟨fG,_,_,_,lP,?_,by rw[lM hO];exact kC,kW⟩⟩
 ·
  exact setRow_other w s.b k _ (fun e=>hk ⟨hn,e⟩)
 ·
  rw[tr hO]
  rcases Nat.lt_or_ge m k with h1|h1
  ·
   have xp:xs[m]? =some y:=by
    rw[List.getElem?_append_left (by rw[List.length_take];omega),List.getElem?_take,if_pos h1]at hy;exact hy
   rw[if_neg,←r.row m y xp j hj]
   ·
    unfold lK;rw[eS]
   ·
    have:(m+1)*c≤k*c:=Nat.mul_le_mul_right _ (by omega)
    rw[Nat.add_mul]at this
    intro h;have:=h.1;omega
  ·
   rcases Nat.lt_or_ge m (k+ys.length)with h2|h2
   ·
    have xp:ys[m -k]? =some y:=by
     rw[List.getElem?_append_right (by rw[List.length_take];omega),List.length_take,Nat.min_eq_left (by omega),List.getElem?_append_left (by omega)]at hy;exact hy
    have tu:=lN (enc:=enc) ys (m -k) y xp j hj
    have rI:k*c+(m -k)*c=m*c:=by rw[←Nat.add_mul];congr 1;omega
    have bB:(m -k+1)*c≤ys.length*c:=Nat.mul_le_mul_right _ (by omega)
    rw[Nat.add_mul]at bB
    rw[if_pos ⟨by omega,by rw[List.size_toArray,dC];omega⟩,←tu]
    simp only[List.getElem?_toArray]
    congr 1;omega
   ·
    have xp:xs[m]? =some y:=by
     rw[List.getElem?_append_right (by rw[List.length_take];omega),List.length_take,Nat.min_eq_left (by omega),List.getElem?_append_right (by omega),List.getElem?_drop]at hy
     rw[←hy];congr 1;omega
    rw[if_neg,←r.row m y xp j hj]
    ·
     unfold lK;rw[eS]
    ·
     have:(k+ys.length)*c≤m*c:=Nat.mul_le_mul_right _ h2
     rw[Nat.add_mul]at this
     intro h;have:=h.2;rw[List.size_toArray,dC]at this;omega
 ·
  rw[lM hO];exact eJ
end
section
variable {P:Program} {N:cy} {w0:World} {env:Env} {L:List aj} {l:List Oper} {Q:Exit→Act→World→Prop} {rest:List Oper} {d:Option Tmp} {ty:TypeId} {ps:String} {af:Array Edge} {gd:Option (Nat×Bool)} {K:Value→List aj→Prop}
variable {α:Type} {enc:α→Array Value} {c:Nat} {s:Sv} {xs ys:List α}
theorem NU{t tx e:TypeId}{x y:Operand}{yv:Value}{cE i:Nat}[ht:eo P t e c cE][he:bF enc c](hx:ev env x=some s.val)(hy:ev env y=some yv)[q:eT L s enc c xs i]
  (hs: ∀w,Mem w0 L w→Src P c tx yv ys.length (aQ enc ys) w) (hn:s.nil=false) (my:s.len+ys.length≤s.cap) (fJ:s.len+ys.length≤140737488355328) {L':List aj} [hu:eK L i (own enc c {s with len:=s.len+ys.length} (xs++ys)) L']
  (hk:K (Sv.val {s with len:=s.len+ys.length}) L'):
  gn P N w0 env L ⟨d, .call {callee:= .builtin .append,args:= #[x,y],argTypes:= #[t,tx]},ty,ps,af,gd⟩ K:=
 qH fun a w ha hw=>by
  obtain⟨w',h1,h4⟩:=NR (ty:=ty) ht hw q.h (hs w hw) hn my fJ
  refine⟨_,w',L',?_,by rw[←hu.h];exact h4,hk⟩
  simp[execOp,ha.ev hx,ha.ev hy,resolve,invoke,builtin,h1,Result.andThen]
theorem NV{t tx e:TypeId}{x y:Operand}{yv:Value}{cE i:Nat}[ht:eo P t e c cE][he:bF enc c](hx:ev env x=some s.val)(hy:ev env y=some yv)[q:eT L s enc c xs i]
  (hs: ∀w,Mem w0 L w→Src P c tx yv ys.length (aQ enc ys) w) (hn:s.nil=false) (my:s.len+ys.length≤s.cap) (fJ:s.len+ys.length≤140737488355328) {L':List aj} [hu:eK L i (own enc c {s with len:=s.len+ys.length} (xs++ys)) L']
  (hk:Sq P N w0 l Q rest (cm env d (Sv.val {s with len:=s.len+ys.length})) L') (hd:cW N d=true:=by rfl):
  Sq P N w0 l Q (⟨d, .call {callee:= .builtin .append,args:= #[x,y],argTypes:= #[t,tx]},ty,ps,af,none⟩::rest) env L:=
 GR rfl hd (NU hx hy hs hn my fJ hk)
theorem Hl{D S rm:Sv}{x y:Operand}{tx fg e:TypeId}{i k:Nat}{ys:List α}[he:bF enc c](hx:ev env x=some D.val)(lV:D.nil=false)(lW:D.sp=none)(m0:D.b=rm.b)(oO:D.o=rm.o+k*c)(hy:ev env y=some S.val)[ht:eB P tx e c][q:eT L rm enc c xs i][hS:Hd w0 L S enc c ys](hc:0<c)(hn:rm.nil=false)(h0:0<ys.length)(hl:ys.length≤D.len)(iQ:k+ys.length≤xs.length)
  {L':List aj} [hu:eK L i (own enc c rm (xs.take k++(ys++xs.drop (k+ys.length)))) L'] (hk:K (.int .i64 ys.length) L'):
  gn P N w0 env L ⟨d, .call {callee:= .builtin .copy,args:= #[x,y],argTypes:= #[tx,fg]},ty,ps,af,gd⟩ K:=
 qH fun a w ha hw=>by
  have hs:=hS.h w hw
  have xi:=hs.some h0
  have nL:=hs.len
  have xj:=hs.ok.sp (by have:=hs.ok.le;omega)
  rw[Sv.gD lV,lW,m0,oO]at hx
  rw[Sv.gD xi,xj]at hy
  obtain⟨w',h1,h2⟩:=NT (P:=P) hw q.h hn iQ
  rw[hu.h]at h2
  refine⟨_,w',L',?_,h2,hk⟩
  have vl:=run_loadCells_list (P:=P) w ⟨S.b,S.o,none⟩ (aQ enc ys) (fun j v hj=>by
   obtain⟨z,hz,hv⟩:=y5 hc hj
   rw[Addr.fF,pF,←hv,←hs.row _ z hz (j%c) (Nat.mod_lt _ hc)]
   congr 1
   have:=Nat.div_add_mod j c
   rw[Nat.mul_comm]at this;omega)
  rw[gl]at vl
  cases hq:P.info? e with
  |none=>have:=ht.size;simp[hq]at this
  |some i'=>
   have hi:i'.size=c:=by have:=ht.size;simpa[hq]using this
   have wE:Nat.min S.len D.len=ys.length:=by rw[nL];exact Nat.min_eq_left hl
   have ff:(Builtin.copy_ #[tx,fg] ty #[.slice (some ⟨rm.b,rm.o+k*c,none⟩) D.len D.cap, .slice (some ⟨S.b,S.o,none⟩) S.len S.cap]).run P w= .ok (goInt ys.length) w':=by
    simp[Builtin.copy_,run_underlying ht.dP,Builtin.lenOf,Builtin.firstCells,sizeOf,typeInfo,hq,hi,wE,vl,h1]
   simp[execOp,ha.ev hx,ha.ev hy,resolve,invoke,builtin,ff,Result.andThen,goInt]
theorem NW{D S rm:Sv}{x y:Operand}{tx fg e:TypeId}{i k:Nat}{ys:List α}[he:bF enc c](hx:ev env x=some D.val)(lV:D.nil=false)(lW:D.sp=none)(m0:D.b=rm.b)(oO:D.o=rm.o+k*c)(hy:ev env y=some S.val)[ht:eB P tx e c][q:eT L rm enc c xs i][hS:Hd w0 L S enc c ys](hc:0<c)(hn:rm.nil=false)(h0:0<ys.length)(hl:ys.length≤D.len)(iQ:k+ys.length≤xs.length)
  {L':List aj} [hu:eK L i (own enc c rm (xs.take k++(ys++xs.drop (k+ys.length)))) L'] (hk:Sq P N w0 l Q rest (cm env d (.int .i64 ys.length)) L') (hd:cW N d=true:=by rfl):
  Sq P N w0 l Q (⟨d, .call {callee:= .builtin .copy,args:= #[x,y],argTypes:= #[tx,fg]},ty,ps,af,none⟩::rest) env L:=
 GR rfl hd (Hl hx lV lW m0 oO hy hc hn h0 hl iQ hk)
end
theorem Mem.vm{w0 w:World}{L:List aj}{e:aj}{es:List aj}(h:Mem w0 (e::aj.all es::L) w):Mem w0 (aj.all (es++[e])::L) w:=by
 have h1:Mem w0 (aj.all (e::es)::L) w:=Mem.NI h
 rw[Mem.wS]at h1⊢
 exact h1.perm ((List.perm_append_singleton e es).symm.append_right L)
theorem Mem.zL{w0 w:World}{L:List aj}{e e':aj}(hf: ∀k,e'.fp k→e.fp k)(hs:(e.sat fun k=>w.heap[k]?)→e'.sat fun k=>w.heap[k]?)(h:Mem w0 (e::L) w):Mem w0 (e'::L) w:=by
 have hd:=List.pairwise_cons.1 h.mr
 refine⟨h.below,fun x he=> ?_,fun x he k hk=> ?_,List.pairwise_cons.2 ⟨fun y hy k hk=>hd.1 y hy k (hf k hk),hd.2⟩⟩
 ·
  rcases List.mem_cons.1 he with rfl|he
  ·
   exact hs (h.sat e (by simp))
  ·
   exact h.sat x (by simp[he])
 ·
  rcases List.mem_cons.1 he with rfl|he
  ·
   exact h.iD e (by simp) k (hf k hk)
  ·
   exact h.iD x (by simp[he]) k hk
end Go.aL
namespace Go.Kb
open Go.aL
theorem Hm{w0 w:World}{L:List aj}{s rm:Sv}{l:List (List UInt8)}{xs:List (Sl UInt8)}(hx:xs=cZ rm 0 l)(hn:rm.nil=false)(h:Mem w0 (own (bP (τ:=UInt8)) 1 s xs::own aJ 1 rm l.flatten::L) w):Mem w0 (dY ⟨s,xs⟩::L) w:=by
 have ht:aE xs=l:=by rw[hx,rW]
 have h1:=h.perm (List.Perm.swap _ _ _)
 have h2:Mem w0 (vh ⟨s,xs⟩::own (bP (τ:=UInt8)) 1 s xs::L) w:=Mem.zL (fun k hk=>by
  obtain⟨x,Ct,rfl⟩:=hk
  exact⟨hn,zG rm 0 l x (hx▸Ct)⟩) (fun hs=> .inr ⟨rm,hn,by simp only[ht];exact hx,by simp only[ht];exact hs⟩) h1
 exact Mem.u1.2 (h2.perm (List.Perm.swap _ _ _))
theorem NX{w0 w:World}{L:List aj}{s:Sv}(h:Mem w0 (own (bP (τ:=UInt8)) 1 s []::L) w):Mem w0 (dY ⟨s,[]⟩::L) w:=by
 refine Mem.u1.2 (Mem.perm (Mem.zL (e:= .emp) (e':=vh ⟨s,[]⟩) (fun k hk=> ?_) (fun _=> .inl rfl) (Mem.wR.2 h)) (List.Perm.swap _ _ _))
 obtain⟨x,hx,_⟩:=hk
 cases hx
theorem NY{w0 w:World}{L:List aj}{a:Sl (Sl UInt8)}(cR:a.xs≠[])(h:Mem w0 (dY a::L) w): ∃rm:Sv,(rm.nil=false∧rm.sp=none∧a.xs=cZ rm 0 (aE a.xs))∧Mem w0 (own (bP (τ:=UInt8)) 1 a.sv a.xs::own aJ 1 rm (aE a.xs).flatten::L) w:=by
 have h1:=Mem.u1.1 h
 have hr:=h1.sat (vh a) (by simp)
 rcases hr with hr|⟨rm,g1,g2,g3⟩
 ·
  exact absurd hr cR
 ·
  refine⟨rm,⟨g1,(g3.2 g1).1,g2⟩,?_⟩
  have h2:=h1.perm (List.Perm.swap _ _ _)
  obtain⟨x,l,zM⟩:=List.exists_cons_of_ne_nil cR
  have hm:x∈a.xs:=by rw[zM];simp
  have hb:x.sv.b=rm.b:=zG rm 0 _ x (g2▸hm)
  exact(Mem.zL (e:=vh a) (e':=own aJ 1 rm (aE a.xs).flatten) (fun k hk=>⟨x,hm,by rw[hb];exact hk.2⟩) (fun _=>g3) h2).perm (List.Perm.swap _ _ _)
theorem zN: ∀{l:List (List UInt8)} {i:Nat} {q r:List UInt8},l[i]? =some q→r.length=q.length→(l.set i r).flatten=l.flatten.take (l.take i).flatten.length++(r++l.flatten.drop ((l.take i).flatten.length+r.length))
 |y::l,0,q,r,h,hr=>by
  obtain rfl:y=q:=by simpa using h
  simp[hr]
 |y::l,i+1,q,r,h,hr=>by
  have:=zN (l:=l) (i:=i) (q:=q) (r:=r) (by simpa using h) hr
  simp only[List.set_cons_succ,List.flatten_cons,this,List.take_succ_cons,List.length_append]
  rw[List.take_length_add_append,Nat.add_assoc,List.drop_length_add_append,List.append_assoc]
theorem zO{rm:Sv}: ∀{o:Nat} {l:List (List UInt8)} {i:Nat} {q:List UInt8},l[i]? =some q→(cZ rm o l)[i]? =some ⟨eV rm (o+(l.take i).flatten.length) (o+(l.take i).flatten.length+q.length),q⟩
 |o,y::l,0,q,h=>by
  obtain rfl:y=q:=by simpa using h
  simp[cZ]
 |o,y::l,i+1,q,h=>by
  have:=zO (rm:=rm) (o:=o+y.length) (l:=l) (i:=i) (q:=q) (by simpa using h)
  simp only[cZ,List.getElem?_cons_succ,this,List.take_succ_cons,List.flatten_cons,List.length_append,Nat.add_assoc]
def CI(l:List (List UInt8)):Prop:=l.length≤1000000∧l.flatten.length≤1000000
theorem xq{l:List (List UInt8)}{i:Nat}{q:List UInt8}(h:l[i]? =some q):(l.take (i+1)).flatten.length=(l.take i).flatten.length+q.length:=by
 rw[List.take_add_one,h];simp
theorem xr(l:List (List UInt8))(i:Nat):(l.take i).flatten.length≤l.flatten.length:=by
 have:l.flatten=(l.take i).flatten++(l.drop i).flatten:=by rw[←List.flatten_append,List.take_append_drop]
 rw[this,List.length_append];omega
theorem NZ{rm:Sv}{l:List (List UInt8)}{n i:Nat}{r q:List UInt8}(hn:n=l.length)(hr:r=(l.take i).flatten)(h:l[i]? =some q):(cZ rm 0 (l.take i)++List.replicate (n -i) (⟨Sv.none,[]⟩:Sl UInt8)).set i ⟨eV rm r.length (r.length+q.length),q⟩=cZ rm 0 (l.take (i+1))++List.replicate (n -(i+1)) (⟨Sv.none,[]⟩:Sl UInt8):=by
 have hi:=(List.getElem?_eq_some_iff.1 h).1
 have hl:(cZ rm 0 (l.take i)).length=i:=by rw[CG,List.length_take];omega
 rw[List.set_append_right _ _ (by omega),hl,Nat.sub_self,List.take_add_one,h,show n -i=n -(i+1)+1 by omega,List.replicate_succ,List.set_cons_zero]
 simp only[Option.toList_some]
 rw[Hg,hr,Nat.zero_add,List.append_assoc,List.singleton_append]
theorem lZ{w0 w:World}{L:List aj}(d:Cp)(h:Mem w0 (own bN 4 d.blocks.sv d.blocks.xs::aj.all (d.blocks.xs.map fun b:Bk=>dY b.ag)::own cX 4 d.bc.sv d.bc.xs::L) w):Mem w0 (fz d::L) w:=
 zJ ((Hj (a:=d.bc) ((NP h).perm (List.Perm.swap _ _ _))).perm (List.Perm.swap _ _ _))
theorem CJ{α:Type}{enc:α→Array Value}{c:Nat}{s:Sv}{xs ys:List α}{w0 w:World}{L:List aj}(e:xs.map enc=ys.map enc)(h:Mem w0 (own enc c s xs::L) w):Mem w0 (own enc c s ys::L) w:=
 Mem.zL (e:=own enc c s xs) (fun _ hk=>hk) (fun hs=>⟨⟨hs.1.ok,by have:=congrArg List.length e;simp only[List.length_map]at this;rw[←this];exact hs.1.len,fun i y hy j hj=>by
  have h1:(xs.map enc)[i]? =(ys.map enc)[i]? :=by rw[e]
  rw[List.getElem?_map,List.getElem?_map,hy]at h1
  cases hx:xs[i]?with
  |none=>rw[hx]at h1;cases h1
  |some x=>
   rw[hx]at h1
   have h2:enc x=enc y:=by simpa using h1
   have:=hs.1.row i x hx j hj
   rw[h2]at this
   exact this⟩,hs.2⟩) h
theorem zP{w0 w:World}{L:List aj}{s sp rm:Sv}{xs:List Bk}{i:Nat}{B B':Bk}{ps:List (Sl UInt8)}{l:List (List UInt8)}(hi:i<xs.length)(hp:ps.map (fun x=>x.sv)=(cZ rm 0 l).map (fun x=>x.sv))(hn:rm.nil=false)(hc:bN B=bN B')(hB:B'.ag=⟨sp,cZ rm 0 l⟩)
  (h:Mem w0 (own (bP (τ:=UInt8)) 1 sp ps::own aJ 1 rm l.flatten::own bN 4 s (xs.set i B)::aj.all ((xs.eraseIdx i).map fun b:Bk=>dY b.ag)::L) w):Mem w0 (own bN 4 s (xs.set i B')::aj.all ((xs.set i B').map fun b:Bk=>dY b.ag)::L) w:=by
 have h1:Mem w0 (own (bP (τ:=UInt8)) 1 sp (cZ rm 0 l)::own aJ 1 rm l.flatten::own bN 4 s (xs.set i B)::aj.all ((xs.eraseIdx i).map fun b:Bk=>dY b.ag)::L) w:=CJ (by
  have:=congrArg (List.map fun v:Sv=>(#[v.val]:Array Value)) hp
  rw[List.map_map,List.map_map]at this
  exact this) h
 have h2:=Hm (xs:=cZ rm 0 l) rfl hn h1
 rw[←hB]at h2
 have h3:=CJ (ys:=xs.set i B') (by rw[List.map_set,List.map_set,hc]) (h2.perm (List.Perm.swap _ _ _))
 have h4:Mem w0 (dY B'.ag::aj.all (((xs.set i B').eraseIdx i).map fun b:Bk=>dY b.ag)::own bN 4 s (xs.set i B')::L) w:=by
  rw[List.eraseIdx_set_eq]
  exact h3.perm ((List.Perm.swap _ _ _).trans (List.Perm.cons _ (List.Perm.swap _ _ _)))
 have h5:=(Mem.pick (f:=fun b:Bk=>dY b.ag) (xs:=xs.set i B') (i:=i) (x:=B') (by rw[List.getElem?_set_self hi])).2 h4
 exact h5.perm (List.Perm.swap _ _ _)
theorem Hn{w0 w:World}{L:List aj}{s:Sv}{xs:List Bk}{i:Nat}{B:Bk}(hB:xs[i]? =some B)(cR:B.ag.xs≠[])(h:Mem w0 (own bN 4 s xs::aj.all (xs.map fun b:Bk=>dY b.ag)::L) w):
  ∃rm:Sv,(rm.nil=false∧rm.sp=none∧B.ag.xs=cZ rm 0 (aE B.ag.xs))∧Mem w0 (own (bP (τ:=UInt8)) 1 B.ag.sv B.ag.xs::own aJ 1 rm (aE B.ag.xs).flatten::own bN 4 s xs::aj.all ((xs.eraseIdx i).map fun b:Bk=>dY b.ag)::L) w:=by
 have h1:=(Mem.pick (f:=fun b:Bk=>dY b.ag) hB).1 (h.perm (List.Perm.swap _ _ _))
 obtain⟨rm,hr,h2⟩:=NY cR h1
 refine⟨rm,hr,h2.perm (List.Perm.cons _ (List.Perm.cons _ (List.Perm.swap _ _ _)))⟩
end Go.Kb
namespace Go.aL
section
variable {P:Program} {N:cy} {w0:World} {env:Env} {L:List aj} {d:Option Tmp} {ty:TypeId} {ps:String} {af:Array Edge} {gd:Option (Nat×Bool)} {x y:Operand} {t u:TypeId}
theorem Ho{a b:UInt8}(hx:ev env x=some (.int .u8 a.toNat))(hy:ev env y=some (.int .u8 b.toNat)):
  Ry P N w0 env L ⟨d, .binOp .or t x y u,ty,ps,af,gd⟩ (.int .u8 (a|||b).toNat):=by
 have ha:=a.toNat_lt;have hb:=b.toNat_lt
 rw[UInt8.toNat_or]
 exact yV hx hy rfl rfl (by simp only[nb];omega) (by simp only[nb];omega)
theorem N1: ∀n,n<256→(255^^^n:Nat)=255 -n:=by decide+kernel
theorem N2{p q:Nat}(hp:p<2^nb .u8)(hq:q<2^nb .u8):Op.intBits .xor .u8 (p:Int) (q:Int)=(pure (.int .u8 ((p^^^q:Nat):Int)):Sem Value):=by
 simp only[Op.intBits,uQ,BitVec.toNat_xor,BitVec.toNat_ofNat,Nat.mod_eq_of_lt (nF hp),Nat.mod_eq_of_lt (nF hq)]
 rw[mv (Nat.xor_lt_two_pow hp hq)]
theorem N3{a:UInt8}(hx:ev env x=some (.int .u8 a.toNat)):
  Ry P N w0 env L ⟨d, .unOp .xor t x,ty,ps,af,gd⟩ (.int .u8 (~~~a).toNat):=fun aa w ha _=>by
 have e:(Op.intBits .xor .u8 255 (a.toNat:Int))=(pure (.int .u8 ((~~~a).toNat:Int)):Sem Value):=by
  have h3:=a.toNat_lt
  have h4:(~~~a).toNat=255 -a.toNat:=UInt8.toNat_not a
  have h5:(255^^^a.toNat:Nat)=255 -a.toNat:=N1 a.toNat h3
  have hp:(255:Nat)<2^nb .u8:=by decide
  have hq:a.toNat<2^nb .u8:=h3
  have hx:=N2 hp hq
  rw[h5]at hx
  rw[h4]
  exact hx
 simp only[execOp,ha.ev hx,Op.unary,Sem.run_bind,Result.andThen]
 rw[show(if IntKind.u8.signed=true then(-1:Int)else IntKind.u8.max)=255 by decide,e]
 rfl
end
open Go.RowKit
section
variable {P:Program} {N:cy} {w0:World} {env:Env} {L:List aj} {l:List Oper} {Q:Exit→Act→World→Prop} {rest:List Oper} {d:Option Tmp} {ty:TypeId} {ps:String} {af:Array Edge} {gd:Option (Nat×Bool)} {K:Value→List aj→Prop}
variable {α:Type} {enc:α→Array Value} {c:Nat}
theorem N4{β:Type}{l:List β}{i:Nat}{z:β}(h:l[i]? =some z):l.set i z=l:=by
 obtain⟨hi,rfl⟩:=List.getElem?_eq_some_iff.1 h
 exact List.set_getElem_self hi
theorem N5{D S:Sv}{x y:Operand}{tx fg e:TypeId}(hx:ev env x=some D.val)(hy:ev env y=some S.val)[ht:eB P tx e c][hS:Hd w0 L S enc c []](hk:K (.int .i64 0) L):
  gn P N w0 env L ⟨d, .call {callee:= .builtin .copy,args:= #[x,y],argTypes:= #[tx,fg]},ty,ps,af,gd⟩ K:=
 qH fun a w ha hw=>by
  have hs:=hS.h w hw
  have nL:S.len=0:=hs.len
  obtain⟨ad,len,cap,e1⟩:=S.ex
  have el:len=S.len:=by
   cases hn:S.nil with
   |true=>rw[Sv.pE hn]at e1;have:=hs.ok.nil hn;cases e1;omega
   |false=>rw[Sv.gD hn]at e1;cases e1;rfl
  obtain⟨Hp,N6,N7,e2⟩:=D.ex
  refine⟨_,w,L,?_,hw,hk⟩
  cases hq:P.info? e with
  |none=>have:=ht.size;simp[hq]at this
  |some i'=>
   rw[e1]at hy
   rw[e2]at hx
   have N8:len=0:=by omega
   have ff:(Builtin.copy_ #[tx,fg] ty #[.slice Hp N6 N7, .slice ad len cap]).run P w= .ok (goInt 0) w:=by
    have vl: ∀v:Addr,(loadCells v 0).run P w= .ok #[] w:=fun v=>by
     have:=run_loadCells_list (P:=P) w v [] (fun j v hj=>by simp at hj)
     simpa using this
    have bH: ∀v:Addr,(storeCells v []).run P w= .ok () w:=fun v=>rfl
    cases Hp<;>cases ad<;>simp[Builtin.copy_,run_underlying ht.dP,Builtin.lenOf,Builtin.firstCells,sizeOf,typeInfo,hq,N8,vl,bH]
   simp[execOp,ha.ev hx,ha.ev hy,resolve,invoke,builtin,ff,Result.andThen,goInt]
theorem CK{D S rm:Sv}{x y:Operand}{tx fg e:TypeId}{i k:Nat}{xs ys:List α}[he:bF enc c](hx:ev env x=some D.val)(lV:D.nil=false)(lW:D.sp=none)(m0:D.b=rm.b)(oO:D.o=rm.o+k*c)(hy:ev env y=some S.val)[ht:eB P tx e c][q:eT L rm enc c xs i][hS:Hd w0 L S enc c ys](hc:0<c)(hn:rm.nil=false)(hl:ys.length≤D.len)(iQ:k+ys.length≤xs.length)
  {L':List aj} [hu:eK L i (own enc c rm (xs.take k++(ys++xs.drop (k+ys.length)))) L'] (hk:K (.int .i64 ys.length) L'):
  gn P N w0 env L ⟨d, .call {callee:= .builtin .copy,args:= #[x,y],argTypes:= #[tx,fg]},ty,ps,af,gd⟩ K:=by
 by_cases h0:ys=[]
 ·
  subst h0
  have e1:xs.take k++([]++xs.drop (k+([]:List α).length))=xs:=by simp
  have e2:L'=L:=by
   rw[←hu.h,e1]
   exact N4 q.h
  exact N5 (c:=c) (enc:=enc) hx hy (by rw[e2]at hk;exact hk)
 ·
  exact Hl hx lV lW m0 oO hy hc hn (List.length_pos_iff.2 h0) hl iQ hk
end
end Go.aL
namespace Go.Kb
open Go.aL
def dK(c:Cp):Prop:=c.blocks.xs.length≤1000000∧c.bc.xs.length≤1000000∧ ∀b∈c.blocks.xs,CI (aE b.ag.xs)
theorem vn{α:Type}{l:List α}{i:Nat}{z:α}(h:l[i]? =some z):l.set i z=l:=by
 obtain⟨hi,rfl⟩:=List.getElem?_eq_some_iff.1 h
 exact List.set_getElem_self hi
theorem tP(l:List Bk)(i:Nat)(b:Bk):fm (l.set i b)=(fm l).set i (bv b):=by simp[fm,List.map_set]
theorem N9{zs:List Bk}{i:Nat}{z z':Bk}(h:zs[i]? =some z):((zs.take i).map fun b:Bk=>dY b.ag)++[dY z'.ag]=((zs.set i z').take (i+1)).map fun b:Bk=>dY b.ag:=by
 have hi:=(List.getElem?_eq_some_iff.1 h).1
 rw[List.take_add_one,List.getElem?_set_self hi,List.take_set_of_le (Nat.le_refl _),List.map_append]
 rfl
theorem Oa{c:CV}(h: ∀f∈c.bc,f.op≠c.ops):bR c=(vg,false):=by
 have:c.bc.find? (fun f=>decide (f.op=c.ops))=none:=List.find?_eq_none.2 fun f hf=>by simpa using h f hf
 rw[bR,this]
theorem Ob{c:CV}{i:Nat}{f:Ft}(hf:c.bc[i]? =some f)(h: ∀j g,j<i→c.bc[j]? =some g→g.op≠c.ops)(he:f.op=c.ops):bR c=(f,f.cut||f.fail):=by
 have:c.bc.find? (fun f=>decide (f.op=c.ops))=some f:=by
  rw[List.find?_eq_some_iff_getElem]
  obtain⟨hi,rfl⟩:=List.getElem?_eq_some_iff.1 hf
  exact⟨by simpa using he,i,hi,rfl,fun j hj=>by
   simpa using h j (c.bc[j]'(by omega)) hj (List.getElem?_eq_getElem (by omega))⟩
 rw[bR,this]
theorem Hq: ∀l:List (List UInt8),(∀x∈l,x.length≤256)→(l.map List.length).sum≤l.length*256
 |[],_=>by simp
 |x::l,hl=>by
  have h1:=Hq l fun y hy=>hl y (List.mem_cons_of_mem _ hy)
  have h2:=hl x List.mem_cons_self
  simp only[List.map_cons,List.sum_cons,List.length_cons]
  omega
theorem pT{c:Cp}(h:bg (cv c)=true):dK c:=by
 obtain⟨h1,h2,h3,h4,h5⟩:=dE.1 h
 obtain⟨s1,s2,s3,s4,s5,s6⟩:=ik.1 h1
 simp only[cv,dH]at*
 refine⟨by omega,by omega,fun b hb=> ?_⟩
 have g:=eM.1 (h5 (bv b) (List.mem_map_of_mem hb))
 simp only[bv]at g
 have hf:(aE b.ag.xs).flatten.length≤(aE b.ag.xs).length*256:=by
  rw[List.length_flatten]
  exact Hq _ fun x hx=>by have:=g.2.2.2.2.2 x hx;omega
 exact⟨by omega,by omega⟩
theorem CL{rm:Sv}: ∀{o:Nat} {l l':List (List UInt8)},l.map List.length=l'.map List.length→(cZ rm o l).map (fun x=>x.sv)=(cZ rm o l').map (fun x=>x.sv)
 |_,[],[],_=>rfl
 |_,[],_::_,h=>by simp at h
 |_,_::_,[],h=>by simp at h
 |o,p::l,p'::l',h=>by
  simp only[List.map_cons,List.cons.injEq]at h
  have:=CL (rm:=rm) (o:=o+p'.length) h.2
  simp only[cZ,List.map_cons,h.1,this]
theorem Oc{rm:Sv}{l:List (List UInt8)}{i:Nat}{q r:List UInt8}(h:l[i]? =some q)(hr:r.length=q.length):(cZ rm 0 l).map (fun x=>x.sv)=(cZ rm 0 (l.set i r)).map (fun x=>x.sv):=CL (by
 rw[List.map_set,hr,vn]
 rw[List.getElem?_map,h];rfl)
theorem vo: ∀{l:List (List UInt8)} {i j:Nat} {q:List UInt8},l[i]? =some q→j<q.length→l.flatten[(l.take i).flatten.length+j]? =q[j]?
 |y::l,0,j,q,h,hj=>by
  obtain rfl:y=q:=by simpa using h
  simp only[List.take_zero,List.flatten_nil,List.length_nil,Nat.zero_add,List.flatten_cons]
  rw[List.getElem?_append_left hj]
 |y::l,i+1,j,q,h,hj=>by
  have:=vo (l:=l) (i:=i) (j:=j) (q:=q) (by simpa using h) hj
  simp only[List.take_succ_cons,List.flatten_cons,List.length_append]
  rw[Nat.add_assoc,List.getElem?_append_right (by omega),Nat.add_sub_cancel_left,this]
theorem Hr: ∀{l:List (List UInt8)} {i j:Nat} {q:List UInt8} {v:UInt8},l[i]? =some q→j<q.length→l.flatten.set ((l.take i).flatten.length+j) v=(l.set i (q.set j v)).flatten
 |y::l,0,j,q,v,h,hj=>by
  obtain rfl:y=q:=by simpa using h
  simp only[List.take_zero,List.flatten_nil,List.length_nil,Nat.zero_add,List.flatten_cons,List.set_cons_zero]
  rw[List.set_append_left _ _ hj]
 |y::l,i+1,j,q,v,h,hj=>by
  have:=Hr (l:=l) (i:=i) (j:=j) (q:=q) (v:=v) (by simpa using h) hj
  simp only[List.take_succ_cons,List.flatten_cons,List.length_append,List.set_cons_succ]
  rw[Nat.add_assoc,List.set_append_right _ _ (by omega),Nat.add_sub_cancel_left,this]
theorem CM{l:List (List UInt8)}{i:Nat}{r:List UInt8}:(l.set i r).take i=l.take i:=List.take_set_of_le (Nat.le_refl _)
theorem vp{rm:Sv}{lo n:Nat}(h:0<n):(eV rm lo (lo+n)).o=rm.o+lo:=by
 simp only[eV];rw[if_neg (by omega)]
theorem zQ{rm:Sv}{lo n:Nat}(hn:rm.nil=false)(hs:rm.sp=none)(hb:n≤1000000):(eV rm lo (lo+n)).Ok:=
 ⟨fun h=>absurd (hn.symm.trans h) (by decide),Nat.le_refl _,by simp only[eV];omega,fun _=>hs⟩
theorem Hs{c:CV}{x:Cp}{B:Bk}{b g:Int}{q:List UInt8}{rm:Sv}{off:Bool}(hx:cv x=c)(hB:bv B=aO c b):
  cv ⟨x.ag,x.size,⟨x.blocks.sv,x.blocks.xs.set b.toNat ⟨⟨B.ag.sv,cZ rm 0 ((aE B.ag.xs).set g.toNat q)⟩,B.used+1,B.bE,B.bad⟩⟩,x.ops+1,off,x.bc⟩={c with ops:=c.ops+1,off:=off,blocks:=c.blocks.set b.toNat {aO c b with used:=(aO c b).used+1,ag:=(aO c b).ag.set g.toNat q}}:=by
 subst hx
 rw[←hB]
 simp only[cv,tP,bv,rW]
theorem Od{m:UInt8}{xs:List UInt8}{i:Nat}{z:UInt8}(h:xs[i]? =some z):(cU m (xs.take i)++xs.drop i).set i (z|||m)=cU m (xs.take (i+1))++xs.drop (i+1):=by
 have hi:=(List.getElem?_eq_some_iff.1 h).1
 have hl:(cU m (xs.take i)).length=i:=by rw[cU,List.length_map,List.length_take];omega
 rw[List.set_append_right _ _ (by omega),hl,Nat.sub_self,List.drop_eq_getElem_cons hi,List.set_cons_zero,List.take_add_one,h,cU,cU,List.map_append,List.append_assoc]
 rfl
theorem Ht{m:UInt8}{xs:List UInt8}{i:Nat}(h:i<xs.length):(cU m (xs.take i)++xs.drop i)[i]? =xs[i]? :=by
 have hl:(cU m (xs.take i)).length=i:=by rw[cU,List.length_map,List.length_take];omega
 rw[List.getElem?_append_right (by omega),hl,Nat.sub_self,List.getElem?_drop,Nat.add_zero]
theorem CN{m:UInt8}{xs:List UInt8}{i:Nat}(h:i≤xs.length):(cU m (xs.take i)++xs.drop i).length=xs.length:=by
 rw[cU,List.length_append,List.length_map,List.length_take,List.length_drop];omega
theorem Hu{T:List (List UInt8)}{g i:Nat}{q xs:List UInt8}{m z:UInt8}(hq:T[g]? =some q)(hz:xs[i]? =some z):(T.set g (cU m (xs.take (i+1))++xs.drop (i+1))).flatten=(T.set g (cU m (xs.take i)++xs.drop i)).flatten.set ((T.take g).flatten.length+i) (z|||m):=by
 have hg:=(List.getElem?_eq_some_iff.1 hq).1
 have hi:=(List.getElem?_eq_some_iff.1 hz).1
 have h1:=Hr (l:=T.set g (cU m (xs.take i)++xs.drop i)) (i:=g) (j:=i) (v:=z|||m) (List.getElem?_set_self hg) (by rw[CN (by omega)];exact hi)
 rw[CM]at h1
 rw[h1,List.set_set,Od hz]
def mixed(f:List UInt8→List UInt8)(T:List (List UInt8))(k:Nat):List (List UInt8):=(T.take k).map f++T.drop k
theorem Hv{f:List UInt8→List UInt8}{T:List (List UInt8)}:mixed f T 0=T:=by simp[mixed]
theorem Hw{f:List UInt8→List UInt8}{T:List (List UInt8)}{k:Nat}(h:T.length≤k):mixed f T k=T.map f:=by
 rw[mixed,List.take_of_length_le h,List.drop_eq_nil_of_le h,List.append_nil]
theorem xt{f:List UInt8→List UInt8}{T:List (List UInt8)}{k:Nat}{q:List UInt8}(h:T[k]? =some q):(mixed f T k)[k]? =some q:=by
 have hk:=(List.getElem?_eq_some_iff.1 h).1
 have hl:((T.take k).map f).length=k:=by rw[List.length_map,List.length_take];omega
 rw[mixed,List.getElem?_append_right (by omega),hl,Nat.sub_self,List.getElem?_drop,Nat.add_zero,h]
theorem CO{f:List UInt8→List UInt8}{T:List (List UInt8)}{k:Nat}{q:List UInt8}(h:T[k]? =some q):(mixed f T k).set k (f q)=mixed f T (k+1):=by
 have hk:=(List.getElem?_eq_some_iff.1 h).1
 have hl:((T.take k).map f).length=k:=by rw[List.length_map,List.length_take];omega
 obtain⟨_,rfl⟩:=List.getElem?_eq_some_iff.1 h
 rw[mixed,List.set_append_right _ _ (by omega),hl,Nat.sub_self,List.drop_eq_getElem_cons hk,List.set_cons_zero,mixed,List.take_add_one,List.getElem?_eq_getElem hk,List.map_append,List.append_assoc]
 rfl
theorem zR{f:List UInt8→List UInt8}{T:List (List UInt8)}{k:Nat}(hf: ∀x∈T,(f x).length=x.length)(hk:k≤T.length):((mixed f T k).take k).flatten.length=(T.take k).flatten.length:=by
 have hl:((T.take k).map f).length=k:=by rw[List.length_map,List.length_take];omega
 rw[mixed,List.take_append_of_le_length (by omega),List.take_of_length_le (by omega),List.length_flatten,List.length_flatten,List.map_map]
 congr 1
 exact List.map_congr_left fun x hx=>hf x (List.mem_of_mem_take hx)
theorem Oe{f:List UInt8→List UInt8}{T:List (List UInt8)}{k n:Nat}{q:List UInt8}(hq:T[k]? =some q)(hf: ∀x∈T,(f x).length=x.length)(he:f q=List.replicate n 255)(hn:n=q.length):(mixed f T (k+1)).flatten=(mixed f T k).flatten.take (T.take k).flatten.length++(List.replicate n 255++(mixed f T k).flatten.drop ((T.take k).flatten.length+n)):=by
 have hk:=(List.getElem?_eq_some_iff.1 hq).1
 rw[←CO hq,zN (xt hq) (by rw[he,List.length_replicate,hn]),zR hf (by omega),he,List.length_replicate]
theorem Of{rm:Sv}{f:List UInt8→List UInt8}{T:List (List UInt8)}(hf: ∀x∈T,(f x).length=x.length):(cZ rm 0 T).map (fun x=>x.sv)=(cZ rm 0 (T.map f)).map (fun x=>x.sv):=CL (by
 rw[List.map_map]
 exact(List.map_congr_left fun x hx=>(hf x hx)).symm)
theorem Og{rm:Sv}{lo n:Nat}(hn:rm.nil=false)(hs:rm.sp=none)(h:0<n):(eV rm lo (lo+n)).val= .slice (some ⟨rm.b,rm.o+lo,none⟩) n n:=by
 rw[Sv.gD (s:=eV rm lo (lo+n)) hn,show(eV rm lo (lo+n)).sp=rm.sp from rfl,hs,vp h,show(eV rm lo (lo+n)).len=n from Nat.add_sub_cancel_left ..,show(eV rm lo (lo+n)).cap=n from Nat.add_sub_cancel_left ..]
 rfl
theorem rZ{c:Cp}{b:Int}:bv (c.blocks.xs.getD b.toNat k6)=aO (cv c) b:=by
 simp only[aO,cv,fm,List.getD_eq_getElem?_getD,List.getElem?_map]
 cases c.blocks.xs[b.toNat]? <;>rfl
theorem CP{c:Cp}{b:Int}(h:ko (cv c) b=true):0≤b∧b.toNat<c.blocks.xs.length:=by
 obtain⟨_,h2,h3⟩:=lX.1 h
 simp only[cv,dH]at h3
 exact⟨h2,by omega⟩
theorem Hx{c:CV}{x:Cp}{B:Bk}{b u:Int}{l:List (List UInt8)}{rm:Sv}{off:Bool}(hx:cv x=c)(hB:bv B=aO c b):
  cv ⟨x.ag,x.size,⟨x.blocks.sv,x.blocks.xs.set b.toNat ⟨⟨B.ag.sv,cZ rm 0 l⟩,u,B.bE+1,B.bad⟩⟩,x.ops+1,off,x.bc⟩={c with ops:=c.ops+1,off:=off,blocks:=c.blocks.set b.toNat {aO c b with used:=u,bE:=(aO c b).bE+1,ag:=l}}:=by
 subst hx
 rw[←hB]
 simp only[cv,tP,bv,rW]
theorem Oh{xs:List Bk}{i:Nat}{B B':Bk}(h:xs[i]? =some B)(hp:B'.ag=B.ag):((xs.set i B').map fun b:Bk=>dY b.ag)=xs.map fun b:Bk=>dY b.ag:=by
 rw[List.map_set,hp]
 refine vn ?_
 rw[List.getElem?_map,h];rfl
theorem Oi{c:CV}{x:Cp}{B:Bk}{b:Int}(hx:cv x=c)(hB:bv B=aO c b):
  cv ⟨x.ag,x.size,⟨x.blocks.sv,x.blocks.xs.set b.toNat ⟨B.ag,B.used,B.bE,true⟩⟩,x.ops,x.off,x.bc⟩={c with blocks:=c.blocks.set b.toNat {aO c b with bad:=true}}:=by
 subst hx
 rw[←hB]
 simp only[cv,tP,bv]
theorem CQ{w0 w:World}{L:List aj}{s:Sv}{xs:List (Sl UInt8)}(h:Mem w0 (own (bP (τ:=UInt8)) 1 s xs::aj.all (xs.map fun p:Sl UInt8=>fz p)::L) w):Mem w0 (fz (⟨s,xs⟩:Sl (Sl UInt8))::L) w:=by
 have hs:=h.sat (own (bP (τ:=UInt8)) 1 s xs) (by simp)
 have ha:=h.sat (aj.all (xs.map fun p:Sl UInt8=>fz p)) (by simp)
 refine Mem.freeze (es:=[own (bP (τ:=UInt8)) 1 s xs,aj.all (xs.map fun p:Sl UInt8=>fz p)]) _ ⟨hs.1,fun x hx=>aj.wT ha (fz x) (List.mem_map_of_mem hx)⟩ (fun k hk=> ?_) h
 rcases hk with⟨cR,rfl⟩|⟨x,hx,hk⟩
 ·
  exact⟨_,by simp,xo hs.1 cR⟩
 ·
  exact⟨aj.all (xs.map fun p:Sl UInt8=>fz p),by simp,aj.zH (List.mem_map_of_mem (f:=fun p:Sl UInt8=>fz p) hx) hk⟩
theorem Hy{w0 w:World}{L:List aj}{s:Sv}{xs:List Bk}(h:Mem w0 (own bN 4 s xs::aj.all (xs.map fun b:Bk=>fz b.ag)::L) w):Mem w0 (fz (⟨s,xs⟩:Sl Bk)::L) w:=by
 have hs:=h.sat (own bN 4 s xs) (by simp)
 have ha:=h.sat (aj.all (xs.map fun b:Bk=>fz b.ag)) (by simp)
 refine Mem.freeze (es:=[own bN 4 s xs,aj.all (xs.map fun b:Bk=>fz b.ag)]) _ ⟨hs.1,fun x hx=>aj.wT ha (fz x.ag) (List.mem_map_of_mem (f:=fun b:Bk=>fz b.ag) hx)⟩ (fun k hk=> ?_) h
 rcases hk with⟨cR,rfl⟩|⟨x,hx,hk⟩
 ·
  exact⟨_,by simp,xo hs.1 cR⟩
 ·
  exact⟨aj.all (xs.map fun b:Bk=>fz b.ag),by simp,aj.zH (List.mem_map_of_mem (f:=fun b:Bk=>fz b.ag) hx) hk⟩
theorem Hz{w0 w:World}{L:List aj}{s:Sv}(hs:s.Ok)(hl:s.len=0)(h:Mem w0 L w):Mem w0 (fz (⟨s,[]⟩:Sl Ft)::L) w:=
 Mem.freeze (es:=[]) _ ⟨⟨hs,hl,fun i x hx=>by cases hx⟩,fun x hx=>by cases hx⟩ (fun k hk=>by
  rcases hk with⟨cR,_⟩|⟨x,hx,_⟩
  ·
   exact absurd rfl cR
  ·
   cases hx) h
theorem HA{w0 w:World}{L:List aj}{d:Cp}(hf:d.bc=⟨Sv.none,[]⟩)(h:Mem w0 (own bN 4 d.blocks.sv d.blocks.xs::aj.all (d.blocks.xs.map fun b:Bk=>fz b.ag)::L) w):Mem w0 (fz d::L) w:=by
 have h1:=Hz (s:=Sv.none) Sv.uV rfl (Hy h)
 rw[←hf]at h1
 exact zJ (h1.perm (List.Perm.swap _ _ _))
theorem HB{zs:List Bk}{i:Nat}{z z':Bk}(h:zs[i]? =some z):((zs.take i).map fun b:Bk=>fz b.ag)++[fz z'.ag]=((zs.set i z').take (i+1)).map fun b:Bk=>fz b.ag:=by
 have hi:=(List.getElem?_eq_some_iff.1 h).1
 rw[List.take_add_one,List.getElem?_set_self hi,List.take_set_of_le (Nat.le_refl _),List.map_append]
 rfl
theorem CR{zs:List (Sl UInt8)}{i:Nat}{z z':Sl UInt8}(h:zs[i]? =some z):((zs.take i).map fun b:Sl UInt8=>fz b)++[fz z']=((zs.set i z').take (i+1)).map fun b:Sl UInt8=>fz b:=by
 have hi:=(List.getElem?_eq_some_iff.1 h).1
 rw[List.take_add_one,List.getElem?_set_self hi,List.take_set_of_le (Nat.le_refl _),List.map_append]
 rfl
theorem zS{α β:Type}{f:α→β}{zs:List α}{i:Nat}{z z':α}(h:zs[i]? =some z):((zs.set i z').take (i+1)).map f=(zs.take i).map f++[f z']:=by
 have hi:=(List.getElem?_eq_some_iff.1 h).1
 rw[List.take_add_one,List.getElem?_set_self hi,List.take_set_of_le (Nat.le_refl _),List.map_append]
 rfl
theorem zT{b n:Nat}(h:n≤1000000):(⟨false,b,0,n,n,none⟩:Sv).Ok:=⟨fun h=>(by cases h),Nat.le_refl _,by simp only;omega,fun _=>rfl⟩
end Go.Kb
namespace Go.aL
theorem HC{P:Program}{N:cy}{w0:World}{env:Env}{L:List aj}{Q:Exit→Act→World→Prop}{c:Code}{X:Type}{pr:X→Prop}(Lx:X→List aj)(h: ∀w,Mem w0 L w→ ∃x,pr x∧Mem w0 (Lx x) w)(hk: ∀x,pr x→Cw P N w0 Q c env (Lx x)):Cw P N w0 Q c env L:=fun a w ha hw=>by
 obtain⟨x,h1,h2⟩:=h w hw
 exact hk x h1 a w ha h2
end Go.aL
namespace Go.Kb
open Go.aL
structure dk where
 kind:Int
 id:Int
 gen:UInt64
 body:Sl UInt8
def bZ(x:dk):Array Value:= #[.int .i64 x.kind, .int .i64 x.id, .int .u64 x.gen.toNat,x.body.sv.val]
instance:bF bZ 4:=⟨fun _=>rfl,fun x=>by
 simp only[bZ,List.all_toArray,List.all_cons,List.all_nil,Sv.one,qK,qL,Bool.and_self]⟩
instance (x:dk):fv (bZ x) 4:=⟨rfl,bF.one x⟩
instance (x:dk):cj (bZ x) 0 (.int .i64 x.kind):=⟨rfl⟩
instance (x:dk):cj (bZ x) 1 (.int .i64 x.id):=⟨rfl⟩
instance (x:dk):cj (bZ x) 2 (.int .u64 x.gen.toNat):=⟨rfl⟩
instance (x:dk):cj (bZ x) 3 (x.body.sv.val):=⟨rfl⟩
instance:Deep dk where
 c:=4
 cells:=bZ
 size:=bF.size
 one:=bF.one
 bk h x:=Deep.bk h x.body
 ck x:=Deep.ck x.body
 jm h x hs:=Deep.jm h x.body hs
 mono w w' x hg hb:=Deep.mono w w' x.body hg hb
instance {w0:World}{L:List aj}{x:dk}[q:aS w0 L x]:aS w0 L x.body:=⟨fun w hw=>(q.h w hw)⟩
instance {w0:World}{L:List aj}{kind:Int}{id:Int}{gen:UInt64}{body:Sl UInt8}[q0:aS w0 L body]:aS w0 L (dk.mk kind id gen body):=⟨fun w hw=>q0.h w hw⟩
def gF:dk:=⟨0,0,0,⟨Sv.none,[]⟩⟩
structure cL where
 gen:UInt64
 at_:Sl Int
def cn(x:cL):Array Value:= #[.int .u64 x.gen.toNat,x.at_.sv.val]
instance:bF cn 2:=⟨fun _=>rfl,fun x=>by
 simp only[cn,List.all_toArray,List.all_cons,List.all_nil,Sv.one,qK,qL,Bool.and_self]⟩
instance (x:cL):fv (cn x) 2:=⟨rfl,bF.one x⟩
instance (x:cL):cj (cn x) 0 (.int .u64 x.gen.toNat):=⟨rfl⟩
instance (x:cL):cj (cn x) 1 (x.at_.sv.val):=⟨rfl⟩
instance:Deep cL where
 c:=2
 cells:=cn
 size:=bF.size
 one:=bF.one
 bk h x:=Deep.bk h x.at_
 ck x:=Deep.ck x.at_
 jm h x hs:=Deep.jm h x.at_ hs
 mono w w' x hg hb:=Deep.mono w w' x.at_ hg hb
instance {w0:World}{L:List aj}{x:cL}[q:aS w0 L x]:aS w0 L x.at_:=⟨fun w hw=>(q.h w hw)⟩
instance {w0:World}{L:List aj}{gen:UInt64}{at_:Sl Int}[q0:aS w0 L at_]:aS w0 L (cL.mk gen at_):=⟨fun w hw=>q0.h w hw⟩
def fo:cL:=⟨0,⟨Sv.none,[]⟩⟩
structure aN where
 live:Int
 used:Int
 bE:Int
 bad:Bool
 deriving DecidableEq
def bC(x:aN):Array Value:= #[.int .i64 x.live, .int .i64 x.used, .int .i64 x.bE, .bool x.bad]
instance:bF bC 4:=⟨fun _=>rfl,fun x=>by
 simp only[bC,List.all_toArray,List.all_cons,List.all_nil,Sv.one,qK,qL,Bool.and_self]⟩
instance (x:aN):fv (bC x) 4:=⟨rfl,bF.one x⟩
instance (x:aN):cj (bC x) 0 (.int .i64 x.live):=⟨rfl⟩
instance (x:aN):cj (bC x) 1 (.int .i64 x.used):=⟨rfl⟩
instance (x:aN):cj (bC x) 2 (.int .i64 x.bE):=⟨rfl⟩
instance (x:aN):cj (bC x) 3 (.bool x.bad):=⟨rfl⟩
def hG:aN:=⟨0,0,0,false⟩
structure bI where
 ai:Cp
 at_:Sl Int
 gen:UInt64
 last:Int
def bo(x:bI):Array Value:= #[.int .i64 x.ai.ag, .int .i64 x.ai.size,x.ai.blocks.sv.val, .int .i64 x.ai.ops, .bool x.ai.off,x.ai.bc.sv.val,x.at_.sv.val, .int .u64 x.gen.toNat, .int .i64 x.last]
instance:bF bo 9:=⟨fun _=>rfl,fun x=>by
 simp only[bo,List.all_toArray,List.all_cons,List.all_nil,Sv.one,qK,qL,Bool.and_self]⟩
instance (x:bI):fv (bo x) 9:=⟨rfl,bF.one x⟩
instance (x:bI):cj (bo x) 0 (.int .i64 x.ai.ag):=⟨rfl⟩
instance (x:bI):cj (bo x) 1 (.int .i64 x.ai.size):=⟨rfl⟩
instance (x:bI):cj (bo x) 2 (x.ai.blocks.sv.val):=⟨rfl⟩
instance (x:bI):cj (bo x) 4 (.bool x.ai.off):=⟨rfl⟩
instance (x:bI):cj (bo x) 6 (x.at_.sv.val):=⟨rfl⟩
instance (x:bI):cj (bo x) 7 (.int .u64 x.gen.toNat):=⟨rfl⟩
instance (x:bI):cj (bo x) 8 (.int .i64 x.last):=⟨rfl⟩
instance (x:bI):mU (bo x) 0 6 (aB x.ai):=⟨rfl,fun j hj=>by
 match j,hj with
 |0,_=>rfl
 |1,_=>rfl
 |2,_=>rfl
 |3,_=>rfl
 |4,_=>rfl
 |5,_=>rfl⟩
instance:Deep bI where
 c:=9
 cells:=bo
 size:=bF.size
 one:=bF.one
 bk h x:=Deep.bk h x.ai∧Deep.bk h x.at_
 ck x:= .two (Deep.ck x.ai) (Deep.ck x.at_)
 jm h x hs:=⟨Deep.jm h x.ai hs.1,Deep.jm h x.at_ hs.2.1⟩
 mono w w' x hg hb:=⟨Deep.mono w w' x.ai hg.1 hb,Deep.mono w w' x.at_ hg.2 hb⟩
instance:eU bI where
 reach x k:=eU.reach x.ai k∨eU.reach x.at_ k
 congr h h' x e hg:=⟨eU.congr h h' x.ai (fun k hk=>e k (.inl hk)) hg.1,eU.congr h h' x.at_ (fun k hk=>e k (.inr hk)) hg.2⟩
instance {w0:World}{L:List aj}{x:bI}[q:aS w0 L x]:aS w0 L x.ai:=⟨fun w hw=>(q.h w hw).1⟩
instance {w0:World}{L:List aj}{x:bI}[q:aS w0 L x]:aS w0 L x.at_:=⟨fun w hw=>(q.h w hw).2⟩
instance {w0:World}{L:List aj}{ai:Cp}{at_:Sl Int}{gen:UInt64}{last:Int}[q0:aS w0 L ai][q1:aS w0 L at_]:aS w0 L (bI.mk ai at_ gen last):=⟨fun w hw=>⟨q0.h w hw,q1.h w hw⟩⟩
def fq:bI:=⟨ep,⟨Sv.none,[]⟩,0,0⟩
structure aV where
 aF:bI
 beyond:Bool
def aR(x:aV):Array Value:= #[.int .i64 x.aF.ai.ag, .int .i64 x.aF.ai.size,x.aF.ai.blocks.sv.val, .int .i64 x.aF.ai.ops, .bool x.aF.ai.off,x.aF.ai.bc.sv.val,x.aF.at_.sv.val, .int .u64 x.aF.gen.toNat, .int .i64 x.aF.last, .bool x.beyond]
instance (x:aV):cj (aR x) 0 (.int .i64 x.aF.ai.ag):=⟨rfl⟩
instance (x:aV):cj (aR x) 1 (.int .i64 x.aF.ai.size):=⟨rfl⟩
instance (x:aV):cj (aR x) 2 (x.aF.ai.blocks.sv.val):=⟨rfl⟩
instance (x:aV):cj (aR x) 6 (x.aF.at_.sv.val):=⟨rfl⟩
instance (x:aV):cj (aR x) 7 (.int .u64 x.aF.gen.toNat):=⟨rfl⟩
instance (x:aV):cj (aR x) 8 (.int .i64 x.aF.last):=⟨rfl⟩
instance (x:aV):cj (aR x) 9 (.bool x.beyond):=⟨rfl⟩
instance (x:aV):mU (aR x) 0 9 (bo x.aF):=⟨rfl,fun j hj=>by
 match j,hj with
 |0,_=>rfl
 |1,_=>rfl
 |2,_=>rfl
 |3,_=>rfl
 |4,_=>rfl
 |5,_=>rfl
 |6,_=>rfl
 |7,_=>rfl
 |8,_=>rfl⟩
instance (x:aV):mU (aR x) 0 6 (aB x.aF.ai):=⟨rfl,fun j hj=>by
 match j,hj with
 |0,_=>rfl
 |1,_=>rfl
 |2,_=>rfl
 |3,_=>rfl
 |4,_=>rfl
 |5,_=>rfl⟩
structure gG where
 w:aN
 ag:Int
 deriving DecidableEq
def c6(x:gG):Array Value:= #[.int .i64 x.w.live, .int .i64 x.w.used, .int .i64 x.w.bE, .bool x.w.bad, .int .i64 x.ag]
instance:bF c6 5:=⟨fun _=>rfl,fun x=>by
 simp only[c6,List.all_toArray,List.all_cons,List.all_nil,Sv.one,qK,qL,Bool.and_self]⟩
instance (x:gG):fv (c6 x) 5:=⟨rfl,bF.one x⟩
instance (x:gG):cj (c6 x) 0 (.int .i64 x.w.live):=⟨rfl⟩
instance (x:gG):cj (c6 x) 1 (.int .i64 x.w.used):=⟨rfl⟩
instance (x:gG):cj (c6 x) 2 (.int .i64 x.w.bE):=⟨rfl⟩
instance (x:gG):cj (c6 x) 3 (.bool x.w.bad):=⟨rfl⟩
instance (x:gG):cj (c6 x) 4 (.int .i64 x.ag):=⟨rfl⟩
def Oj:gG:=⟨hG,0⟩
end Go.Kb
namespace Go.aL
open Go.Kb
section
variable {P:Program} {N:cy} {w0:World} {env:Env} {L:List aj} {d:Option Tmp} {ty:TypeId} {ps:String} {af:Array Edge} {gd:Option (Nat×Bool)}
theorem Ol{p:Nat}(h:p<2^32):4294967295^^^p=4294967295 -p:=by
 have e:(BitVec.allOnes 32^^^BitVec.ofNat 32 p).toNat=(~~~(BitVec.ofNat 32 p)).toNat:=by rw[BitVec.allOnes_xor]
 rw[BitVec.toNat_xor,BitVec.toNat_not,BitVec.toNat_allOnes,BitVec.toNat_ofNat,Nat.mod_eq_of_lt h]at e
 simpa using e
theorem HD{x:Operand}{a:Int}{p:Nat}{t:TypeId}(hx:ev env x=some (.int .u32 a))(ea:a=(p:Int))(hp:p<2^32):
  Ry P N w0 env L ⟨d, .unOp .xor t x,ty,ps,af,gd⟩ (.int .u32 ((4294967295 -p:Nat):Int)):=fun a w ha _=>by
 subst ea
 have h1:(Op.intBits .xor .u32 4294967295 (p:Int)).run P w= .ok (.int .u32 ((4294967295 -p:Nat):Int)) w:=by
  have e2:(BitVec.ofInt 32 4294967295^^^BitVec.ofInt 32 (p:Int)).toNat=4294967295 -p:=by
   rw[uQ,BitVec.toNat_xor,BitVec.toNat_ofNat,Nat.mod_eq_of_lt hp,←Ol hp];rfl
  show Sem.run P (pure (Value.int .u32 (IntKind.u32.wrap ((BitVec.ofInt 32 4294967295^^^BitVec.ofInt 32 (p:Int)).toNat:Int)))) w=_
  rw[e2,mv (k:= .u32) (by show 4294967295 -p<4294967296;omega)];rfl
 have h2:Op.unary .xor (.int .u32 (p:Int))=Op.intBits .xor .u32 4294967295 (p:Int):=rfl
 simp only[execOp,ha.ev hx,h2,Sem.run_bind,h1,Sem.run_pure,Result.andThen]
theorem Om{x y:Operand}{p:Nat}{a:Int}{k':IntKind}{t u:TypeId}(hx:ev env x=some (.int .u64 a))(hy:ev env y=some (.int k' 8))(ea:a=(p:Int))(hp:p*256<2^64):
  Ry P N w0 env L ⟨d, .binOp .shl t x y u,ty,ps,af,gd⟩ (.int .u64 ((p*256:Nat):Int)):=by
 subst ea
 have h:=FJ (P:=P) (N:=N) (w0:=w0) (L:=L) (d:=d) (ty:=ty) (ps:=ps) (af:=af) (gd:=gd) (t:=t) (u:=u) hx hy (by decide)
 have e:IntKind.u64.wrap ((p:Int)*2^min (Int.toNat 8) IntKind.u64.bits)=((p*256:Nat):Int):=by
  have e1:(p:Int)*2^min (Int.toNat 8) IntKind.u64.bits=((p*256:Nat):Int):=by
   rw[show(2:Int)^min (Int.toNat 8) IntKind.u64.bits=256 from by decide];omega
  rw[e1];exact mv hp
 rw[e]at h;exact h
theorem On{n many i:Nat}(h:i<many):(List.replicate (many -i) (0:UInt8)++be n i).set (many -1 -i) (b8 (n/256^i))=List.replicate (many -(i+1)) 0++be n (i+1):=by
 rw[List.set_append_left _ _ (by simp;omega)]
 have e:List.replicate (many -i) (0:UInt8)=List.replicate (many -(i+1)) 0++[0]:=by
  rw[show many -i=many -(i+1)+1 by omega,List.replicate_succ',]
 rw[e,List.set_append_right _ _ (by simp;omega)]
 simp only[List.length_replicate,show many -1 -i -(many -(i+1))=0 by omega,List.set_cons_zero,List.append_assoc]
 rfl
end
end Go.aL
namespace Go.Kb
open Go.aL
def dt(n:Int):UInt8:=b8 (n%256).toNat
theorem vq(n:Int):IntKind.u8.wrap n=((dt n).toNat:Int):=by
 unfold dt
 rw[rK];simp[IntKind.wrap,IntKind.bits,IntKind.signed];omega
def gH(r:Rt):List UInt8:=
 [if r.p.bits=128 then 1 else 0,dt r.p.len]++(List.range 16).map (fun i=>b8 (ca r.p.key i))++[b8 (r.eA.toNat/256),b8 r.eA.toNat]
theorem pU(r:Rt):(gH r).length=20:=by simp[gH]
theorem Oo(r:Rt):(gH r)[0]? =some (if r.p.bits=128 then 1 else 0):=by simp[gH]
theorem Oq(r:Rt):(gH r)[1]? =some (dt r.p.len):=by simp[gH]
theorem Ot(r:Rt)(i:Nat)(h:i<16):(gH r)[2+i]? =some (b8 (ca r.p.key i)):=by
 unfold gH
 rw[List.append_assoc,List.getElem?_append_right (by simp),List.getElem?_append_left (by simp;omega)]
 simp[h]
theorem Ou(r:Rt):(gH r)[18]? =some (b8 (r.eA.toNat/256)):=by simp[gH]
theorem Ov(r:Rt):(gH r)[19]? =some (b8 r.eA.toNat):=by simp[gH]
theorem HE(r:Rt){vr:Array Value}(h0:vr.size=20)(hz:vr[0]? =some (.int .u8 (if r.p.bits=128 then 1 else 0:Nat))):
  (((cI (vr.setIfInBounds 1 (.int .u8 (dt r.p.len).toNat)) 2 (cc r.p.key)).setIfInBounds 18 (.int .u8 (b8 (r.eA.toNat/256)).toNat)).setIfInBounds 19 (.int .u8 (b8 r.eA.toNat).toNat))=(aQ aJ (gH r)).toArray:=by
 have hs:(cI (vr.setIfInBounds 1 (.int .u8 (dt r.p.len).toNat)) 2 (cc r.p.key)).size=20:=by rw[lM (by simp[fX,h0])];simpa using h0
 refine Array.ext_getElem? fun j=> ?_
 have hf: ∀b,(gH r)[j]? =some b→(aQ aJ (gH r)).toArray[j]? =some (.int .u8 b.toNat):=fun b hb=>by
  have:=lN (enc:=aJ) (gH r) j b hb 0 (by decide)
  simp only[Nat.mul_one,Nat.add_zero]at this
  simpa[aJ]using this
 have hk:2+(cc r.p.key).size≤(vr.setIfInBounds 1 (.int .u8 (dt r.p.len).toNat)).size:=by simp[fX,h0]
 rw[Array.getElem?_setIfInBounds,Array.getElem?_setIfInBounds]
 by_cases HF:19=j
 ·
  subst HF;rw[hf _ (Ov r)];simp[hs]
 by_cases xu:18=j
 ·
  subst xu;rw[hf _ (Ou r)];simp[hs]
 rw[if_neg HF,if_neg xu,tr hk,fX]
 by_cases h2:2≤j∧j<2+16
 ·
  rw[if_pos h2,jn _ _ (by omega)]
  have:=Ot r (j -2) (by omega)
  rw[show 2+(j -2)=j by omega]at this
  rw[hf _ this,rK]
  have:=kE r.p.key (j -2)
  rw[Nat.mod_eq_of_lt this]
 rw[if_neg h2,Array.getElem?_setIfInBounds]
 by_cases h1:1=j
 ·
  subst h1;rw[hf _ (Oq r)];simp[h0]
 rw[if_neg h1]
 by_cases hj:j=0
 ·
  subst hj
  rw[hz,hf _ (Oo r)]
  split<;>rfl
 ·
  have e1:vr[j]? =none:=by simp;omega
  rw[e1]
  have:(aQ aJ (gH r)).length=20:=by rw[gl,pU]
  simp;omega
open Go.aL
structure PV where
 kind:Int
 id:Int
 gen:Nat
 body:List UInt8
 deriving DecidableEq
def gq:PV:=⟨0,0,0,[]⟩
def cA(p:dk):PV:=⟨p.kind,p.id,p.gen.toNat,p.body.xs⟩
def jq(n:Int):Bool:=decide (24≤n)&&decide (n≤256)
theorem oU{n:Int}:jq n=true↔24≤n∧n≤256:=by simp only[jq,Bool.and_eq_true,decide_eq_true_eq]
def du(n:Int):Int:=if jq n=true then n -16 else 0
def tT(p:PV)(n:Int):Bool:=jq n&&(decide (p.kind=1)||decide (p.kind=2))&&decide (0≤p.id)&&decide (p.id<64)&&decide (p.gen<281474976710656)&&decide ((p.body.length:Int)≤du n)
theorem zU{p:PV}{n:Int}:tT p n=true↔jq n=true∧(p.kind=1∨p.kind=2)∧0≤p.id∧p.id<64∧p.gen<281474976710656∧(p.body.length:Int)≤du n:=by
 simp only[tT,Bool.and_eq_true,Bool.or_eq_true,decide_eq_true_eq,and_assoc]
def eW(b:List UInt8):Bool:=b.all fun x=>decide (x=255)
theorem zV{b:List UInt8}:eW b=true↔ ∀x∈b,x=255:=by simp only[eW,List.all_eq_true,decide_eq_true_eq]
def l0(p:PV)(n:Nat):List UInt8:=[dt p.kind,dt p.id]++be p.gen 6++be p.body.length 2++p.body++List.replicate (n -4 -10 -p.body.length) 0
def dZ(p:PV)(n:Int):List UInt8×Int:=if tT p n=true then(l0 p n.toNat++be (gp (l0 p n.toNat)) 4,0)else([],1)
def r8(b:List UInt8):PV:=⟨(b.getD 0 0).toNat,(b.getD 1 0).toNat,de ((b.drop 2).take (8 -2)),[]⟩
def dm(b:List UInt8):Nat:=de ((b.drop 8).take (10 -8))
def hH(b:List UInt8):List UInt8:=(b.drop 0).take (b.length -4 -0)
def pV(b:List UInt8):List UInt8:=(b.drop (b.length -4)).take (b.length -(b.length -4))
def j6(b:List UInt8):List UInt8:=((hH b).drop (10+dm b)).take ((hH b).length -(10+dm b))
def oV(b:List UInt8):Bool:=b.all fun x=>decide (x=0)
theorem CS{b:List UInt8}:oV b=true↔ ∀x∈b,x=0:=by simp only[oV,List.all_eq_true,decide_eq_true_eq]
def iX(b:List UInt8):Bool:=decide ((dm b:Int)≤du b.length)&&tT (r8 b) b.length
def bm(b:List UInt8):PV×Int:=
 if jq b.length=false then(gq,3)
 else if eW b=true then(gq,0)
 else if de (pV b)≠gp (hH b)then(gq,4)
 else if iX b=false then(gq,2)
 else if oV (j6 b)=false then(gq,2)
 else({r8 b with body:=(b.drop 10).take (10+dm b -10)},0)
theorem CT(b:List UInt8):dm b<65536:=by
 have h:=CF ((b.drop 8).take (10 -8))
 have h2:((b.drop 8).take (10 -8)).length≤2:=by rw[List.length_take];omega
 have h3:=Nat.pow_le_pow_right (show 0<256 by decide) h2
 rw[dm];omega
theorem zW(b:List UInt8):de ((b.drop 2).take (8 -2))<281474976710656:=by
 have h:=CF ((b.drop 2).take (8 -2))
 have h2:((b.drop 2).take (8 -2)).length≤6:=by rw[List.length_take];omega
 have h3:=Nat.pow_le_pow_right (show 0<256 by decide) h2
 omega
def qP(b:List UInt8):dk:=⟨(b.getD 0 0).toNat,(b.getD 1 0).toNat,UInt64.ofNat (de ((b.drop 2).take (8 -2))),⟨Sv.none,[]⟩⟩
theorem CU(b:List UInt8):(UInt64.ofNat (de ((b.drop 2).take (8 -2)))).toNat=de ((b.drop 2).take (8 -2)):=by
 have:=zW b
 rw[UInt64.toNat_ofNat'];omega
theorem CW(b:List UInt8)(s:Sv)(l:List UInt8):cA {qP b with body:=⟨s,l⟩}={r8 b with body:=l}:=by
 simp only[cA,qP,CU];rfl
theorem CX(b:List UInt8):cA (qP b)=r8 b:=CW b Sv.none []
theorem CY(b:List UInt8):(hH b).length=b.length -4:=by rw[hH,List.length_take,List.length_drop];omega
theorem Ow{M:Nat}{k d:UInt8}(h:2≤M):((List.replicate M (0:UInt8)).set 0 k).set 1 d=[k,d]++List.replicate (M -2) 0:=by
 obtain⟨m,rfl⟩: ∃m,M=m+2:=⟨M -2,by omega⟩
 simp[List.replicate_succ]
theorem CZ{A Y:List UInt8}{k N:Nat}(hk:k=A.length):(A++List.replicate N 0).take k++(Y++(A++List.replicate N 0).drop (k+Y.length))=A++Y++List.replicate (N -Y.length) 0:=by
 subst hk
 rw[List.take_left',List.drop_append,List.drop_eq_nil_of_le (by omega),Nat.add_sub_cancel_left,List.drop_replicate,List.nil_append,List.append_assoc]
 rfl
theorem Ox{p:PV}{n:Nat}(h:p.body.length+14≤n):(l0 p n).length=n -4:=by
 simp only[l0,List.length_append,jl,List.length_replicate,List.length_cons,List.length_nil];omega
theorem zX(b:List UInt8):(bm b).1.body.length≤65536:=by
 have h:=CT b
 rw[bm]
 split
 ·
  simp[gq]
 ·
  split
  ·
   simp[gq]
  ·
   split
   ·
    simp[gq]
   ·
    split
    ·
     simp[gq]
    ·
     split
     ·
      simp[gq]
     ·
      simp only[List.length_take];omega
open Go.aL
structure RV where
 gen:Nat
 at_:List Int
 deriving DecidableEq
def eN:RV:=⟨0,[]⟩
def cM(r:cL):RV:=⟨r.gen.toNat,r.at_.xs⟩
def fY(n:Int):Int:=min 64 (du n/2)
def vt(x:Int):Bool:=decide (0≤x)&&decide (x≤65535)
theorem C0{x:Int}:vt x=true↔0≤x∧x≤65535:=by simp only[vt,Bool.and_eq_true,decide_eq_true_eq]
def pW(r:RV)(n:Int):Bool:= !decide (du n=0)&&decide (r.gen<281474976710656)&&decide ((r.at_.length:Int)≤fY n)&&r.at_.all vt
theorem xv{r:RV}{n:Int}:pW r n=true↔du n≠0∧r.gen<281474976710656∧(r.at_.length:Int)≤fY n∧ ∀x∈r.at_,vt x=true:=by
 simp only[pW,Bool.and_eq_true,Bool.not_eq_true',decide_eq_true_eq,decide_eq_false_iff_not,and_assoc,List.all_eq_true,ne_eq]
def jr(b:List UInt8)(i:Nat):Int:=((kD (b.getD (2*i) 0) (b.getD (2*i+1) 0)).toNat:Int)
def kH(b:List UInt8):List Int:=(List.range (b.length/2)).map (jr b)
def m7(p:PV):Bool:=decide (p.kind=2)&&decide (p.body.length%2=0)&&decide (p.id=max 0 ((p.body.length/2:Nat) -1:Int))
def bJ(b:List UInt8):RV×Int:=
 if(bm b).2≠0 then(eN,(bm b).2)
 else if(bm b).1.kind=0 then(eN,6)
 else if m7 (bm b).1=false then(eN,2)
 else(⟨(bm b).1.gen,kH (bm b).1.body⟩,0)
def zY(x:Int):List UInt8:=[dt (x/256),dt x]
def iY(l:List Int):List UInt8:=(l.map zY).flatten
def dn(r:RV)(n:Int):List UInt8×Int:=if pW r n=true then dZ ⟨2,max 0 ((r.at_.length:Int) -1),r.gen,iY r.at_⟩ n else([],1)
theorem HG{b:List UInt8}{i:Nat}(h:i<b.length/2):(kH b).take (i+1)=(kH b).take i++[jr b i]:=by
 rw[List.take_add_one,kH,List.getElem?_map,List.getElem?_range h];rfl
theorem zZ(b:List UInt8):(kH b).length=b.length/2:=by simp[kH]
theorem Oy{l:List Int}{i:Nat}{x:Int}(h:l[i]? =some x):iY (l.take (i+1))=iY (l.take i)++zY x:=by
 simp[iY,List.take_add_one,h]
theorem Oz(l:List Int):(iY l).length=2*l.length:=by
 induction l with
 |nil=>rfl
 |cons x l ih=>
  have:iY (x::l)=zY x++iY l:=by simp[iY]
  rw[this,List.length_append,ih]
  simp only[zY,List.length_cons,List.length_nil];omega
structure NS where
 at_:Int
 new:RV
 found:Bool
 blank:Bool
 deriving DecidableEq
def tU(s:NS)(i:Nat)(b:List UInt8):NS:=
 if(bJ b).2=0∧(s.found=false∨s.new.gen≤(bJ b).1.gen)then⟨i,(bJ b).1,true,s.blank&&eW b⟩else{s with blank:=s.blank&&eW b}
def cY(l:List (List UInt8)):Nat→NS
 |0=>⟨0,eN,false,true⟩
 |k+1=>tU (cY l k) k (l.getD k [])
def c0(l:List (List UInt8)):Int×RV×Int:=
 if(cY l l.length).found=true then((cY l l.length).at_,(cY l l.length).new,0)else if(cY l l.length).blank=true then(0,eN,6)else(0,eN,2)
theorem HH{l:List (List UInt8)}{i:Nat}{b:List UInt8}(hb:l[i]? =some b)(h:(bJ b).2=0∧((cY l i).found=false∨(cY l i).new.gen≤(bJ b).1.gen)):cY l (i+1)=⟨i,(bJ b).1,true,(cY l i).blank&&eW b⟩:=by
 rw[cY,show l.getD i []=b by simp[List.getD,hb],tU,if_pos h]
theorem HI{l:List (List UInt8)}{i:Nat}{b:List UInt8}(hb:l[i]? =some b)(h: ¬((bJ b).2=0∧((cY l i).found=false∨(cY l i).new.gen≤(bJ b).1.gen))):cY l (i+1)={cY l i with blank:=(cY l i).blank&&eW b}:=by
 rw[cY,show l.getD i []=b by simp[List.getD,hb],tU,if_neg h]
open Go.aL
structure VV where
 ai:CV
 at_:List Int
 gen:Nat
 last:Int
 deriving DecidableEq
def OA:CV:=⟨0,0,[],0,false,[]⟩
def gI:VV:=⟨OA,[],0,0⟩
def vv(v:bI):VV:=⟨cv v.ai,v.at_.xs,v.gen.toNat,v.last⟩
def iH(c:CV):Bool:=bg c&&decide (4≤(c.blocks.length:Int))&&decide (2≤c.ag)&&decide (24≤c.size)
theorem vu{c:CV}:iH c=true↔bg c=true∧4≤(c.blocks.length:Int)∧2≤c.ag∧24≤c.size:=by simp only[iH,Bool.and_eq_true,decide_eq_true_eq,and_assoc]
def r9(c:CV)(k:Int):List UInt8:=(aO c (k/c.ag)).ag.getD (k%c.ag).toNat []
def nQ(c:CV)(k:Int):Bool:=decide (2≤k/c.ag)&&decide (k/c.ag<(c.blocks.length:Int))&&decide (k%c.ag<(aO c (k/c.ag)).used)
theorem tV{c:CV}{k:Int}:nQ c k=true↔2≤k/c.ag∧k/c.ag<(c.blocks.length:Int)∧k%c.ag<(aO c (k/c.ag)).used:=by simp only[nQ,Bool.and_eq_true,decide_eq_true_eq,and_assoc]
def HJ(p:PV×Int)(id:Int):Bool:=decide (p.2=0)&&decide (p.1.kind=1)&&decide (p.1.id=id)
def pX(c:CV)(id n:Int):Bool:=nQ c (n -1)&&HJ (bm (r9 c (n -1))) id
theorem OB(c:CV):{vk c c.bc with off:=c.off}=c:=by
 rw[vk];split<;>rfl
open Go.aL
def kI(c:CV)(l:List Int)(i:Nat):Bool:=decide (l.getD i 0=0)||(!(l.take i).contains (l.getD i 0)&&pX c (i:Int) (l.getD i 0))
def mH(c:CV)(l:List Int):Bool:=(List.range l.length).all (kI c l)
theorem vw{c:CV}{l:List Int}:mH c l=true↔ ∀i,i<l.length→kI c l i=true:=by simp only[mH,List.all_eq_true,List.mem_range]
def iZ(l:List Int)(i:Nat):Int→Option Unit:=fun x=>if x≠0∧x∈l.take i then some ()else none
theorem xw{l:List Int}{i:Nat}{x:Int}:(iZ l i x).isSome=decide (x≠0∧x∈l.take i):=by
 unfold iZ;split<;>simp_all
theorem HK{l:List Int}:(fun _=>none)=iZ l 0:=by
 funext x;simp[iZ]
theorem HL{l:List Int}{i:Nat}(h:l[i]? =some 0):iZ l (i+1)=iZ l i:=by
 funext x
 unfold iZ
 rw[List.take_add_one,h]
 by_cases hx:x=0
 ·
  simp[hx]
 ·
  simp[hx]
theorem HM{l:List Int}{i:Nat}{y:Int}(h:l[i]? =some y)(hy:y≠0):(fun z=>if z=y then some ()else iZ l i z)=iZ l (i+1):=by
 funext x
 unfold iZ
 rw[List.take_add_one,h]
 by_cases hx:x=y
 ·
  subst hx;simp[hy]
 ·
  simp[hx]
theorem oW{l:List Int}{i:Nat}{y:Int}(h:l[i]? =some y):l.getD i 0=y:=by simp[List.getD,h]
def et(l:List (Sl (Sl UInt8))):List (Sl UInt8):=(l.map Sl.xs).flatten
theorem z0{l:List (Sl (Sl UInt8))}{i:Nat}{x:Sl (Sl UInt8)}(h:l[i]? =some x):et (l.take (i+1))=et (l.take i)++x.xs:=by
 rw[et,List.take_add_one,h];simp[et]
theorem OC(l:List (Sl (Sl UInt8)))(i:Nat):(et (l.take i)).length≤(et l).length:=by
 have e:et l=et (l.take i)++et (l.drop i):=by
  unfold et
  rw[←List.flatten_append,←List.map_append,List.take_append_drop]
 rw[e,List.length_append];omega
class z1(w0:World)(l:List (Sl UInt8)):Prop where
 h: ∀y∈l,Deep.bk (hp w0) y
instance aS.row{w0:World}{L:List aj}{x:Sv}{l:List (Sl UInt8)}{i:Nat}[q:eT L x (bP (τ:=UInt8)) 1 l i][m:z1 w0 l]:aS w0 L (⟨x,l⟩:Sl (Sl UInt8)):=
 ⟨fun w hw=>⟨(hw.get q.h).1,fun y hy=>Deep.mono w0 w y (m.h y hy) hw.below⟩⟩
open Go.aL
def cG(c:CV):Int×RV×Int:=c0 ((aO c 0).ag++(aO c 1).ag)
def j7(c:CV):Bool:=decide ((cG c).1%c.ag<(aO c ((cG c).1/c.ag)).used)&&mH c (cG c).2.1.at_
def bq(c:CV):VV×Int:=
 if iH c=false then(gI,1)
 else if c.off=true then(gI,7)
 else if(cG c).2.2≠0 then(gI,(cG c).2.2)
 else if j7 c=false then(gI,2)
 else(⟨c,(cG c).2.1.at_,(cG c).2.1.gen,(cG c).1/c.ag⟩,0)
theorem HN(l:List (List UInt8)): ∀k,k≤l.length→(cY l k).at_=0∨(0≤(cY l k).at_∧(cY l k).at_<k)
 |0,_=> .inl rfl
 |k+1,h=>by
  have:=HN l k (by omega)
  rw[cY,tU]
  split
  ·
   exact .inr ⟨by simp only;omega,by simp only;omega⟩
  ·
   simp only;omega
theorem C1{l:List (List UInt8)}(h:0<l.length):0≤(c0 l).1∧(c0 l).1<l.length:=by
 have:=HN l l.length (Nat.le_refl _)
 rw[c0]
 split
 ·
  simp only;omega
 ·
  split<;>(simp only;omega)
theorem OD(b:List UInt8): ∀x∈kH b,0≤x∧x≤65535:=by
 intro x hx
 obtain⟨i,_,rfl⟩:=List.mem_map.1 hx
 have:=(kD (b.getD (2*i) 0) (b.getD (2*i+1) 0)).toNat_lt
 simp only[jr];omega
theorem OE(b:List UInt8): ∀x∈(bJ b).1.at_,0≤x∧x≤65535:=by
 rw[bJ]
 split
 ·
  simp[eN]
 ·
  split
  ·
   simp[eN]
  ·
   split
   ·
    simp[eN]
   ·
    exact OD _
theorem HO(l:List (List UInt8)): ∀k,∀x∈(cY l k).new.at_,0≤x∧x≤65535
 |0=>by simp[cY,eN]
 |k+1=>by
  have:=HO l k
  rw[cY,tU]
  split
  ·
   exact OE _
  ·
   exact this
theorem C2(l:List (List UInt8)): ∀x∈(c0 l).2.1.at_,0≤x∧x≤65535:=by
 rw[c0]
 split
 ·
  exact HO _ _
 ·
  split<;>simp[eN]
theorem C3(a b:Sl (Sl UInt8)):aE (et [a,b])=aE a.xs++aE b.xs:=by simp[aE,et]
theorem xx{c:Cp}{i:Nat}{B:Bk}(h:c.blocks.xs[i]? =some B):aO (cv c) (i:Int)=bv B:=by
 rw[←rZ];simp[List.getD,h]
theorem OF(b:List UInt8):(bJ b).1.at_.length≤65536:=by
 have h:=zX b
 rw[bJ]
 split
 ·
  simp[eN]
 ·
  split
  ·
   simp[eN]
  ·
   split
   ·
    simp[eN]
   ·
    simp only[zZ];omega
theorem HP(l:List (List UInt8)): ∀k,(cY l k).new.at_.length≤65536
 |0=>by simp[cY,eN]
 |k+1=>by
  have:=HP l k
  rw[cY,tU]
  split
  ·
   exact OF _
  ·
   exact this
theorem OG(l:List (List UInt8)):(c0 l).2.1.at_.length≤65536:=by
 rw[c0]
 split
 ·
  exact HP _ _
 ·
  split<;>simp[eN]
theorem C4(c:CV):(bq c).1.at_.length≤65536:=by
 have h:=OG ((aO c 0).ag++(aO c 1).ag)
 rw[bq]
 split
 ·
  simp[gI]
 ·
  split
  ·
   simp[gI]
  ·
   split
   ·
    simp[gI]
   ·
    split
    ·
     simp[gI]
    ·
     exact h
theorem C5{c:CV}(h:(bq c).2=0):iH c=true:=by
 cases hb:iH c with
 |true=>rfl
 |false=>rw[bq,if_pos hb]at h;cases h
def gJ(x:VV):Bool:=decide ((bq {x.ai with off:=false}).2=0)&&decide ((bq {x.ai with off:=false}).1.gen=x.gen)&&decide ((bq {x.ai with off:=false}).1.last=x.last)&&decide ((bq {x.ai with off:=false}).1.at_=x.at_)
theorem OH{w0 w:World}{L:List aj}(h:Mem w0 L w):Mem w0 (fz ep::L) w:=
 zJ (d:=ep) (Mem.freeze (es:=[]) _ ⟨bM.nil _ _ _,fun x hx=>by cases hx⟩ (fun k hk=>by
  rcases hk with⟨cR,_⟩|⟨x,hx,_⟩
  ·
   exact absurd rfl cR
  ·
   cases hx) (Hz (s:=Sv.none) Sv.uV rfl h))
class HQ(a:Cp)(b:outParam Cp):Prop where
 h:a=b
instance aS.XJ{w0:World}{L:List aj}{v:bI}{c:Cp}[e:HQ v.ai c][q1:aS w0 L c][q2:aS w0 L v.at_]:aS w0 L v:=
 ⟨fun w hw=>⟨by rw[e.h];exact q1.h w hw,q2.h w hw⟩⟩
def jI(c:CV)(n:Int):List UInt8:=if(bm (r9 c (n -1))).2=0 then(bm (r9 c (n -1))).1.body else[]
open Go.aL
theorem C6{c:CV}(h:(bq c).2=0):iH c=true∧j7 c=true∧bq c=(⟨c,(cG c).2.1.at_,(cG c).2.1.gen,(cG c).1/c.ag⟩,0):=by
 have hb:=C5 h
 by_cases h1:c.off=true
 ·
  rw[bq,if_neg (by rw[hb];simp),if_pos h1]at h;cases h
 ·
  by_cases h2:(cG c).2.2≠0
  ·
   rw[bq,if_neg (by rw[hb];simp),if_neg h1,if_pos h2]at h;exact absurd h h2
  ·
   cases h3:j7 c with
   |false=>rw[bq,if_neg (by rw[hb];simp),if_neg h1,if_neg h2,if_pos h3]at h;cases h
   |true=>exact⟨hb,rfl,by rw[bq,if_neg (by rw[hb];simp),if_neg h1,if_neg h2,if_neg (by rw[h3];simp)]⟩
theorem vz{x:VV}(h:gJ x=true):bg x.ai=true∧mH x.ai x.at_=true∧ ∀y∈x.at_,0≤y∧y≤65535:=by
 simp only[gJ,Bool.and_eq_true,decide_eq_true_eq]at h
 obtain⟨⟨⟨h1,h2⟩,h3⟩,h4⟩:=h
 obtain⟨hb,hl,hf⟩:=C6 h1
 rw[hf]at h4
 simp only at h4
 simp only[j7,Bool.and_eq_true,decide_eq_true_eq]at hl
 rw[h4]at hl
 refine⟨(vu.1 hb).1,hl.2,?_⟩
 rw[←h4]
 exact C2 _
theorem C7{x:VV}(h:gJ x=true){i:Nat}{y:Int}(hy:x.at_[i]? =some y)(h0:y≠0):1≤y∧y≤1000000∧nQ x.ai (y -1)=true:=by
 obtain⟨h1,h2,h3⟩:=vz h
 have hr:=h3 y (List.mem_of_getElem? hy)
 have hp:=vw.1 h2 i (List.getElem?_eq_some_iff.1 hy).1
 rw[kI,oW hy]at hp
 simp only[Bool.or_eq_true,decide_eq_true_eq,Bool.and_eq_true]at hp
 rcases hp with hp|hp
 ·
  exact absurd hp h0
 ·
  have hn:=hp.2
  rw[pX,Bool.and_eq_true]at hn
  exact⟨by omega,by omega,hn.1⟩
def l4(x:VV)(id:Int):List UInt8×Int:=
 if ¬(gJ x=true∧0≤id∧id<x.at_.length)then([],1)
 else if x.ai.off=true then([],7)
 else if x.at_.getD id.toNat 0=0 then([],6)
 else(jI x.ai (x.at_.getD id.toNat 0),0)
open Go.aL
def sa(l:List Int)(j:Nat):Bool:=decide (l.getD j 0≠0)&& !(l.take j).contains (l.getD j 0)
def pY(ag:Int)(l:List Int)(k i:Nat):Nat:=((List.range k).filter fun j=>sa l j&&decide ((l.getD j 0 -1)/ag=(i:Int)+2)).length
def sd(b:BV)(live:Nat):aN:=⟨live,b.used,b.bE,b.bad⟩
def ja(c:CV)(l:List Int)(k:Nat):List aN:=(List.range (c.blocks.length -2)).map fun i:Nat=>sd (aO c ((i:Int)+2)) (pY c.ag l k i)
def ic(c:CV)(l:List Int):List aN:=ja c l l.length
theorem vA(c:CV)(l:List Int)(k:Nat):(ja c l k).length=c.blocks.length -2:=by simp[ja]
theorem C8(ag:Int)(l:List Int)(k i:Nat):pY ag l (k+1) i=pY ag l k i+(if sa l k&&decide ((l.getD k 0 -1)/ag=(i:Int)+2)then 1 else 0):=by
 rw[pY,List.range_succ,List.filter_append,List.length_append,pY]
 congr 1
 simp only[List.filter_cons,List.filter_nil]
 split<;>rfl
theorem OI{c:CV}{l:List Int}{k:Nat}(h:sa l k=false):ja c l (k+1)=ja c l k:=by
 refine List.map_congr_left fun i _=> ?_
 rw[C8,h];simp
theorem OJ{l:List Int}{i:Nat}{y:Int}(h:l[i]? =some y)(hy:y≠0∧y∈l.take i):iZ l (i+1)=iZ l i:=by
 funext x
 unfold iZ
 rw[List.take_add_one,h]
 by_cases hx:x=y
 ·
  subst hx;simp[hy.1,hy.2]
 ·
  simp[hx]
theorem OK{c:CV}{l:List Int}{k i:Nat}{x:aN}(h:sa l k=true)(hi:(l.getD k 0 -1)/c.ag=(i:Int)+2)(hx:(ja c l k)[i]? =some x):ja c l (k+1)=(ja c l k).set i {x with live:=x.live+1}:=by
 have gm:i<c.blocks.length -2:=by have:=(List.getElem?_eq_some_iff.1 hx).1;rwa [vA]at this
 have m8:x=sd (aO c ((i:Int)+2)) (pY c.ag l k i):=by
  rw[ja,List.getElem?_map,List.getElem?_range gm]at hx
  exact(Option.some.inj hx).symm
 refine List.ext_getElem? fun j=> ?_
 rw[List.getElem?_set]
 by_cases hj:i=j
 ·
  subst hj
  rw[if_pos rfl,if_pos (by rw[vA];exact gm),ja,List.getElem?_map,List.getElem?_range gm,Option.map_some,C8,h,hi,m8]
  simp[sd]
 ·
  rw[if_neg hj,ja,ja,List.getElem?_map,List.getElem?_map]
  rcases Nat.lt_or_ge j (c.blocks.length -2)with iR|iR
  ·
   rw[List.getElem?_range iR,Option.map_some,Option.map_some,C8,h,hi]
   simp only[Bool.true_and]
   rw[decide_eq_false (by omega)];simp
  ·
   rw[List.getElem?_eq_none (by simpa using iR)];rfl
def az(l:List (Sl Int)):List Int:=(l.map Sl.xs).flatten
theorem HR{l:List (Sl Int)}{i:Nat}{x:Sl Int}(h:l[i]? =some x):az (l.take (i+1))=az (l.take i)++x.xs:=by
 rw[az,List.take_add_one,h];simp[az]
theorem OL{l:List (Sl Int)}{i j:Nat}{x:Sl Int}{y:Int}(h:l[i]? =some x)(hy:x.xs[j]? =some y):(az l)[(az (l.take i)).length+j]? =some y:=by
 have hj:=(List.getElem?_eq_some_iff.1 hy).1
 have e:az l=az (l.take (i+1))++az (l.drop (i+1)):=by
  unfold az
  rw[←List.flatten_append,←List.map_append,List.take_append_drop]
 rw[e,HR h,List.getElem?_append_left (by rw[List.length_append];omega),List.getElem?_append_right (by omega),Nat.add_sub_cancel_left,hy]
def oX(c:CV)(l:List Int):Prop:=(bg c=true∧l.length≤1000000)∧2≤c.blocks.length∧ ∀n∈l,n=0∨(1≤n∧n≤1000000∧2≤(n -1)/c.ag∧(n -1)/c.ag<(c.blocks.length:Int))
theorem OM(c:CV)(l:List Int):ja c l 0=(List.range (c.blocks.length -2)).map fun i:Nat=>sd (aO c ((i:Int)+2)) 0:=by
 refine List.map_congr_left fun i _=> ?_
 simp[pY]
theorem HS(ag:Int)(l:List Int)(k i:Nat):pY ag l k i≤k:=by
 rw[pY]
 exact Nat.le_trans (List.length_filter_le _ _) (by simp)
theorem ON{c:CV}{l:List Int}{k i:Nat}{z:aN}(h:(ja c l k)[i]? =some z):0≤z.live∧z.live≤k:=by
 rw[ja,List.getElem?_map,Option.map_eq_some_iff]at h
 obtain⟨j,_,rfl⟩:=h
 have:=HS c.ag l k j
 simp only[sd];omega
open Go.aL
def se(a b:Int):Int:=if a<b then -1 else if b<a then 1 else 0
def pZ(p:Int)(x:aN):Bool:= !x.bad&&decide (x.used<p)
def p0(x:aN):Bool:= !x.bad&&decide (x.live=0)&&decide (0<x.used)
def xz(p:Int)(x:aN):Bool:=if x.bad=true then decide (0<x.live)else decide (x.used=p)&&decide (0<x.live)&&decide (x.live<p)
def C9(a b:aN):Int:=se b.used a.used
def xA(a b:aN):Int:=se a.bE b.bE
def Da(a b:aN):Int:=se a.live b.live
def vB(a b:aN):Int:=if a.bad=b.bad then 0 else if a.bad=true then -1 else 1
def sf(p:Int)(x:aN):Bool:=decide (0≤x.live)&&decide (x.live≤x.used)&&decide (x.used≤p)&&decide (0≤x.bE)&&decide (x.bE≤dJ)
theorem vC{p:Int}{x:aN}:sf p x=true↔0≤x.live∧x.live≤x.used∧x.used≤p∧0≤x.bE∧x.bE≤dJ:=by
 simp only[sf,Bool.and_eq_true,decide_eq_true_eq,and_assoc]
def mI(l:List aN)(p:Int):Bool:=decide (1≤(l.length:Int))&&decide ((l.length:Int)≤32)&&decide (1≤p)&&decide (p≤16)&&l.all (sf p)
theorem xB{l:List aN}{p:Int}:mI l p=true↔1≤(l.length:Int)∧(l.length:Int)≤32∧1≤p∧p≤16∧ ∀x∈l,sf p x=true:=by
 simp only[mI,Bool.and_eq_true,decide_eq_true_eq,and_assoc,List.all_eq_true]
def oY(a b:aN):List (aN→aN→Int)→Bool
 |[]=>false
 |o::r=>if o a b≠0 then decide (o a b<0)else oY a b r
def vD(l:List aN)(dF:aN→Bool)(os:List (aN→aN→Int))(i:Nat)(s:Int×Bool):Int×Bool:=
 if dF (l.getD i hG)=true∧(s.2=false∨oY (l.getD i hG) (l.getD s.1.toNat hG) os=true)then((i:Int),true)else s
def gu(l:List aN)(dF:aN→Bool)(os:List (aN→aN→Int)):Nat→Int×Bool
 |0=>(0,false)
 |k+1=>vD l dF os k (gu l dF os k)
def fL(l:List aN)(p:Int)(dF:aN→Bool)(os:List (aN→aN→Int)):Int×Bool:=
 if mI l p=true then gu l dF os l.length else(0,false)
def fb(l:List aN)(p:Int):Int×Bool:=fL l p (pZ p) [C9,xA]
def fx(l:List aN)(p:Int):Int×Bool:=fL l p p0 [xA]
def qQ(l:List aN)(p:Int):Int×Bool:=fL l p (xz p) [vB,Da,xA]
def lb(p:Int)(x:aN):Int:=if p0 x=true then p else if pZ p x=true then p -x.used else 0
def ld:List Int→Int
 |[]=>0
 |x::r=>x+ld r
def xC(l:List aN)(p:Int):Int:=if mI l p=true then ld (l.map (lb p))else 0
theorem OO(a b:List Int):ld (a++b)=ld a+ld b:=by
 induction a with
 |nil=>simp[ld]
 |cons x r ih=>simp only[List.cons_append,ld,ih];omega
theorem Db(l:List aN)(dF:aN→Bool)(os:List (aN→aN→Int)): ∀k,0≤(gu l dF os k).1∧(gu l dF os k).1≤k∧((gu l dF os k).2=true→(gu l dF os k).1<k∧dF (l.getD (gu l dF os k).1.toNat hG)=true)
 |0=>⟨by simp[gu],by simp[gu],fun h=>by simp[gu]at h⟩
 |k+1=>by
  obtain⟨h1,h2,h3⟩:=Db l dF os k
  rw[gu,vD]
  split
  ·
   rename_i h
   exact⟨by simp only;omega,by simp only;omega,fun _=>⟨by simp only;omega,by simpa using h.1⟩⟩
  ·
   exact⟨h1,by omega,fun h=>⟨by have:=(h3 h).1;omega,(h3 h).2⟩⟩
theorem HT{l:List aN}{dF:aN→Bool}{os:List (aN→aN→Int)}: ∀{k},(gu l dF os k).2=false→ ∀i,i<k→dF (l.getD i hG)=false
 |0,_,i,hi=>by omega
 |k+1,h,i,hi=>by
  rw[gu,vD]at h
  split at h
  ·
   cases h
  ·
   rename_i hn
   by_cases e:i=k
   ·
    subst e
    cases hr:dF (l.getD i hG)with
    |false=>rfl
    |true=>exact absurd ⟨hr, .inl h⟩ hn
   ·
    exact HT h i (by omega)
theorem z3{l:List aN}{p:Int}{dF:aN→Bool}{os:List (aN→aN→Int)}(h:(fL l p dF os).2=true):mI l p=true∧0≤(fL l p dF os).1∧(fL l p dF os).1<l.length∧dF (l.getD (fL l p dF os).1.toNat hG)=true:=by
 unfold fL at h⊢
 split at h
 ·
  rename_i hw
  rw[if_pos hw]
  obtain⟨h1,h2,h3⟩:=Db l dF os l.length
  exact⟨hw,h1,(h3 h).1,(h3 h).2⟩
 ·
  cases h
theorem HU{l:List aN}{p:Int}{dF:aN→Bool}{os:List (aN→aN→Int)}(hw:mI l p=true)(h:(fL l p dF os).2=false): ∀x∈l,dF x=false:=fun x hx=>by
 unfold fL at h
 rw[if_pos hw]at h
 obtain⟨i,hi⟩:=List.getElem?_of_mem hx
 have gm:=(List.getElem?_eq_some_iff.1 hi).1
 have:=HT h i gm
 rwa [show l.getD i hG=x by simp[List.getD,hi]]at this
theorem vE{α:Type}{l:List α}{i:Nat}{e:α}(he:l[i]? =some e):l.drop i=e::l.drop (i+1):=by
 obtain⟨hi,rfl⟩:=List.getElem?_eq_some_iff.1 he
 rw[List.getElem_cons_drop]
theorem OP{p:Int}{x:aN}(h:sf p x=true)(hp:1≤p):0≤lb p x∧lb p x≤p:=by
 obtain⟨h1,h2,h3,_⟩:=vC.1 h
 rw[lb]
 split
 ·
  omega
 ·
  split<;>omega
theorem HV(p:Int): ∀l:List aN,(∀x∈l,sf p x=true)→1≤p→0≤ld (l.map (lb p))∧ld (l.map (lb p))≤(l.length:Int)*p
 |[],_,_=>by simp[ld]
 |x::r,h,hp=>by
  have h1:=HV p r (fun y hy=>h y (List.mem_cons_of_mem _ hy)) hp
  have h2:=OP (h x List.mem_cons_self) hp
  rw[List.map_cons,ld,List.length_cons,Int.natCast_add,Int.add_mul]
  omega
theorem room_le{n:Nat}{p:Int}(h:n≤32)(h1:1≤p)(h2:p≤16):(n:Int)*p≤512:=by
 have:(n:Int)*p≤32*16:=Int.mul_le_mul (by omega) h2 (by omega) (by omega)
 omega
open Go.aL
structure eH(c d:CV):Prop where
 ag:d.ag=c.ag
 size:d.size=c.size
 len:d.blocks.length=c.blocks.length
theorem eH.fZ(c:CV):eH c c:=⟨rfl,rfl,rfl⟩
theorem eH.trans{c d e:CV}(h:eH c d)(g:eH d e):eH c e:=⟨g.ag.trans h.ag,g.size.trans h.size,g.len.trans h.len⟩
theorem OQ(c:CV)(b g:Int)(p:List UInt8):eH c (k8 c b g p):=by
 rw[k8];split
 ·
  exact⟨rfl,rfl,by simp[pS]⟩
 ·
  exact .fZ c
theorem OR(c:CV)(b:Int):eH c (k9 c b):=by
 rw[k9];split
 ·
  exact⟨rfl,rfl,by simp[rY]⟩
 ·
  exact .fZ c
theorem OS(c:CV)(b:Int):eH c (nP c b):=by
 rw[nP];split
 ·
  exact⟨rfl,rfl,by simp⟩
 ·
  exact .fZ c
theorem Dc{c:CV}(h:bg c=true){o:Int}{f:Bool}(h0:0≤o)(h1:o≤dJ){i:Nat}{B:BV}(hB:k7 c.ag c.size B=true):bg {c with ops:=o,off:=f,blocks:=c.blocks.set i B}=true:=by
 obtain⟨k1,k2,k3,k4,k5⟩:=dE.1 h
 refine dE.2 ⟨by simpa using k1,h0,h1,k4,fun b hb=> ?_⟩
 rcases List.mem_or_eq_of_mem_set hb with hb|rfl
 ·
  exact k5 b hb
 ·
  exact hB
theorem HW{c:CV}(h:bg c=true)(b g:Int)(p:List UInt8):bg (k8 c b g p)=true:=by
 rw[k8];split
 ·
  rename_i hk
  obtain⟨k1,k2,k3,k4⟩:=hk
  obtain⟨j1,j2,j3,j4,j5⟩:=oS.1 k1
  obtain⟨o1,o2,o3,o4,o5,o6⟩:=eM.1 (tO j1)
  have:=(dE.1 h).2.1
  refine Dc h (by omega) (by omega) (eM.2 ⟨by simpa using o1,by simp only;omega,by simp only;omega,o4,o5,fun x hx=> ?_⟩)
  rcases List.mem_or_eq_of_mem_set hx with hx|rfl
  ·
   exact o6 x hx
  ·
   rw[vi];split
   ·
    simpa[cU]using j4
   ·
    exact j4
 ·
  exact h
theorem HX{c:CV}(h:bg c=true)(b:Int):bg (k9 c b)=true:=by
 rw[k9];split
 ·
  rename_i hk
  obtain⟨k1,k2,k3⟩:=hk
  obtain⟨j1,j2,j3⟩:=vj.1 k1
  obtain⟨o1,o2,o3,o4,o5,o6⟩:=eM.1 (tO j1)
  have:=(dE.1 h).2.1
  have hs:=ik.1 (dE.1 h).1
  have hl:(rX c (aO c b).ag).length=(aO c b).ag.length:=by rw[rX];split<;>simp
  refine Dc h (by omega) (by omega) (eM.2 ⟨by rw[hl];exact o1,?_,?_,by simp only;omega,by simp only;omega,fun x hx=> ?_⟩)
  ·
   simp only;split<;>omega
  ·
   simp only;split<;>omega
  ·
   rw[rX]at hx
   split at hx
   ·
    obtain⟨y,hy,rfl⟩:=List.mem_map.1 hx
    simpa[cU]using o6 y hy
   ·
    obtain⟨y,hy,rfl⟩:=List.mem_map.1 hx
    simp only[gE,List.length_replicate];omega
 ·
  exact h
theorem OT{c:CV}(h:bg c=true)(b:Int):bg (nP c b)=true:=by
 rw[nP];split
 ·
  rename_i hk
  have hh:ko c b=true:=by
   rw[oT]at hk
   split at hk
   ·
    assumption
   ·
    cases hk
  obtain⟨o1,o2,o3,o4,o5,o6⟩:=eM.1 (tO hh)
  have k:=dE.1 h
  exact Dc (o:=c.ops) (f:=c.off) h k.2.1 k.2.2.1 (eM.2 ⟨o1,o2,o3,o4,o5,o6⟩)
 ·
  exact h
def fy(c:CV)(b:Int):Int:=if(aO c b).bad=true then 0 else c.ag -(aO c b).used
def lf(c:CV)(b e:Int):CV:=if e=9 then nP c b else c
def cq(c:CV)(b:Int)(p:List UInt8):Int:=kG c b (aO c b).used p
def dh(c:CV)(b:Int)(p:List UInt8):CV:=lf (k8 c b (aO c b).used p) b (cq c b p)
def jb(c:CV)(b:Int):CV:=lf (k9 c b) b (eD c b)
def jc(c:CV):List UInt8:=(dZ ⟨1,0,0,[]⟩ c.size).1
def jd:Nat→CV→Int→CV×Int
 |0,c,b=>(jb c b,eD c b)
 |n+1,c,b=>if cq c b (jc c)≠0 then(dh c b (jc c),cq c b (jc c))else jd n (dh c b (jc c)) b
def dU(c:CV)(b:Int):CV×Int:=jd (fy c b).toNat c b
theorem HY{c:CV}(h:bg c=true)(b e:Int):bg (lf c b e)=true:=by
 rw[lf];split
 ·
  exact OT h b
 ·
  exact h
theorem HZ(c:CV)(b e:Int):eH c (lf c b e):=by
 rw[lf];split
 ·
  exact OS c b
 ·
  exact .fZ c
theorem lg{c:CV}(h:bg c=true)(b:Int)(p:List UInt8):bg (dh c b p)=true:=HY (HW h _ _ _) _ _
theorem l5(c:CV)(b:Int)(p:List UInt8):eH c (dh c b p):=(OQ _ _ _ _).trans (HZ _ _ _)
theorem Dd{c:CV}(h:bg c=true)(b:Int):bg (jb c b)=true:=HY (HX h _) _ _
theorem De(c:CV)(b:Int):eH c (jb c b):=(OR _ _).trans (HZ _ _ _)
theorem H2: ∀(n:Nat) {c:CV} (b:Int),bg c=true→bg (jd n c b).1=true∧eH c (jd n c b).1
 |0,c,b,h=>⟨Dd h b,De c b⟩
 |n+1,c,b,h=>by
  rw[jd];split
  ·
   exact⟨lg h _ _,l5 _ _ _⟩
  ·
   have:=H2 n b (lg h b (jc c))
   exact⟨this.1,(l5 _ _ _).trans this.2⟩
theorem xD{c:CV}(b:Int)(h:bg c=true):bg (dU c b).1=true∧eH c (dU c b).1:=H2 _ b h
theorem vF{c:CV}{b:Int}{p:List UInt8}(h:cq c b p=0):qM c b (aO c b).used p=true∧c.off=false∧(aO c b).bad=false∧(bR c).2=false∧dh c b p=pS c b (aO c b).used p:=by
 have h0:=h
 rw[cq,kG]at h
 by_cases h1:qM c b (aO c b).used p=true
 ·
  rw[if_pos h1]at h
  by_cases h2:c.off=true
  ·
   rw[if_pos h2]at h;cases h
  ·
   rw[if_neg h2]at h
   by_cases h3:(aO c b).bad=true∨(aO c b).used≠(aO c b).used
   ·
    rw[if_pos h3]at h;cases h
   ·
    rw[if_neg h3]at h
    have uP:(aO c b).bad=false:=by
     cases hb:(aO c b).bad with
     |false=>rfl
     |true=>exact absurd (.inl hb) h3
    by_cases h4:(bR c).2=true
    ·
     rw[if_pos h4,mG]at h
     split at h<;>cases h
    ·
     refine⟨h1,by simpa using h2,uP,by simpa using h4,?_⟩
     rw[dh,lf,h0,if_neg (by decide),k8,if_pos ⟨h1,by simpa using h2,uP,rfl⟩]
 ·
  rw[if_neg h1]at h;cases h
theorem Df{c:CV}{b:Int}(h:ko c b=true){o:Int}{f:Bool}{B:BV}:aO {c with ops:=o,off:=f,blocks:=c.blocks.set b.toNat B} b=B:=by
 obtain⟨_,h2,h3⟩:=lX.1 h
 simp only[aO,List.getD,List.getElem?_set_self (show b.toNat<c.blocks.length by omega),Option.getD_some]
theorem H3{c:CV}{b:Int}{p:List UInt8}(h:cq c b p=0):fy (dh c b p) b=fy c b -1:=by
 obtain⟨h1,h2,h3,h4,h5⟩:=vF h
 have hh:=(oS.1 h1).1
 rw[h5,fy,fy,pS,Df hh]
 simp only[h3]
 simp only[Bool.false_eq_true,if_false];omega
theorem OU{c:CV}{b:Int}(h:0<fy c b):dU c b=if cq c b (jc c)≠0 then(dh c b (jc c),cq c b (jc c))else dU (dh c b (jc c)) b:=by
 obtain⟨n,hn⟩: ∃n,(fy c b).toNat=n+1:=⟨(fy c b).toNat -1,by omega⟩
 rw[dU,hn,jd]
 split
 ·
  rfl
 ·
  rename_i h0
  have qJ:cq c b (jc c)=0:=by simpa using h0
  rw[dU,H3 qJ,show(fy c b -1).toNat=n by omega]
theorem OV{c:CV}{b:Int}(h: ¬0<fy c b):dU c b=(jb c b,eD c b):=by
 rw[dU,show(fy c b).toNat=0 by omega];rfl
theorem z4(c:CV)(b e:Int):(lf c b e).ops=c.ops:=by
 rw[lf];split
 ·
  rw[nP];split<;>rfl
 ·
  rfl
theorem OW(c:CV)(b g:Int)(p:List UInt8):c.ops≤(k8 c b g p).ops:=by
 rw[k8];split
 ·
  simp only[pS];omega
 ·
  omega
theorem OX(c:CV)(b:Int):c.ops≤(k9 c b).ops:=by
 rw[k9];split
 ·
  simp only[rY];omega
 ·
  omega
theorem sg{c:CV}{b:Int}{p:List UInt8}(hb:(aO c b).bad=false)(he:cq c b p=9∨cq c b p=0):(dh c b p).ops=c.ops+1:=by
 rw[dh,z4,k8]
 rw[cq,kG]at he
 by_cases h1:qM c b (aO c b).used p=true
 ·
  rw[if_pos h1]at he
  by_cases h2:c.off=true
  ·
   rw[if_pos h2]at he;omega
  ·
   rw[if_pos ⟨h1,by simpa using h2,hb,rfl⟩];rfl
 ·
  rw[if_neg h1]at he;omega
theorem OY{c:CV}{b:Int}(hb:(aO c b).bad=false)(he:eD c b=9∨eD c b=0):(jb c b).ops=c.ops+1:=by
 rw[jb,z4,k9]
 rw[eD]at he
 by_cases h1:qN c b=true
 ·
  rw[if_pos h1]at he
  by_cases h2:c.off=true
  ·
   rw[if_pos h2]at he;omega
  ·
   rw[if_pos ⟨h1,by simpa using h2,hb⟩];rfl
 ·
  rw[if_neg h1]at he;omega
theorem OZ{c:CV}{b:Int}{p:List UInt8}(h:cq c b p=0):(aO (dh c b p) b).bad=false:=by
 obtain⟨h1,h2,h3,h4,h5⟩:=vF h
 rw[h5,pS,Df (oS.1 h1).1];exact h3
theorem tW(c:CV)(b:Int)(p:List UInt8):c.ops≤(dh c b p).ops:=by rw[dh,z4];exact OW _ _ _ _
theorem H4(c:CV)(b:Int):c.ops≤(jb c b).ops:=by rw[jb,z4];exact OX _ _
theorem vG: ∀(n:Nat) (c:CV) (b:Int),c.ops≤(jd n c b).1.ops
 |0,c,b=>H4 c b
 |n+1,c,b=>by
  rw[jd];split
  ·
   exact tW _ _ _
  ·
   have:=vG n (dh c b (jc c)) b
   have:=tW c b (jc c)
   omega
theorem H5: ∀(n:Nat) {c:CV} {b:Int},(aO c b).bad=false→(jd n c b).2=9∨(jd n c b).2=0→c.ops<(jd n c b).1.ops
 |0,c,b,hb,he=>by have:=OY hb he;simp only[jd];omega
 |n+1,c,b,hb,he=>by
  rw[jd]at he⊢
  by_cases h0:cq c b (jc c)≠0
  ·
   rw[if_pos h0]at he⊢
   have:=sg hb (p:=jc c) (he.imp id fun h=>h)
   simp only;omega
  ·
   rw[if_neg h0]at he⊢
   have qJ:cq c b (jc c)=0:=by simpa using h0
   have:=H5 n (OZ qJ) he
   have:=tW c b (jc c)
   omega
theorem z5{c:CV}{b:Int}(hb:(aO c b).bad=false)(he:(dU c b).2=9∨(dU c b).2=0):c.ops<(dU c b).1.ops:=H5 _ hb he
def cd:aN:=⟨0,0,0,true⟩
def m9(x:aN):aN:=if x.bad=true then cd else x
def aY(c:CV)(fl:List Int):List aN:=(ic c fl).map m9
def kJ(R:aN→Bool)(x:aN):aN:=if x.bad=true∨R x=false then cd else x
def cB(R:aN→Bool)(l:List aN):List aN:=l.map (kJ R)
theorem oZ(c:CV)(fl:List Int):(aY c fl).length=c.blocks.length -2:=by rw[aY,List.length_map,ic,vA]
theorem z6(R:aN→Bool)(l:List aN):(cB R l).length=l.length:=by simp[cB]
open Go.aL
structure WV where
 v:VV
 beyond:Bool
 deriving DecidableEq
def WV.on(x:WV)(c:CV):WV:={x with v:={x.v with ai:=c}}
theorem na{c:Cp}{b:Int}{B:Bk}(h:c.blocks.xs[b.toNat]? =some B):aO (cv c) b=bv B:=by
 rw[←rZ];simp[List.getD,h]
def kK(c:CV):Nat:=(c.blocks.filter fun b=>b.bad).length
def qR(p:List UInt8):Nat:=if(bJ p).2=0 then(bJ p).1.gen else 0
def p6(l:List (List UInt8)):Nat:=l.foldl (fun m p=>max m (qR p)) 0
def l6(c:CV)(b:Int):Nat:=p6 (aO c b).ag
theorem O0{l:List (List UInt8)}{i:Nat}{p:List UInt8}(h:l[i]? =some p):p6 (l.take (i+1))=max (p6 (l.take i)) (qR p):=by
 rw[p6,List.take_add_one,h];simp[p6]
theorem H6(b:List UInt8):(bm b).1.gen<281474976710656:=by
 have:=zW b
 rw[bm]
 split
 ·
  simp[gq]
 ·
  split
  ·
   simp[gq]
  ·
   split
   ·
    simp[gq]
   ·
    split
    ·
     simp[gq]
    ·
     split
     ·
      simp[gq]
     ·
      exact this
theorem H7(p:List UInt8):qR p<281474976710656:=by
 rw[qR];split
 ·
  rw[bJ];split
  ·
   simp[eN]
  ·
   split
   ·
    simp[eN]
   ·
    split
    ·
     simp[eN]
    ·
     exact H6 p
 ·
  omega
theorem Dg(l:List (List UInt8)):p6 l<281474976710656:=by
 have: ∀(l:List (List UInt8)) (m:Nat),m<281474976710656→l.foldl (fun m p=>max m (qR p)) m<281474976710656:=by
  intro l
  induction l with
  |nil=>intro m h;exact h
  |cons p r ih=>
   intro m h
   have:=H7 p
   exact ih _ (Nat.max_lt.2 ⟨h,this⟩)
 exact this l 0 (by omega)
def vH(c:CV)(b:Int):Bool:= !(aO c b).bad&&(decide (0<(aO c b).used)||(decide (b<2)&&decide (0<l6 c b)))
def fc(c:CV)(b:Int):Nat:=max 1 (l6 c (1 -b)+(1 -b).toNat)
def sh(c:CV)(last:Int):Int:=if(aO c (1 -last)).bad=true then fy c last else if(aO c last).bad=true∧0<fy c (1 -last)then fy c (1 -last)else c.ag
def vI(g:Nat):Bool:=decide (281474976710656≤g+2)
def kp(e:Int):Int:=if e=9 then 0 else e
theorem H8{f:aN→aN}{l:List aN}{i:Nat}{x:aN}(h:l[i]? =some x):((l.take i).map f++l.drop i).set i (f x)=(l.take (i+1)).map f++l.drop (i+1):=by
 have hi:=(List.getElem?_eq_some_iff.1 h).1
 have hl:((l.take i).map f).length=i:=by rw[List.length_map,List.length_take];omega
 rw[List.set_append_right _ _ (by omega),hl,Nat.sub_self,vE h,List.set_cons_zero,List.take_add_one,h]
 simp
theorem H9{f:aN→aN}{l:List aN}{i:Nat}{x:aN}(h:l[i]? =some x)(hf:f x=x):(l.take i).map f++l.drop i=(l.take (i+1)).map f++l.drop (i+1):=by
 rw[vE h,List.take_add_one,h]
 simp[hf]
theorem Ia{f:aN→aN}{l:List aN}{i:Nat}{x:aN}(h:l[i]? =some x):((l.take i).map f++l.drop i)[i]? =some x:=by
 have hi:=(List.getElem?_eq_some_iff.1 h).1
 have hl:((l.take i).map f).length=i:=by rw[List.length_map,List.length_take];omega
 rw[List.getElem?_append_right (by omega),hl,Nat.sub_self,List.getElem?_drop,Nat.add_zero,h]
theorem O1{l:List BV}{i:Nat}{x:BV}(h:l[i]? =some x):((l.take (i+1)).filter fun b=>b.bad).length=((l.take i).filter fun b=>b.bad).length+(if x.bad=true then 1 else 0):=by
 rw[List.take_add_one,h,List.filter_append,List.length_append]
 congr 1
 simp only[Option.toList_some,List.filter_cons,List.filter_nil]
 split<;>simp_all
end Go.Kb
