/- Part of a proof. -/
import Derived.Test.YtaipiecplldinaaGreatB1
import Derived.Lib.AppendZerosOnto
import Derived.Lib.Overlaps
import Derived.Lib.AppendZeros
set_option maxRecDepth 20000
set_option linter.unusedSimpArgs false
set_option linter.unusedVariables false
namespace Go.aB
structure lL where
 X:Type
 v:X→Value
 e:X→aj
section
variable {P:Program} {l:List Oper} {Q:Exit→Act→World→Prop} {fs:List Nat} {mk:Nat→lL} {w0:World}
def qD(P:Program)(o:Oper)(ρ:Operand→Value)(m:lL):Prop:= ∀(w0 w:World) (L:List aj),Mem w0 L w→ ∃(x:m.X) (w':World),(execOp ρ o).run P w= .ok (.value (m.v x)) w'∧Mem w0 (m.e x::L) w'
def upon(P:Program)(w:World)(R:Value→World→Prop):Result Next→Prop
 | .ok (.value v) w'=>R v w'
 | .ok .skip w'=>R undef w'
 | .ok (.enter f args) w'=>w'=w∧Calls P f args w fun e mU=> ∃v,e= .returned v∧R v mU
 |_=>False
def oG(P:Program)(l:List Oper)(fs:List Nat)(mk:Nat→lL)(Q:Exit→Act→World→Prop)(w0:World):List Nat→Act→List aj→List aj→Prop
 |[],af,L,_=> ∀w,Mem w0 L w→Q .normal af w
 |k::ord,af,L,Lq=> ∃o,l[k]? =some o∧(if fs.contains k=true then(∀i∈ord,fs.contains (i+2000)=true→ ∃oi,l[i]? =some oi∧oi.guard=none∧qD P oi af.eval (mk i))∧(if fs.contains (k+2000)=true then
  o.guard=none∧qD P o af.eval (mk k)∧ ∀x:(mk k).X,oG P l fs mk Q w0 ord (af.put o.dst ((mk k).v x)) ((mk k).e x::L) Lq
  else
   Region.wanted o (yielded l.toArray af.tmps)=true∧(∀w,Mem w0 L w→upon P w (fun v w'=> ∃L' ft,Mem w0 L' w'∧(∀w,Mem w0 L' w→Mem w0 ft w)∧(∀w,Mem w0 ft w→Mem w0 Lq w)∧(fs.contains (k+5000)=true→ ∀w,Mem w0 L' w→Mem w0 L w)∧oG P l fs mk Q w0 ord (af.put o.dst v) L' ft) ((execOp af.eval o).run P w))∧
   (fs.contains (k+4000)=true→ ∀e w,Mem w0 (e::L) w→upon P w (fun v w'=> ∃L' ft,Mem w0 (e::L') w'∧(∀w,Mem w0 L' w→Mem w0 ft w)∧(∀w,Mem w0 ft w→Mem w0 Lq w)∧(fs.contains (k+5000)=true→ ∀w,Mem w0 L' w→Mem w0 L w)∧oG P l fs mk Q w0 ord (af.put o.dst v) L' ft) ((execOp af.eval o).run P w)))
  else∃v,(Region.wanted o (yielded l.toArray af.tmps)=true→qp P o af (Mem w0 (if fs.contains (k+1000)=true then L else Lq)) v)∧(Region.wanted o (yielded l.toArray af.tmps)=false→v=undef)∧oG P l fs mk Q w0 ord (af.put o.dst v) L Lq)
def xk(o:Oper):List Nat:=(o.after.toList.filter fun e=>Region.binds .any e).map (·.on)
def Cq(l:List Oper)(fs:List Nat)(A:List (List Nat))(prev seen:List Nat)(k:Nat)(o:Oper):Bool:=
 (!fs.contains k||fs.contains (k+2000)||fs.contains (k+5000)||(prev.all fun j=> !fs.contains (j+1000)||(A.getD k []).contains j))&&
 (match o.op with| .select .. =>false|_=>true)&&
 ((xk o).all fun j=>decide (j<k))&&
 (fs.contains (k+2000)||seen.all fun f=>(A.getD k []).contains f)&&
 ((A.getD k []).all fun f=>(xk o).any fun j=>j==f||(A.getD j []).contains f)&&
 ((List.range l.length).all fun j=>match dq l j with
  |none=>true
  |some d=>(!(o.looksAt l.toArray).contains d||(prev.contains j&&(xk o).contains j&&(!fs.contains (k+2000)|| !fs.contains j)))&&(j==k||o.dst !=some d))
def qE(l:List Oper)(fs:List Nat)(A:List (List Nat)):List Nat→List Nat→List Nat→Bool
 |_,_,[]=>true
 |prev,seen,k::ord=>(match l[k]?with|none=>false|some o=>Cq l fs A prev seen k o)&&(!fs.contains k||fs.contains (k+2000)||(ord.all fun j=> !fs.contains (j+2000))||(fs.contains (k+4000)&&decide ((ord.filter fun j=>fs.contains (j+2000)).length≤1)))&&qE l fs A (k::prev) (if fs.contains k then k::seen else seen) ord
def zH(l:List Oper)(fs:List Nat)(A:List (List Nat))(ord:List Nat):Bool:=
 ((List.range l.length).all fun j=>ord.contains j)&&decide ord.Nodup&&(ord.all fun j=>decide (j<l.length))&&(fs.all fun j=>decide (j<2000))&&qE l fs A [] [] ord
def zI(l:List Oper)(fs:List Nat)(A:List (List Nat))(ord:List Nat):Bool:=
 ((List.range l.length).all fun j=>ord.contains j)&&decide ord.Nodup&&(ord.all fun j=>decide (j<l.length))&&qE l fs A [] [] ord
structure Cr(l:List Oper)(fs:List Nat)(A:List (List Nat))(prev seen:List Nat)(k:Nat)(o:Oper):Prop where
 tmp:fs.contains k=true→fs.contains (k+2000)=false→fs.contains (k+5000)=false→ ∀j∈prev,fs.contains (j+1000)=true→j∈A.getD k []
 ru: ∀cs b,o.op≠ .select cs b
 back: ∀e∈o.after,Region.binds .any e=true→e.on<k
 Oe:fs.contains (k+2000)=false→ ∀f∈seen,f∈A.getD k []
 cert: ∀f∈A.getD k [],∃e∈o.after,Region.binds .any e=true∧(e.on=f∨f∈A.getD e.on [])
 reads: ∀j d,j<l.length→dq l j=some d→d∈o.looksAt l.toArray→j∈prev∧ ∃e∈o.after,Region.binds .any e=true∧e.on=j
 one: ∀j d,j<l.length→dq l j=some d→j≠k→o.dst≠some d
 Of:fs.contains (k+2000)=true→ ∀j d,j<l.length→dq l j=some d→d∈o.looksAt l.toArray→fs.contains j=false
theorem Cs{o:Oper}{j:Nat}:j∈xk o↔ ∃e∈o.after,Region.binds .any e=true∧e.on=j:=by
 unfold xk
 simp only[List.mem_map,List.mem_filter]
 constructor
 ·
  rintro⟨e,⟨h1,h2⟩,h3⟩;exact⟨e,by simpa using h1,h2,h3⟩
 ·
  rintro⟨e,h1,h2,h3⟩;exact⟨e,⟨by simpa using h1,h2⟩,h3⟩
theorem Og{A:List (List Nat)}{prev seen:List Nat}{k:Nat}{o:Oper}(h:Cq l fs A prev seen k o=true):Cr l fs A prev seen k o:=by
 simp only[Cq,Bool.and_eq_true]at h
 obtain⟨⟨⟨⟨⟨h0,h1⟩,h2⟩,h3⟩,h4⟩,h5⟩:=h
 refine⟨fun hk mZ Oh j hj ht=>by
  rw[hk,mZ,Oh,Bool.not_true,Bool.false_or,Bool.false_or,Bool.false_or]at h0
  have:=List.all_eq_true.1 h0 j hj
  rw[ht]at this
  simpa using this,fun cs b e=>by rw[e]at h1;simp at h1,fun e he hb=> ?_,fun fK f hf=> ?_,fun f hf=> ?_,fun j d hj hd hl=> ?_,fun j d hj hd cD=> ?_,fun hk j d hj hd hl=> ?_⟩
 ·
  have:=List.all_eq_true.1 h2 e.on (Cs.2 ⟨e,he,hb,rfl⟩)
  simpa using this
 ·
  rw[fK,Bool.false_or]at h3
  have:=List.all_eq_true.1 h3 f hf
  simpa using this
 ·
  have:=List.all_eq_true.1 h4 f hf
  obtain⟨j,hj,dt⟩:=List.any_eq_true.1 this
  obtain⟨e,he,hb,rfl⟩:=Cs.1 hj
  exact⟨e,he,hb,by simpa using dt⟩
 ·
  have:=List.all_eq_true.1 h5 j (List.mem_range.2 hj)
  rw[hd]at this
  simp only[Bool.and_eq_true,Bool.or_eq_true,Bool.not_eq_true']at this
  rcases this.1 with h6|h6
  ·
   exact absurd hl (by simpa using h6)
  ·
   exact⟨by simpa using h6.1.1,Cs.1 (by simpa using h6.1.2)⟩
 ·
  have:=List.all_eq_true.1 h5 j (List.mem_range.2 hj)
  rw[hd]at this
  simp only[Bool.and_eq_true,Bool.or_eq_true,beq_iff_eq]at this
  rcases this.2 with h6|h6
  ·
   exact absurd h6 cD
  ·
   simpa using h6
 ·
  have:=List.all_eq_true.1 h5 j (List.mem_range.2 hj)
  rw[hd]at this
  simp only[Bool.and_eq_true,Bool.or_eq_true,Bool.not_eq_true']at this
  rcases this.1 with h6|h6
  ·
   exact absurd hl (by simpa using h6)
  ·
   rcases h6.2 with h7|h7
   ·
    rw[hk]at h7;cases h7
   ·
    exact h7
theorem rO{A:List (List Nat)}: ∀(ord prev seen:List Nat),qE l fs A prev seen ord=true→ ∀(x:List Nat) (k:Nat) (y:List Nat),ord=x++k::y→
  ∃o,l[k]? =some o∧Cr l fs A (x.reverse++prev) ((x.filter fun j=>fs.contains j).reverse++seen) k o∧(fs.contains k=true→fs.contains (k+2000)=false→(∀j∈y,fs.contains (j+2000)=false)∨(fs.contains (k+4000)=true∧(y.filter fun j=>fs.contains (j+2000)).length≤1))
 |[],_,_,_,x,k,y,e=>by simp at e
 |k0::ord,prev,seen,h,x,k,y,e=>by
  simp only[qE,Bool.and_eq_true]at h
  cases x with
  |nil=>
   simp only[List.nil_append,List.cons.injEq]at e
   obtain⟨rfl,rfl⟩:=e
   cases ho:l[k0]?with
   |none=>rw[ho]at h;simp at h
   |some o=>
    rw[ho]at h
    refine⟨o,rfl,by simpa using Og h.1.1,fun h1 h2=> ?_⟩
    have h3:=h.1.2
    rw[h1,h2]at h3
    simp only[Bool.not_true,Bool.false_or,Bool.or_eq_true,Bool.and_eq_true,decide_eq_true_eq]at h3
    refine h3.imp (fun h4 j hj=> ?_) id
    have:=List.all_eq_true.1 h4 j hj
    simpa using this
  |cons x0 x=>
   simp only[List.cons_append,List.cons.injEq]at e
   obtain⟨rfl,rfl⟩:=e
   obtain⟨o,ho,hk,hy⟩:=rO _ _ _ h.2 x k y rfl
   refine⟨o,ho,?_,hy⟩
   have e1:(k0::x).reverse++prev=x.reverse++(k0::prev):=by simp
   have e2:(((k0::x).filter fun j=>fs.contains j).reverse++seen)=(x.filter fun j=>fs.contains j).reverse++(if fs.contains k0 then k0::seen else seen):=by
    cases hc:fs.contains k0 with
    |true=>
     rw[List.filter_cons,if_pos hc,List.reverse_cons,List.append_assoc];rfl
    |false=>
     rw[List.filter_cons,if_neg (by rw[hc];exact Bool.false_ne_true)];rfl
   rw[e1,e2];exact hk
def my(N0 d:Nat)(v:Value)(a:Act):Prop:=a.tmps[d]? =if d<N0 then some v else none
theorem uT{N0 d:Nat}{v:Value}{a:Act}(h:a.tmps.size=N0):my N0 d v (a.put (some d) v):=by
 subst h
 unfold my
 simp[Act.put,Array.getElem?_setIfInBounds]
def Ct(P:Program)(l:List Oper)(w0:World)(N0 k:Nat)(af:Act)(Lq:List aj):Prop:=
 ∃o v,l[k]? =some o∧(∀d,o.dst=some d→my N0 d v af)∧(Region.wanted o (yielded l.toArray af.tmps)=true→qp P o af (Mem w0 Lq) v)∧(Region.wanted o (yielded l.toArray af.tmps)=false→v=undef)
def Early(l:List Oper)(fs:List Nat)(mk:Nat→lL)(N0:Nat)(fT:List Nat)(bg:Array Bool)(a:Act)(e:Nat×aj):Prop:=
 e.1∈fT∧bg.getD e.1 true=true∧fs.contains e.1=true∧fs.contains (e.1+2000)=true∧ ∃o,∃x:(mk e.1).X,l[e.1]? =some o∧e.2=(mk e.1).e x∧ ∀d,o.dst=some d→my N0 d ((mk e.1).v x) a
structure Core(P:Program)(l:List Oper)(fs:List Nat)(mk:Nat→lL)(Q:Exit→Act→World→Prop)(w0:World)(ord:List Nat)(a0:Act)(pre fT:List Nat)(af:Act)(L Lq:List aj)(E:List (Nat×aj))(bg:Array Bool)(a:Act)(w:World):Prop where
 ord:ord=pre++fT
 inv:HeadInv .any l.toArray l.length bg
 mem:Mem w0 (E.map (·.2)++L) w
 nc: ∀e∈E,Early l fs mk a0.tmps.size fT bg a e
 keys:(E.map (·.1)).Nodup
 uU: ∀w,Mem w0 L w→Mem w0 Lq w
 tn:oG P l fs mk Q w0 fT af L Lq
 size:a.tmps.size=a0.tmps.size
 nF:af.tmps.size=a0.tmps.size
 defers:a.defers=a0.defers
 pB:af.defers=a0.defers
 sub: ∀j,j<l.length→bg.getD j true=true→j∈pre∨j∈E.map (·.1)
 fresh: ∀j∈pre,fs.contains j=true→bg.getD j true=true
 rP: ∀j∈pre,bg.getD j true=false→Ct P l w0 a0.tmps.size j af (if fs.contains (j+1000)=true then L else Lq)
 done: ∀j d,j<l.length→bg.getD j true=true→j∈pre→dq l j=some d→a.tmps[d]? =af.tmps[d]?
 rest: ∀d,(∀j,j<l.length→bg.getD j true=true→dq l j≠some d)→a.tmps[d]? =a0.tmps[d]?
 full: ∀d,(∀j∈pre,dq l j≠some d)→af.tmps[d]? =a0.tmps[d]?
variable {A:List (List Nat)} {ord:List Nat} {a0:Act}
theorem xm{o:Oper}(hn: ∀cs b,o.op≠ .select cs b){a b:Act}(h: ∀t∈o.looksAt l.toArray,a.tmps[t]? =b.tmps[t]?):
  execOp a.eval o=execOp b.eval o∧Region.wanted o (yielded l.toArray a.tmps)=Region.wanted o (yielded l.toArray b.tmps):=
 ⟨execOp_congr o hn (BP h),F9 h⟩
theorem He{o:Oper}{a b:Act}{C D:World→Prop}{v:Value}(e:execOp a.eval o=execOp b.eval o)(hD: ∀w,D w→C w)(h:qp P o a C v):qp P o b D v:=fun w hw=>by
 have:=h w (hD w hw)
 unfold Oper.quietAt at this⊢
 rw[←e];exact this
theorem uV{pre fT:List Nat}{i k N0:Nat}{af:Act}{Lq ft:List aj}{oi:Oper}{u:Value}(hB:qE l fs A [] [] ord=true)(ck:ord.Nodup)(bo: ∀j∈ord,j<l.length)(ho:ord=pre++i::fT)(sQ:l[i]? =some oi)(hk:k∈pre)(hq: ∀w,Mem w0 ft w→Mem w0 Lq w)
  (h:Ct P l w0 N0 k af Lq):Ct P l w0 N0 k (af.put oi.dst u) ft:=by
 obtain⟨o,v,h1,h2,h3,h4⟩:=h
 obtain⟨x,y,rfl⟩:=List.append_of_mem hk
 have mr:ord=x++k::(y++i::fT):=by rw[ho];simp
 obtain⟨o',mz,b0,-⟩:=rO ord [] [] hB x k _ mr
 have:o'=o:=by rw[h1]at mz;exact(Option.some.inj mz).symm
 subst this
 have eT:i<l.length:=(List.getElem?_eq_some_iff.1 sQ).1
 have jJ:dq l i=oi.dst:=by simp[dq,sQ]
 have mA:i≠k:=fun e=>by
  subst e
  rw[mr]at ck
  have:=(List.nodup_append.1 ck).2.1
  exact(List.nodup_cons.1 this).1 (by simp)
 have Hf:i∉x:=fun hx=>by
  rw[mr]at ck
  exact(List.nodup_append.1 ck).2.2 i hx i (by simp) rfl
 have Cu: ∀t∈o'.looksAt l.toArray,af.tmps[t]? =(af.put oi.dst u).tmps[t]? :=fun t ht=>by
  refine(iH _ _ _ _ fun e=> ?_).symm
  obtain⟨hp,_⟩:=b0.reads i t eT (by rw[jJ];exact e) ht
  rw[List.append_nil,List.mem_reverse]at hp
  exact Hf hp
 obtain⟨e1,e2⟩:=xm b0.ru Cu
 refine⟨o',v,h1,fun d hd=> ?_,fun hw=>He e1 hq (h3 (by rw[e2];exact hw)),fun hw=>h4 (by rw[e2];exact hw)⟩
 have:=h2 d hd
 unfold my at this⊢
 rw[iH _ _ _ _ fun e=> ?_]
 ·
  exact this
 ·
  exact b0.one i d eT (by rw[jJ];exact e) mA hd
theorem Oi{E:List (Nat×aj)}{k:Nat}(h:k∈E.map (·.1)): ∃E1 x E2,E=E1++(k,x)::E2:=by
 obtain⟨e,he,rfl⟩:=List.mem_map.1 h
 obtain⟨E1,E2,rfl⟩:=List.append_of_mem he
 exact⟨E1,e.2,E2,rfl⟩
theorem zJ(hB:qE l fs A [] [] ord=true)(ck:ord.Nodup)(bo: ∀j∈ord,j<l.length): ∀(fT pre:List Nat) (af:Act) {L Lq:List aj} {E:List (Nat×aj)} {bg:Array Bool} {a:Act} {w:World},Core P l fs mk Q w0 ord a0 pre fT af L Lq E bg a w→
  ∃Oj Cv Ol L' E',Core P l fs mk Q w0 ord a0 Oj Cv Ol L' Lq E' bg a w∧(Cv=[]∨ ∃f r,Cv=f::r∧fs.contains f=true∧f∉E'.map (·.1))
 |[],pre,af,L,_,E,_,_,_,H=>⟨pre,[],af,L,E,H, .inl rfl⟩
 |k::fT,pre,af,L,Lq,E,bg,a,w,H=>by
  have nQ:k∉pre:=fun h=>by
   have mB:=ck
   rw[H.ord]at mB
   exact(List.nodup_append.1 mB).2.2 k h k (by simp) rfl
  have gy: ∀j,j∈pre→j≠k:=fun j hj e=>nQ (e▸hj)
  have Y1:k∉fT:=fun h=>by
   have mB:=ck
   rw[H.ord]at mB
   exact(List.nodup_cons.1 (List.nodup_append.1 mB).2.1).1 h
  obtain⟨o',oH,b0,-⟩:=rO ord [] [] hB pre k fT H.ord
  have xn:k<l.length:=(List.getElem?_eq_some_iff.1 oH).1
  have zK:dq l k=o'.dst:=by simp[dq,oH]
  cases hf:fs.contains k with
  |true=>
   by_cases hE:k∈E.map (·.1)
   ·
    obtain⟨E1,x,E2,rfl⟩:=Oi hE
    obtain⟨_,pM,_,fK,oe,b,Hg,hx,mC⟩:=H.nc (k,x) (by simp)
    simp only at pM fK Hg hx mC
    have e0:oe=o':=by rw[Hg]at oH;exact Option.some.inj oH
    subst e0
    obtain⟨o,mz,hl⟩:=H.tn
    rw[if_pos hf,if_pos fK]at hl
    have e1:o=oe:=by rw[mz]at oH;exact Option.some.inj oH
    subst e1
    obtain⟨_,_,_,uW⟩:=hl
    have Om:(((E1++(k,x)::E2).map (·.2))++L).Perm (((E1++E2).map (·.2))++x::L):=by
     simp only[List.map_append,List.map_cons,List.append_assoc,List.cons_append]
     exact List.Perm.append_left _ (List.perm_middle.symm)
    have Cx:=H.keys
    simp only[List.map_append,List.map_cons]at Cx
    have On: ∀e∈E1++E2,e.1≠k:=fun e he e2=>by
     obtain⟨n1,n2,n3⟩:=List.nodup_append.1 Cx
     rcases List.mem_append.1 he with h|h
     ·
      exact n3 e.1 (List.mem_map_of_mem h) k (by simp) e2
     ·
      exact(List.nodup_cons.1 n2).1 (e2▸List.mem_map_of_mem h)
    refine zJ hB ck bo fT (pre++[k]) (af.put o.dst ((mk k).v b)) (L:=x::L) (E:=E1++E2) ⟨by rw[H.ord];simp,H.inv,H.mem.perm Om,fun e he=> ?_,?_,fun w hw=>H.uU w (hw.sub (List.sublist_cons_self _ _)),by rw[hx];exact uW b,H.size,by rw[py];exact H.nF,H.defers,by rw[pz];exact H.pB,fun j hj hl=> ?_,fun j hj ow=> ?_,fun j hj hl=> ?_,fun j d hj hl pN hd=> ?_,H.rest,fun d hd=> ?_⟩
    ·
     have hm:e∈E1++(k,x)::E2:=by
      rcases List.mem_append.1 he with h|h
      ·
       exact List.mem_append_left _ h
      ·
       exact List.mem_append_right _ (List.mem_cons_of_mem _ h)
     obtain⟨g1,g2⟩:=H.nc e hm
     exact⟨(List.mem_cons.1 g1).resolve_left (On e he),g2⟩
    ·
     rw[List.map_append]
     exact Cx.sublist (List.Sublist.append_left (List.sublist_cons_self _ _) _)
    ·
     rcases H.sub j hj hl with h|h
     ·
      exact .inl (List.mem_append_left _ h)
     ·
      simp only[List.map_append,List.map_cons,List.mem_append,List.mem_cons]at h
      rcases h with h|h|h
      ·
       exact .inr (by simp only[List.map_append,List.mem_append];exact .inl h)
      ·
       exact .inl (by rw[h];simp)
      ·
       exact .inr (by simp only[List.map_append,List.mem_append];exact .inr h)
    ·
     rcases List.mem_append.1 hj with h|h
     ·
      exact H.fresh j h ow
     ·
      obtain rfl:=List.mem_singleton.1 h;exact pM
    ·
     rcases List.mem_append.1 hj with h|h
     ·
      have hp:=H.rP j h hl
      cases tp:fs.contains (j+1000)with
      |true=>
       rw[tp]at hp
       simp only[if_true]at hp⊢
       exact uV hB ck bo H.ord mz h (fun w hw=>hw.sub (List.sublist_cons_self _ _)) hp
      |false=>
       rw[tp]at hp
       simp only[Bool.false_eq_true,if_false]at hp⊢
       exact uV hB ck bo H.ord mz h (fun _ h=>h) hp
     ·
      obtain rfl:=List.mem_singleton.1 h
      rw[pM]at hl;cases hl
    ·
     rcases List.mem_append.1 pN with h|h
     ·
      rw[iH _ _ _ _ (b0.one j d hj hd (gy j h))]
      exact H.done j d hj hl h hd
     ·
      obtain rfl:=List.mem_singleton.1 h
      rw[zK]at hd
      have h3:=mC d hd
      rw[hd]
      have h4:my a0.tmps.size d ((mk j).v b) (af.put (some d) ((mk j).v b)):=uT H.nF
      unfold my at h3 h4
      rw[h3,h4]
    ·
     rw[iH _ _ _ _ (by have:=hd k (by simp);rwa [zK]at this)]
     exact H.full d fun j hj=>hd j (List.mem_append_left _ hj)
   ·
    exact⟨pre,k::fT,af,L,E,H, .inr ⟨k,fT,rfl,hf,hE⟩⟩
  |false=>
   obtain⟨o,mz,hl⟩:=H.tn
   rw[if_neg (by rw[hf];exact Bool.false_ne_true)]at hl
   obtain⟨v,h1,h2,h3⟩:=hl
   have:o'=o:=by rw[mz]at oH;exact(Option.some.inj oH).symm
   subst this
   have Cu: ∀t∈o'.looksAt l.toArray,af.tmps[t]? =(af.put o'.dst v).tmps[t]? :=fun t ht=>by
    refine(iH _ _ _ _ fun e=> ?_).symm
    obtain⟨hp,_⟩:=b0.reads k t xn (by rw[zK];exact e) ht
    rw[List.append_nil,List.mem_reverse]at hp
    exact nQ hp
   obtain⟨e1,e2⟩:=xm b0.ru Cu
   refine zJ hB ck bo fT (pre++[k]) (af.put o'.dst v) ⟨by rw[H.ord];simp,H.inv,H.mem,fun e he=> ?_,H.keys,H.uU,h3,H.size,by rw[py];exact H.nF,H.defers,by rw[pz];exact H.pB,fun j hj hl=>(H.sub j hj hl).imp_left fun h=>List.mem_append_left _ h,fun j hj ow=> ?_,fun j hj hl=> ?_,fun j d hj hl pN hd=> ?_,H.rest,fun d hd=> ?_⟩
   ·
    obtain⟨g1,g2,g3,g4⟩:=H.nc e he
    exact⟨(List.mem_cons.1 g1).resolve_left (fun e2=>by rw[e2,hf]at g3;cases g3),g2,g3,g4⟩
   ·
    rcases List.mem_append.1 hj with h|h
    ·
     exact H.fresh j h ow
    ·
     obtain rfl:=List.mem_singleton.1 h
     rw[hf]at ow;cases ow
   ·
    rcases List.mem_append.1 hj with h|h
    ·
     exact uV hB ck bo H.ord mz h (fun _ h=>h) (H.rP j h hl)
    ·
     obtain rfl:=List.mem_singleton.1 h
     refine⟨o',v,mz,fun d hd=>by rw[hd];exact uT H.nF,fun hw=>He e1 (fun _ h=>h) (h1 (by rw[e2];exact hw)),fun hw=>h2 (by rw[e2];exact hw)⟩
   ·
    rcases List.mem_append.1 pN with h|h
    ·
     rw[iH _ _ _ _ (b0.one j d hj hd (gy j h))]
     exact H.done j d hj hl h hd
    ·
     obtain rfl:=List.mem_singleton.1 h
     rcases H.sub j hj hl with h5|h5
     ·
      exact absurd h5 nQ
     ·
      obtain⟨e,he,Oo⟩:=List.mem_map.1 h5
      obtain⟨_,_,g3,_⟩:=H.nc e he
      rw[Oo,hf]at g3;cases g3
   ·
    rw[iH _ _ _ _ (by have:=hd k (by simp);rwa [zK]at this)]
    exact H.full d fun j hj=>hd j (List.mem_append_left _ hj)
theorem Hh{x p1 y y':List Nat}{i:Nat}(hn:(p1++i::y').Nodup)(h:x++i::y=p1++i::y'):x=p1:=by
 induction x generalizing p1 with
 |nil=>
  cases p1 with
  |nil=>rfl
  |cons q p1=>
   simp only[List.nil_append,List.cons_append,List.cons.injEq]at h
   obtain⟨rfl,_⟩:=h
   exact absurd (by simp) (List.nodup_cons.1 hn).1
 |cons c x ih=>
  cases p1 with
  |nil=>
   simp only[List.nil_append,List.cons_append,List.cons.injEq]at h
   obtain⟨rfl,h2⟩:=h
   rw[←h2]at hn
   exact absurd (by simp) (List.nodup_cons.1 hn).1
  |cons q p1=>
   simp only[List.cons_append,List.cons.injEq]at h
   obtain⟨rfl,h2⟩:=h
   rw[ih (List.nodup_cons.1 hn).2 h2]
theorem Hi{bg:Array Bool}(hB:qE l fs A [] [] ord=true)(ie: ∀j,j<l.length→j∈ord)(inv:HeadInv .any l.toArray l.length bg): ∀(k:Nat) (o:Oper),l[k]? =some o→(∀e∈o.after,Region.binds .any e=true→bg.getD e.on false=true)→
  ∀f∈A.getD k [],bg.getD f false=true:=by
 intro k
 induction k using Nat.strongRecOn with
 |_ k ih=>
  intro o mz hd f hf
  obtain⟨x,y,hx⟩:=List.append_of_mem (ie k (List.getElem?_eq_some_iff.1 mz).1)
  obtain⟨o',oH,b0,-⟩:=rO ord [] [] hB x k y hx
  have:o'=o:=by rw[mz]at oH;exact(Option.some.inj oH).symm
  subst this
  obtain⟨e,he,hb,h⟩:=b0.cert f hf
  have hl:=hd e he hb
  rcases h with rfl|h
  ·
   exact hl
  ·
   have bo:=b0.back e he hb
   have zL:e.on<l.length:=by have:=(List.getElem?_eq_some_iff.1 mz).1;omega
   exact ih e.on bo l[e.on] (by simp[zL]) (inv.closed e.on _ (by simp[zL]) hl) f h
theorem zM{bg:Array Bool}{i:Nat}(hi:i<bg.size)(h:bg.getD i false=true):bg.getD i true=true:=by
 simp[hi]at h⊢;exact h
theorem zN(hB:qE l fs A [] [] ord=true)(ck:ord.Nodup)(bo: ∀j∈ord,j<l.length)(ie: ∀j,j<l.length→j∈ord)(uX: ∀k,k<l.length→fs.contains k=false→fs.contains (k+2000)=false):
  ∀(m:Nat) (pre fT:List Nat) (af:Act) (L Lq:List aj) (E:List (Nat×aj)) (bg:Array Bool) (a:Act) (w:World),left l.length bg=m→Core P l fs mk Q w0 ord a0 pre fT af L Lq E bg a w→wpAny P .any l.toArray Q m bg a w
 |0,Cy,Cz,CA,L0,Lq,E0,bg,a,w,hm,H0=>by
  obtain⟨pre,fT,af,L,E,H,CB⟩:=zJ hB ck bo Cz Cy CA H0
  have hH: ∀j,j<l.length→bg.getD j true=true:=fun j hj=>by
   cases h:bg.getD j true with
   |true=>rfl
   |false=>
    have:j∈(List.range l.length).filter fun i=> !bg.getD i true:=List.mem_filter.2 ⟨List.mem_range.2 hj,by rw[h];rfl⟩
    rw[List.length_eq_zero_iff.1 hm]at this
    cases this
  have hr:Region.ready .any l.toArray bg=[]:=by
   refine List.eq_nil_iff_forall_not_mem.2 fun i hi=> ?_
   obtain⟨h1,o,h2,_⟩:=mem_ready.1 hi
   rw[hH i (by have:=(Array.getElem?_eq_some_iff.1 h2).1;simpa using this)]at h1;cases h1
  have CC:fT=[]:=by
   rcases CB with h|⟨k,r,hs,_,hE⟩
   ·
    exact h
   ·
    exfalso
    have hk:k∈ord:=by rw[H.ord,hs];simp
    rcases H.sub k (bo k hk) (hH k (bo k hk))with this|this
    ·
     have mB:=ck
     rw[H.ord,hs]at mB
     exact absurd rfl ((List.nodup_append.1 mB).2.2 k this k (by simp))
    ·
     exact hE this
  have hE:E=[]:=List.eq_nil_iff_forall_not_mem.2 fun e he=>by
   have:=(H.nc e he).1
   rw[CC]at this;cases this
  have uW:=H.tn
  rw[CC]at uW
  have CD:=H.ord
  rw[CC,List.append_nil]at CD
  have e1:a=af:=by
   have:a.tmps=af.tmps:=by
    apply Array.ext_getElem?
    intro d
    by_cases hw: ∃j,j<l.length∧dq l j=some d
    ·
     obtain⟨j,hj,hd⟩:=hw
     exact H.done j d hj (hH j hj) (by rw[←CD];exact ie j hj) hd
    ·
     have h1: ∀j,j<l.length→dq l j≠some d:=fun j hj hd=>hw ⟨j,hj,hd⟩
     rw[H.rest d fun j hj _=>h1 j hj,H.full d fun j hj=>h1 j (bo j (by rw[CD];exact hj))]
   have h2:a.defers=af.defers:=by rw[H.defers,H.pB]
   cases a;cases af
   simp_all
  subst e1
  have zO:=H.mem
  rw[hE]at zO
  exact⟨hr,uW w (by simpa using zO)⟩
 |m+1,Cy,Cz,CA,L0,Lq,E0,bg,a,w,hm,H0=>by
  obtain⟨pre,fT,af,L,E,H,CB⟩:=zJ hB ck bo Cz Cy CA H0
  have Hj:Mem w0 L w:=H.mem.sub (List.sublist_append_right _ _)
  obtain⟨i0,wG,y7,wH⟩: ∃i,i<l.length∧bg.getD i true=false∧ ∀j,j<i→bg.getD j true=true:=by
   have cD: ∃i,i<l.length∧bg.getD i true=false:=by
    cases hf:(List.range l.length).filter fun i=> !bg.getD i true with
    |nil=>rw[left,hf]at hm;cases hm
    |cons i r=>
     have:i∈(List.range l.length).filter fun i=> !bg.getD i true:=by rw[hf];simp
     obtain⟨h1,h2⟩:=List.mem_filter.1 this
     exact⟨i,List.mem_range.1 h1,by simpa using h2⟩
   obtain⟨i,h1,h2⟩:=cD
   induction i using Nat.strongRecOn with
   |_ i ih=>
    by_cases h: ∃j,j<i∧bg.getD j true=false
    ·
     obtain⟨j,hj,dt⟩:=h
     exact ih j hj (by omega) dt
    ·
     refine⟨i,h1,h2,fun j hj=> ?_⟩
     cases hh:bg.getD j true with
     |true=>rfl
     |false=>exact absurd ⟨j,hj,hh⟩ h
  have eP:bg.size=l.length:=by simpa using H.inv.size
  have ok: ∀k,k<l.length→ ∃x y o,ord=x++k::y∧l[k]? =some o∧Cr l fs A (x.reverse++[]) ((x.filter fun j=>fs.contains j).reverse++[]) k o:=fun k hk=>by
   obtain⟨x,y,hx⟩:=List.append_of_mem (ie k hk)
   obtain⟨o,ho,b0,-⟩:=rO ord [] [] hB x k y hx
   exact⟨x,y,o,hx,ho,b0⟩
  have wI:i0∈Region.ready .any l.toArray bg:=by
   obtain⟨x,y,o,_,ho,b0⟩:=ok i0 wG
   refine mem_ready.2 ⟨y7,o,by simpa using ho,fun e he hb=> ?_⟩
   have h1:=b0.back e he hb
   have h2:=wH e.on h1
   have h3:e.on<bg.size:=by omega
   simp[h3]at h2⊢;exact h2
  refine⟨fun h=>(by rw[h]at wI;cases wI),fun i hi=> ?_⟩
  obtain⟨gy,o',mr,nG⟩:=mem_ready.1 hi
  have qF:i<l.length:=by have:=(Array.getElem?_eq_some_iff.1 mr).1;simpa using this
  obtain⟨x,y,o,hx,ho,b0⟩:=ok i qF
  have:o'=o:=by simpa[ho]using mr.symm
  subst this
  have pC:left l.length (bg.setIfInBounds i true)=m:=by have:=Gb qF gy;omega
  have jJ:dq l i=o'.dst:=by simp[dq,ho]
  have fU: ∀j,j≠i→(bg.setIfInBounds i true).getD j true=bg.getD j true:=fun j cr=>getD_set_ne true (Ne.symm cr)
  have mW:(bg.setIfInBounds i true).getD i true=true:=by simp[show i<bg.size by omega]
  have pO: ∀j d,j<l.length→dq l j=some d→j≠i→o'.dst≠some d:=b0.one
  have Hk:(∀j∈x,j∈pre)→ ∀t∈o'.looksAt l.toArray,a.tmps[t]? =af.tmps[t]? :=fun gV t ht=>by
   by_cases hw: ∃j,j<l.length∧dq l j=some t
   ·
    obtain⟨j,hj,hd⟩:=hw
    obtain⟨nE,e,he,hb,fH⟩:=b0.reads j t hj hd ht
    have hl:=nG e he hb
    rw[fH]at hl
    rw[List.append_nil,List.mem_reverse]at nE
    exact H.done j t hj (zM (by omega) hl) (gV j nE) hd
   ·
    have h1: ∀j,j<l.length→dq l j≠some t:=fun j hj hd=>hw ⟨j,hj,hd⟩
    rw[H.rest t fun j hj _=>h1 j hj,H.full t fun j hj=>h1 j (bo j (by rw[H.ord];exact List.mem_append_left _ hj))]
  by_cases oI:i∈pre
  ·
   have gV: ∀j∈x,j∈pre:=fun j hj=>by
    obtain⟨p1,p2,hp⟩:=List.append_of_mem oI
    have h1:=H.ord
    rw[hp,hx,List.append_assoc,List.cons_append]at h1
    have xo:=ck
    rw[hx]at xo
    have h2:x=p1:=Hh (h1▸xo) h1
    rw[hp,←h2];exact List.mem_append_left _ hj
   obtain⟨ee,ew⟩:=xm b0.ru (Hk gV)
   obtain⟨op,v,dv,Oq,zP,Ot⟩:=H.rP i oI gy
   have:op=o':=by rw[ho]at dv;exact(Option.some.inj dv).symm
   subst this
   have iI:fs.contains i=false:=by
    cases h:fs.contains i with
    |false=>rfl
    |true=>have:=H.fresh i oI h;rw[gy]at this;cases this
   have next: ∀w',Mem w [] w'→wpAny P .any l.toArray Q m (bg.setIfInBounds i true) (a.put op.dst v) w':=fun w' fS=>by
    refine zN hB ck bo ie uX m pre fT af L Lq E _ _ w' pC ⟨H.ord,H.inv.set hi qF,by simpa using H.mem.call fS,fun e he=> ?_,H.keys,H.uU,H.tn,by rw[py];exact H.size,H.nF,by rw[pz];exact H.defers,H.pB,fun j hj hl=> ?_,fun j hj hf=> ?_,fun j hj hl=> ?_,fun j d hj hl pN hd=> ?_,fun d hd=> ?_,H.full⟩
    ·
     obtain⟨g1,g2,g3,g4,oe,b,g5,g7,g8⟩:=H.nc e he
     have xp:e.1≠i:=fun e2=>by
      have mB:=ck
      rw[H.ord]at mB
      exact(List.nodup_append.1 mB).2.2 i oI e.1 g1 e2.symm
     refine⟨g1,by rw[fU _ xp];exact g2,g3,g4,oe,b,g5,g7,fun d hd=> ?_⟩
     have:=g8 d hd
     unfold my at this⊢
     rw[iH _ _ _ _ (pO e.1 d (List.getElem?_eq_some_iff.1 g5).1 (by simp[dq,g5,hd]) xp)]
     exact this
    ·
     by_cases cr:j=i
     ·
      subst cr;exact .inl oI
     ·
      exact H.sub j hj (by rw[←fU j cr];exact hl)
    ·
     rw[fU j (fun e=>by subst e;rw[iI]at hf;cases hf)];exact H.fresh j hj hf
    ·
     exact H.rP j hj (by rw[←fU j (fun e=>by subst e;rw[mW]at hl;cases hl)];exact hl)
    ·
     by_cases cr:j=i
     ·
      subst cr
      rw[jJ]at hd
      have h2:=Oq d hd
      rw[hd]
      have h3:my a0.tmps.size d v (a.put (some d) v):=uT H.size
      unfold my at h2 h3
      rw[h2,h3]
     ·
      rw[fU j cr]at hl
      rw[iH _ _ _ _ (pO j d hj hd cr)]
      exact H.done j d hj hl pN hd
    ·
     have h1:op.dst≠some d:=by
      have:=hd i qF mW
      rwa [jJ]at this
     rw[iH _ _ _ _ h1]
     refine H.rest d fun j hj hl=> ?_
     by_cases cr:j=i
     ·
      subst cr;rw[jJ];exact h1
     ·
      exact hd j hj (by rw[fU j cr];exact hl)
   unfold wpOp
   simp only[mr]
   rw[ew]
   split
   ·
    rename_i nH
    have h1:=zP nH w (by
     split
     ·
      exact Hj
     ·
      exact H.uU w Hj)
    refine .inl ?_
    unfold Oper.wp
    rw[ee]
    unfold Oper.quietAt at h1
    generalize(execOp af.eval op).run P w=r at h1
    unfold Oper.quietUpon at h1
    split at h1
    ·
     obtain⟨rfl,rfl⟩:=h1;exact next _ (Mem.init _)
    ·
     obtain⟨rfl,e⟩:=h1;rw[e]at next;exact next _ (Mem.init _)
    ·
     obtain⟨rfl,qt⟩:=h1
     exact qt.mono fun e mU ⟨he,hm⟩=>by subst he;exact next _ hm
    ·
     exact h1.elim
   ·
    rename_i nH
    have:=Ot (by simpa using nH)
    rw[this]at next
    exact next w (Mem.init _)
  ·
   have CE:i∈fT:=by
    have:=ie i qF
    rw[H.ord]at this
    exact(List.mem_append.1 this).resolve_left oI
   rcases CB with rfl|⟨f,r,rfl,xq,xr⟩
   ·
    cases CE
   have Ou: ∀(v:Value) (j d:Nat),j<l.length→(bg.setIfInBounds i true).getD j true=true→j∈pre→dq l j=some d→(a.put o'.dst v).tmps[d]? =af.tmps[d]? :=fun v j d hj hl pN hd=>by
    have cr:j≠i:=fun e=>oI (e▸pN)
    rw[fU j cr]at hl
    rw[iH _ _ _ _ (pO j d hj hd cr)]
    exact H.done j d hj hl pN hd
   have zQ: ∀(v:Value) (d:Nat),(∀j,j<l.length→(bg.setIfInBounds i true).getD j true=true→dq l j≠some d)→(a.put o'.dst v).tmps[d]? =a0.tmps[d]? :=fun v d hd=>by
    have h1:o'.dst≠some d:=by
     have:=hd i qF mW
     rwa [jJ]at this
    rw[iH _ _ _ _ h1]
    refine H.rest d fun j hj hl=> ?_
    by_cases cr:j=i
    ·
     subst cr;rw[jJ];exact h1
    ·
     exact hd j hj (by rw[fU j cr];exact hl)
   have CF:i∉E.map (·.1):=fun h=>by
    obtain⟨e,he,rfl⟩:=List.mem_map.1 h
    have:=(H.nc e he).2.1
    rw[gy]at this;cases this
   have Hl: ∀(v:Value),∀e∈E,Early l fs mk a0.tmps.size (f::r) (bg.setIfInBounds i true) (a.put o'.dst v) e:=fun v e he=>by
    obtain⟨g1,g2,g3,g4,oe,b,g5,g7,g8⟩:=H.nc e he
    have xp:e.1≠i:=fun e2=>CF (e2▸List.mem_map_of_mem he)
    refine⟨g1,by rw[fU _ xp];exact g2,g3,g4,oe,b,g5,g7,fun d hd=> ?_⟩
    have:=g8 d hd
    unfold my at this⊢
    rw[iH _ _ _ _ (pO e.1 d (List.getElem?_eq_some_iff.1 g5).1 (by simp[dq,g5,hd]) xp)]
    exact this
   by_cases Hm:i=f
   ·
    subst Hm
    have gV: ∀j∈x,j∈pre:=fun j hj=>by
     have h1:=H.ord
     rw[hx]at h1
     have xo:=ck
     rw[hx]at xo
     have h2:x=pre:=Hh (h1▸xo) h1
     rw[←h2];exact hj
    obtain⟨ee,ew⟩:=xm b0.ru (Hk gV)
    obtain⟨of,nI,hl⟩:=H.tn
    have:of=o':=by rw[ho]at nI;exact(Option.some.inj nI).symm
    subst this
    rw[if_pos xq]at hl
    replace hl:=hl.2
    have next: ∀v w' E' L' ft,E'=E→(∀e∈E,e.1∈r)→Mem w0 (E'.map (·.2)++L') w'→(∀w,Mem w0 L' w→Mem w0 ft w)→(∀w,Mem w0 ft w→Mem w0 Lq w)→(fs.contains (i+2000)=true∨fs.contains (i+5000)=true→ ∀w,Mem w0 L' w→Mem w0 L w)→oG P l fs mk Q w0 r (af.put of.dst v) L' ft→wpAny P .any l.toArray Q m (bg.setIfInBounds i true) (a.put of.dst v) w':=fun v w' E' L' ft tq tr g1 g2 g3 Hn g4=>by
     subst tq
     refine zN hB ck bo ie uX m (pre++[i]) r (af.put of.dst v) L' ft E' _ _ w' pC ⟨by rw[H.ord];simp,H.inv.set hi qF,g1,fun e he=> ?_,H.keys,g2,g4,by rw[py];exact H.size,by rw[py];exact H.nF,by rw[pz];exact H.defers,by rw[pz];exact H.pB,fun j hj kZ=> ?_,fun j hj hf=> ?_,fun j hj kZ=> ?_,fun j d hj kZ pN hd=> ?_,zQ v,fun d hd=> ?_⟩
     ·
      obtain⟨Y2,Ov⟩:=Hl v e he
      exact⟨tr e he,Ov⟩
     ·
      by_cases cr:j=i
      ·
       subst cr;exact .inl (by simp)
      ·
       exact(H.sub j hj (by rw[←fU j cr];exact kZ)).imp_left fun h=>List.mem_append_left _ h
     ·
      rcases List.mem_append.1 hj with h|h
      ·
       by_cases cr:j=i
       ·
        subst cr;exact mW
       ·
        rw[fU j cr];exact H.fresh j h hf
      ·
       obtain rfl:=List.mem_singleton.1 h;exact mW
     ·
      rcases List.mem_append.1 hj with h|h
      ·
       have cr:j≠i:=fun e=>oI (e▸h)
       cases tp:fs.contains (j+1000)with
       |true=>
        cases nf:fs.contains (i+2000)with
        |true=>
         have hp:=H.rP j h (by rw[←fU j cr];exact kZ)
         rw[tp]at hp
         simp only[if_true]at hp⊢
         exact uV hB ck bo H.ord ho h (Hn (.inl nf)) hp
        |false=>
         cases h5:fs.contains (i+5000)with
         |true=>
          have hp:=H.rP j h (by rw[←fU j cr];exact kZ)
          rw[tp]at hp
          simp only[if_true]at hp⊢
          exact uV hB ck bo H.ord ho h (Hn (.inr h5)) hp
         |false=>
          exfalso
          obtain⟨oi,ry,zR,-⟩:=rO ord [] [] hB pre i r H.ord
          have e1:oi=of:=by rw[ho]at ry;exact(Option.some.inj ry).symm
          subst e1
          have Ow:=zR.tmp xq nf h5 j (by rw[List.append_nil,List.mem_reverse];exact h) tp
          have iG:=Hi hB ie H.inv i oi ho nG j Ow
          have Ox:j∈ord:=by rw[H.ord];exact List.mem_append_left _ h
          have:=zM (by have:=bo j Ox;omega) iG
          rw[fU j cr]at kZ
          rw[this]at kZ;cases kZ
       |false=>
        have hp:=H.rP j h (by rw[←fU j cr];exact kZ)
        rw[tp]at hp
        simp only[Bool.false_eq_true,if_false]at hp⊢
        exact uV hB ck bo H.ord ho h g3 hp
      ·
       obtain rfl:=List.mem_singleton.1 h
       rw[mW]at kZ;cases kZ
     ·
      rcases List.mem_append.1 pN with h|h
      ·
       have cr:j≠i:=fun e=>oI (e▸h)
       rw[iH _ _ _ _ (pO j d hj hd cr),iH _ _ _ _ (pO j d hj hd cr)]
       rw[fU j cr]at kZ
       exact H.done j d hj kZ h hd
      ·
       obtain rfl:=List.mem_singleton.1 h
       rw[jJ]at hd
       rw[hd]
       have h3:my a0.tmps.size d v (a.put (some d) v):=uT H.size
       have h4:my a0.tmps.size d v (af.put (some d) v):=uT H.nF
       unfold my at h3 h4
       rw[h3,h4]
     ·
      have h1:of.dst≠some d:=by
       have:=hd i (by simp)
       rwa [jJ]at this
      rw[iH _ _ _ _ h1]
      exact H.full d fun j hj=>hd j (List.mem_append_left _ hj)
    have tr: ∀e∈E,e.1∈r:=fun e he=>by
     have:=(H.nc e he).1
     exact(List.mem_cons.1 this).resolve_left fun e2=>CF (e2▸List.mem_map_of_mem he)
    cases nf:fs.contains (i+2000)with
    |true=>
     rw[if_pos nf]at hl
     obtain⟨hg,CG,uW⟩:=hl
     obtain⟨mx,w',fm,CH⟩:=CG w0 w (E.map (·.2)++L) H.mem
     unfold wpOp
     simp only[mr]
     rw[if_pos (by simp[Region.wanted,hg])]
     refine .inl ?_
     unfold Oper.wp
     rw[ee,fm]
     refine next _ _ E ((mk i).e mx::L) Lq rfl tr ?_ (fun w hw=>H.uU w (hw.sub (List.sublist_cons_self _ _))) (fun _ h=>h) (fun _ w hw=>hw.sub (List.sublist_cons_self _ _)) (uW _)
     exact CH.perm (List.perm_middle.symm)
    |false=>
     rw[if_neg (by rw[nf];exact Bool.false_ne_true)]at hl
     obtain⟨hg,fm,Oy⟩:=hl
     have zS:E=[]∨ ∃x,E=[x]∧fs.contains (i+4000)=true:=by
      obtain⟨oi,ry,zR,Oz⟩:=rO ord [] [] hB pre i r H.ord
      rcases Oz xq nf with h|⟨h4,h5⟩
      ·
       refine .inl (List.eq_nil_iff_forall_not_mem.2 fun e he=> ?_)
       have h1:=h e.1 (tr e he)
       rw[(H.nc e he).2.2.2.1]at h1;cases h1
      ·
       rcases tq:E with _|⟨x,_|⟨y,E'⟩⟩
       ·
        exact .inl rfl
       ·
        exact .inr ⟨x,rfl,h4⟩
       ·
        exfalso
        have m1:x.1∈r.filter fun j=>fs.contains (j+2000):=List.mem_filter.2 ⟨tr x (by rw[tq];simp),(H.nc x (by rw[tq];simp)).2.2.2.1⟩
        have m2:y.1∈r.filter fun j=>fs.contains (j+2000):=List.mem_filter.2 ⟨tr y (by rw[tq];simp),(H.nc y (by rw[tq];simp)).2.2.2.1⟩
        have Ho:=H.keys
        rw[tq]at Ho
        have cD:x.1≠y.1:=fun e=>(List.nodup_cons.1 Ho).1 (by simp[e])
        rcases dN:(r.filter fun j=>fs.contains (j+2000))with _|⟨z,_|⟨z2,fl⟩⟩
        ·
         rw[dN]at m1;cases m1
        ·
         rw[dN,List.mem_singleton]at m1 m2
         exact cD (m1.trans m2.symm)
        ·
         rw[dN]at h5;simp at h5
     have h1:upon P w (fun v w'=> ∃L' ft,Mem w0 (E.map (·.2)++L') w'∧(∀w,Mem w0 L' w→Mem w0 ft w)∧(∀w,Mem w0 ft w→Mem w0 Lq w)∧(fs.contains (i+5000)=true→ ∀w,Mem w0 L' w→Mem w0 L w)∧oG P l fs mk Q w0 r (af.put of.dst v) L' ft) ((execOp af.eval of).run P w):=by
      have xt:=H.mem
      rcases zS with hE|⟨x,hE,h4⟩
      ·
       rw[hE]at xt⊢
       exact fm w (by simpa using xt)
      ·
       rw[hE]at xt⊢
       exact Oy h4 x.2 w (by simpa using xt)
     have CI: ∀v w',(∃L' ft,Mem w0 (E.map (·.2)++L') w'∧(∀w,Mem w0 L' w→Mem w0 ft w)∧(∀w,Mem w0 ft w→Mem w0 Lq w)∧(fs.contains (i+5000)=true→ ∀w,Mem w0 L' w→Mem w0 L w)∧oG P l fs mk Q w0 r (af.put of.dst v) L' ft)→wpAny P .any l.toArray Q m (bg.setIfInBounds i true) (a.put of.dst v) w':=fun v w' ⟨L',ft,g1,g2,g3,g5,g4⟩=>
      next v w' E L' ft rfl tr g1 g2 g3 (fun h=>h.elim (fun h=>by rw[nf]at h;cases h) g5) g4
     unfold wpOp
     simp only[mr]
     rw[if_pos (by rw[ew];exact hg)]
     refine .inl ?_
     unfold Oper.wp
     rw[ee]
     generalize(execOp af.eval of).run P w=r' at h1
     unfold upon at h1
     split at h1
     ·
      exact CI _ _ h1
     ·
      exact CI _ _ h1
     ·
      obtain⟨rfl,qt⟩:=h1
      exact qt.mono fun e mU ⟨u,he,hR⟩=>by subst he;exact CI u _ hR
     ·
      exact h1.elim
   ·
    have wJ:i∈r:=(List.mem_cons.1 CE).resolve_left Hm
    cases nf:fs.contains (i+2000)with
    |false=>
     exfalso
     obtain⟨r1,r2,rfl⟩:=List.append_of_mem wJ
     have CJ:ord=(pre++f::r1)++i::r2:=by rw[H.ord];simp
     obtain⟨oi,ry,zR,-⟩:=rO ord [] [] hB _ i r2 CJ
     have e1:oi=o':=by rw[ho]at ry;exact(Option.some.inj ry).symm
     subst e1
     have xu:=zR.Oe nf f (by
      rw[List.append_nil,List.mem_reverse,List.mem_filter]
      exact⟨by simp,xq⟩)
     have dN:=Hi hB ie H.inv i oi ho nG f xu
     have ow:f∈ord:=by rw[H.ord];simp
     rcases H.sub f (bo f ow) (zM (by have:=bo f ow;omega) dN)with sM|sM
     ·
      have mB:=ck
      rw[H.ord]at mB
      exact(List.nodup_append.1 mB).2.2 f sM f (by simp) rfl
     ·
      exact xr sM
    |true=>
     obtain⟨of,nI,hl⟩:=H.tn
     rw[if_pos xq]at hl
     obtain⟨oa,Hp,OA,CG⟩:=hl.1 i wJ nf
     have e1:oa=o':=by rw[ho]at Hp;exact(Option.some.inj Hp).symm
     subst e1
     have OB: ∀t∈oa.looksAt l.toArray,a.tmps[t]? =af.tmps[t]? :=fun t ht=>by
      by_cases hw: ∃j,j<l.length∧dq l j=some t
      ·
       obtain⟨j,hj,hd⟩:=hw
       obtain⟨_,e,he,hb,fH⟩:=b0.reads j t hj hd ht
       have kZ:=nG e he hb
       rw[fH]at kZ
       have Hq:=zM (by omega) kZ
       rcases H.sub j hj Hq with hp|hp
       ·
        exact H.done j t hj Hq hp hd
       ·
        obtain⟨e2,xv,rfl⟩:=List.mem_map.1 hp
        have g3:=(H.nc e2 xv).2.2.1
        rw[b0.Of nf e2.1 t hj hd ht]at g3;cases g3
      ·
       have h1: ∀j,j<l.length→dq l j≠some t:=fun j hj hd=>hw ⟨j,hj,hd⟩
       rw[H.rest t fun j hj _=>h1 j hj,H.full t fun j hj=>h1 j (bo j (by rw[H.ord];exact List.mem_append_left _ hj))]
     obtain⟨ee,_⟩:=xm b0.ru OB
     obtain⟨mx,w',fm,CH⟩:=CG w0 w (E.map (·.2)++L) H.mem
     have iI:fs.contains i=true:=by
      cases iI:fs.contains i with
      |true=>rfl
      |false=>
       exfalso
       obtain⟨r1,r2,rfl⟩:=List.append_of_mem wJ
       exact absurd nf (by rw[uX i qF iI];exact Bool.false_ne_true)
     unfold wpOp
     simp only[mr]
     rw[if_pos (by simp[Region.wanted,OA])]
     refine .inl ?_
     unfold Oper.wp
     rw[ee,fm]
     refine zN hB ck bo ie uX m pre (f::r) af L Lq ((i,(mk i).e mx)::E) _ _ _ pC ⟨H.ord,H.inv.set hi qF,CH,fun e he=> ?_,List.nodup_cons.2 ⟨CF,H.keys⟩,H.uU,H.tn,by rw[py];exact H.size,H.nF,by rw[pz];exact H.defers,H.pB,fun j hj hl=> ?_,fun j hj hf=> ?_,fun j hj hl=> ?_,Ou _,zQ _,H.full⟩
     ·
      rcases List.mem_cons.1 he with rfl|he
      ·
       exact⟨CE,mW,iI,nf,oa,mx,ho,rfl,fun d hd=>by rw[hd];exact uT H.size⟩
      ·
       exact Hl _ e he
     ·
      by_cases cr:j=i
      ·
       subst cr;exact .inr (by simp)
      ·
       exact(H.sub j hj (by rw[←fU j cr];exact hl)).imp_right fun h=>List.mem_cons_of_mem _ h
     ·
      have cr:j≠i:=fun e=>oI (e▸hj)
      rw[fU j cr];exact H.fresh j hj hf
     ·
      have cr:j≠i:=fun e=>oI (e▸hj)
      exact H.rP j hj (by rw[←fU j cr];exact hl)
theorem Hr{id:Nat}{ro:Option Nat}[jn Q]{a:Act}{w:World}{L Lq:List aj}(A:List (List Nat))(ord:List Nat)(ck:mT l=true)(hm:P.follows .mixedOrders=true)(hB:zI l fs A ord=true)(hC:Mem w0 L {w with drawn:=w.drawn+1})(lB: ∀w,Mem w0 L w→Mem w0 Lq w)
  (uX: ∀k,k<l.length→fs.contains k=false→fs.contains (k+2000)=false)
  (h:oG P l fs mk Q w0 ord a L Lq):(Code.region id l.toArray true).wpIn (kl ro) 0 P Q a w:=by
 simp only[zI,Bool.and_eq_true,decide_eq_true_eq]at hB
 obtain⟨⟨⟨h1,h2⟩,h3⟩,h4⟩:=hB
 have ie: ∀j,j<l.length→j∈ord:=fun j hj=>by have:=List.all_eq_true.1 h1 j (List.mem_range.2 hj);simpa using this
 have bo: ∀j∈ord,j<l.length:=fun j hj=>by have:=List.all_eq_true.1 h3 j hj;simpa using this
 refine BL ck hm ?_
 have BS:HeadInv .any l.toArray l.length (Array.replicate l.toArray.size false):=
  ⟨by simp,fun j oj _ hl=>(by rw[getD_replicate_false]at hl;cases hl),fun t h1 h2=>by simp at h2;omega⟩
 have gy: ∀j,j<l.length→(Array.replicate l.toArray.size false).getD j true=false:=fun j hj=>by simp[hj]
 have pC:left l.length (Array.replicate l.toArray.size false)=l.length:=by
  unfold left
  rw[List.filter_eq_self.2 (fun j hj=> ?_),List.length_range]
  rw[gy j (List.mem_range.1 hj)];rfl
 have:=zN (P:=P) (Q:=Q) (w0:=w0) (a0:=a) h4 h2 bo ie uX l.length [] ord a L Lq [] (Array.replicate l.toArray.size false) a _ pC
  ⟨rfl,BS,hC,fun e he=>(by cases he),List.nodup_nil,lB,h,rfl,rfl,rfl,rfl,fun j hj hl=>(by rw[gy j hj]at hl;cases hl),fun j hj=>(by cases hj),fun j hj=>(by cases hj),fun j d hj hl=>(by rw[gy j hj]at hl;cases hl),fun _ _=>rfl,fun _ _=>rfl⟩
 simpa using this
theorem OC{id:Nat}{ro:Option Nat}[jn Q]{a:Act}{w:World}{L Lq:List aj}(A:List (List Nat))(ord:List Nat)(ck:mT l=true)(hm:P.follows .mixedOrders=true)(hB:zH l fs A ord=true)(hC:Mem w0 L {w with drawn:=w.drawn+1})(lB: ∀w,Mem w0 L w→Mem w0 Lq w)
  (h:oG P l fs mk Q w0 ord a L Lq):(Code.region id l.toArray true).wpIn (kl ro) 0 P Q a w:=by
 have h5: ∀k,fs.contains (k+2000)=false:=fun k=>by
  simp only[zH,Bool.and_eq_true]at hB
  cases hk:fs.contains (k+2000)with
  |false=>rfl
  |true=>
   have:=List.all_eq_true.1 hB.1.2 (k+2000) (by simpa using hk)
   have:=of_decide_eq_true this
   omega
 refine Hr A ord ck hm ?_ hC lB (fun k _ _=>h5 k) h
 simp only[zH,zI,Bool.and_eq_true]at hB⊢
 exact⟨hB.1.1,hB.2⟩
end
open Go.RowKit
section
variable {P:Program} {N:ct} {w0:World} {env:Env} {L R R1 R2:List aj} {Q:Exit→Act→World→Prop} {d:Option Tmp} {ty:TypeId} {ps:String} {af:Array Edge} {gd:Option (Nat×Bool)} {K:Value→List aj→Prop}
def gF(P:Program)(N:ct)(w0:World)(env:Env)(L:List aj)(o:Oper)(K:Value→List aj→Prop):Prop:=
 ∀a w,cU N env a→Mem w0 L w→upon P w (fun v w'=> ∃L',Mem w0 L' w'∧K v L') ((execOp a.eval o).run P w)
theorem rQ{o:Oper}(h: ∀a w,cU N env a→Mem w0 L w→ ∃v w' L',(execOp a.eval o).run P w= .ok (.value v) w'∧Mem w0 L' w'∧K v L'):gF P N w0 env L o K:=fun a w ha hw=>by
 obtain⟨v,w',L',h1,h2,h3⟩:=h a w ha hw
 rw[h1];exact⟨L',h2,h3⟩
theorem CK{o:Oper}(h: ∀a w,cU N env a→Mem w0 L w→ ∃w' L',(execOp a.eval o).run P w= .ok .skip w'∧Mem w0 L' w'∧K undef L'):gF P N w0 env L o K:=fun a w ha hw=>by
 obtain⟨w',L',h1,h2,h3⟩:=h a w ha hw
 rw[h1];exact⟨L',h2,h3⟩
theorem xw{w:World}{R R':Value→World→Prop}(h: ∀v w,R v w→R' v w){r:Result Next}(hr:upon P w R r):upon P w R' r:=by
 unfold upon at hr⊢
 split at hr
 ·
  exact h _ _ hr
 ·
  exact h _ _ hr
 ·
  exact⟨hr.1,hr.2.mono fun e mU ⟨v,he,hv⟩=>⟨v,he,h _ _ hv⟩⟩
 ·
  exact hr.elim
theorem Hs{o:Oper}{K':Value→List aj→Prop}(h:gF P N w0 env L o K')(hk: ∀v L',K' v L'→ ∃zT,(∀w,Mem w0 L' w→Mem w0 zT w)∧K v zT):gF P N w0 env L o K:=fun a w ha hw=>
 xw (fun v _ ⟨L',h1,h2⟩=>by obtain⟨zT,h3,h4⟩:=hk v L' h2;exact⟨zT,h3 _ h1,h4⟩) (h a w ha hw)
theorem mD{X:Type}{val:X→Value}{L':X→List aj}{pr:X→Prop}{pre:Prop}{f:FuncId}{xs:List Operand}{ts:Array TypeId}{vs:List Value}[hf:aR P f](hx:gz env xs=some vs)
  [hc:cc P f w0 L vs X val L' pr pre] (hp:pre) (hk: ∀x,pr x→K (val x) (L' x)):
  gF P N w0 env L ⟨d, .call {callee:= .value (.func f),args:=xs.toArray,argTypes:=ts},ty,ps,af,gd⟩ K:=fun a w ha hw=>by
 rw[ze hf w rfl,ha.gz hx]
 exact⟨rfl,(hc.h hp w hw).mono fun e w' ⟨x,he,gV,hm⟩=>⟨val x,he,L' x,hm,hk x gV⟩⟩
section
variable {α:Type} {enc:α→Array Value} {c:Nat} {s:Sv} {xs ys:List α}
theorem OD{t:TypeId}{z:Value}[hz:eI P t z](hk: ∀b,K ((.pointer (some ⟨b,0,none⟩))) ((ar b z.cells t::L))):
  gF P N w0 env L ⟨d, .alloc t,ty,ps,af,none⟩ K:=
 rQ fun a w ha hw=>⟨_,_,_,by simp only[execOp,Instr.alloc,newVar,newRow,Sem.run_bind,zb w hz,newObj,Sem.run,Result.andThen,Sem.run_pure];rfl,hw.alloc z.cells t,hk _⟩
theorem OE{t:TypeId}{cs:Array Value}[hz:eI P t (.agg cs)](hk: ∀b,K ((.pointer (some ⟨b,0,none⟩))) ((ar b cs t::L))):
  gF P N w0 env L ⟨d, .alloc t,ty,ps,af,none⟩ K:=OD (z:= .agg cs) hk
theorem uY{t:TypeId}{x y:Operand}{i b o:Nat}{cs:Array Value}{T:TypeId}{v:Value}(hx:ev env x=some (.pointer (some ⟨b,o,none⟩)))(hy:ev env y=some v)[ht:gh P t][hh:Has L b cs T i](ho:o<cs.size)(hv:v.oneCell'=true){cs':Array Value}{L':List aj}(fV:cs.setIfInBounds o v=cs')[hu:eQ L i (ar b cs' T) L'](hk:K undef (L')):
  gF P N w0 env L ⟨none, .store t x y,ty,ps,af,none⟩ K:=
 CK fun a w ha hw=>by
  have hi:=hh.h
  have hb:=hw.block hi
  have hc:w.cell? ⟨b,o,none⟩=some cs[o]:=by rw[hw.cell hi];simp[ho]
  have hf:w.frozen? ⟨b,o,none⟩=false:=frozen_of_row w b o cs T hb
  subst fV
  refine⟨w.setCell ⟨b,o,none⟩ v,_,?_,?_,hk⟩
  ·
   have h1:(storeCells ⟨b,o,none⟩ [v]).run P w= .ok () (w.setCell ⟨b,o,none⟩ v):=by
    have:=run_storeCells_at (P:=P) b o T [v] 0 cs w hb (by simp;omega) (by simpa using hv)
    rw[this,setCell_eq_setRow w b o cs T (0,0) v hb]
    congr 2
    apply Array.ext'
    simp[List.set_eq_take_append_cons_drop,ho]
   have fV:v.cells= #[v]:=by cases v<;>simp_all[Value.oneCell',Value.cells]
   simp only[execOp,ha.ev hx,ha.ev hy,Instr.storeAt,Instr.sureAddr,storeVar,Sem.run_bind,Sem.run_pure,Result.andThen,jT w ht.size,fV]
   simp[h1]
  ·
   rw[setCell_eq_setRow w b o cs T (0,0) v hb]
   rw[←hu.h]
   exact hw.setRow hi _
theorem Ht{t:TypeId}{x y:Operand}{i b o n:Nat}{cs vs:Array Value}{T:TypeId}(hx:ev env x=some (.pointer (some ⟨b,o,none⟩)))(hy:ev env y=some (.agg vs))[ht:fc P t n][hh:Has L b cs T i][hs:fw vs n](ho:o+n≤cs.size){cs':Array Value}{L':List aj}(fV:cH cs o vs=cs')[hu:eQ L i (ar b cs' T) L'](hk:K undef (L')):
  gF P N w0 env L ⟨none, .store t x y,ty,ps,af,none⟩ K:=
 CK fun a w ha hw=>by
  have hi:=hh.h
  have hn:=hs.h
  have hv:=hs.one
  have hb:=hw.block hi
  subst fV
  refine⟨_,_,?_,by rw[←hu.h];exact hw.setRow hi _,hk⟩
  have h1:=run_storeCells_at (P:=P) b o T vs.toList 0 cs w hb (by simp;omega) (fun v jV=>(Array.all_eq_true_iff_forall_mem.1 hv) v (by simpa using jV))
  simp only[execOp,ha.ev hx,ha.ev hy,Instr.storeAt,Instr.sureAddr,storeVar,Value.cells,Sem.run_bind,Sem.run_pure,Result.andThen,jT w ht.size,hn]
  simp[h1,cH]
theorem ng{t:TypeId}{x y:Operand}{i b n:Nat}{cs vs:Array Value}{T:TypeId}(hx:ev env x=some (.pointer (some ⟨b,0,none⟩)))(hy:ev env y=some (.agg vs))[ht:fc P t n][hh:Has L b cs T i][hs:fw vs n][hc:fw cs n]{L':List aj}[hu:eQ L i (ar b vs T) L'](hk:K undef (L')):
  gF P N w0 env L ⟨none, .store t x y,ty,ps,af,none⟩ K:=by
 have hn:=hs.h
 have Ng:=hc.h
 refine Ht hx hy (by omega) (?_:cH cs 0 vs=vs) hk
 apply Array.ext'
 simp[cH];omega
theorem OF{x y:Operand}{tx fo e:TypeId}{i b o dl dc sl sc:Nat}{a:Addr}{cs vs:Array Value}{T:TypeId}(hx:ev env x=some (.slice (some ⟨b,o,none⟩) dl dc))(hy:ev env y=some (.slice (some a) sl sc))
  [ht:eu P tx e 1] [hh:Has L b cs T i] (hn:vs.size=Nat.min sl dl) (kF: ∀w,Mem w0 L w→ ∀j,j<vs.size→w.cell? (a.add j)=vs[j]?) (hv:vs.all (·.oneCell')=true) (ho:o+vs.size≤cs.size)
  {cs':Array Value} {L':List aj} (fV:cH cs o vs=cs') [hu:eQ L i (ar b cs' T) L'] (hk:K ((.int .i64 vs.size)) (L')):
  gF P N w0 env L ⟨d, .call {callee:= .builtin .copy,args:= #[x,y],argTypes:= #[tx,fo]},ty,ps,af,none⟩ K:=
 rQ fun aa w ha hw=>by
  have hi:=hh.h
  have hb:=hw.block hi
  subst fV
  have fm:=run_copy_row (P:=P) w tx fo ty e b o dl dc a sl sc cs T vs.toList ht.dL ht.size hb (by simpa using hn)
   (fun j v jV=>by
    have hj:j<vs.size:=by simpa using(List.getElem?_eq_some_iff.1 jV).1
    rw[kF w hw j hj];simpa using jV) (by simpa using ho) (fun v jV=>(Array.all_eq_true_iff_forall_mem.1 hv) v (by simpa using jV))
  refine⟨_,w.setRow b (cH cs o vs),_,?_,by rw[←hu.h];exact hw.setRow hi _,hk⟩
  simp[execOp,ha.ev hx,ha.ev hy,resolve,invoke,builtin,fm,Result.andThen,goInt,cH]
theorem OG{t tx e:TypeId}{x y:Operand}{yv:Value}{cC i:Nat}[ht:eK P t e c cC][he:bx enc c](hx:ev env x=some s.val)(hy:ev env y=some yv)[q:eY L s enc c xs i](hc:0<c)
  (hs: ∀w,Mem w0 L w→Src P c tx yv ys.length (aJ enc ys) w) (hb:(xs.length+ys.length)*cC≤140737488355328) (ij:xs.length+ys.length≤140737488355328) {L':Sv→List aj} [hu: ∀s',eQ L i (own enc c s' (xs++ys)) (L' s')]
  (hk: ∀s':Sv,s'.Ok→s'.len=(xs++ys).length→K (s'.val) ((L' s'))):
  gF P N w0 env L ⟨d, .call {callee:= .builtin .append,args:= #[x,y],argTypes:= #[t,tx]},ty,ps,af,none⟩ K:=
 rQ fun a w ha hw=>by
  obtain⟨s',w',h1,h2,h3,h4⟩:=Cb (ty:=ty) ht hc hw q.h (hs w hw) hb ij
  refine⟨s'.val,w',L' s',?_,by rw[←(hu s').h];exact h4,hk s' h2 h3⟩
  simp[execOp,ha.ev hx,ha.ev hy,resolve,invoke,builtin,h1,Result.andThen]
theorem Hu{t e:TypeId}{cC n:Nat}[ht:eK P t e c cC][he:bx enc c]{ops:List (Nat×Operand)}{vals:List Value}(xs:List α)(hx:jU env ops=some (idx vals 0))(hv:vals.map Value.cells=xs.map enc)(hn:xs.length=n)(hc:0<n*c)(qB:n*c≤16777216)
  (hk: ∀b,K ((Sv.val ⟨false,b,0,n,n,none⟩)) ((own enc c ⟨false,b,0,n,n,none⟩ xs::L))):
  gF P N w0 env L ⟨d, .buildSlice t n ops.toArray,ty,ps,af,none⟩ K:=
 rQ fun a w ha hw=>by
  subst hn
  have e1:(ops.toArray.map fun(p:Nat×Operand)=>match p with|(i,x)=>(i,a.eval x))=(idx vals 0).toArray:=by
   rw[←ha.jU hx];simp
  refine⟨_,_,_,?_,hw.call (uM (enc:=enc) (c:=c) (xs:=xs) (cs:=(aJ enc xs).toArray) (e:=e) rfl xs.length xs.length rfl (Nat.le_refl _) (Cc hc qB) (by simp[gm]) fun i x hx j hj=>by rw[←lI (enc:=enc) xs i x hx j hj];simp),hk _⟩
  simp only[execOp,e1,Sem.run_bind,Cd ht hv hc qB w,Result.andThen,Sem.run_pure];rfl
theorem Hv{t e:TypeId}{cC n cap:Nat}{z:Value}{x y:Operand}{k k':IntKind}{ix iy:Int}[ht:eK P t e c cC][hz:eI P e z](x0:α)(h0:enc x0=z.cells)(hx:ev env x=some (.int k ix))(hy:ev env y=some (.int k' iy))(ex:ix=(n:Int))(ey:iy=(cap:Int))(hle:n≤cap)(hb:cC*cap≤281474976710656)(ij:cap≤140737488355328)
  (hk: ∀b,K ((Sv.val ⟨false,b,0,n,cap,none⟩)) ((own enc c ⟨false,b,0,n,cap,none⟩ (List.replicate n x0)::L))):
  gF P N w0 env L ⟨d, .makeSlice t x y,ty,ps,af,none⟩ K:=
 rQ fun a w ha hw=>by
  subst ex ey
  obtain⟨w',h1,h2⟩:=Ce ht hz (k:=k) (k':=k') (n:=n) x0 h0 hle hb ij w
  exact⟨_,w',_,by simp only[execOp,ha.ev hx,ha.ev hy,Sem.run_bind,h1,Result.andThen,Sem.run_pure],hw.call h2,hk _⟩
theorem tt{t:TypeId}{x y:Operand}{i k j n p:Nat}{a a':α}{v:Value}(sz:(P.info? t).map (·.size)=some n)[he:bx enc c](hx:ev env x=some (.pointer (some ⟨s.b,p,none⟩)))(hy:ev env y=some v)[q:eY L s enc c xs i](gl:p=s.o+k*c+j)
  (ha:xs[k]? =some a) (hv:v.cells.all (·.oneCell')=true) (hn:v.cells.size=n) (hj:j+n≤c) (oz:cH (enc a) j v.cells=enc a') {L':List aj} [hu:eQ L i (own enc c s (xs.set k a')) L'] (hk:K undef (L')):
  gF P N w0 env L ⟨none, .store t x y,ty,ps,af,none⟩ K:=
 CK fun aa w wY hw=>by
  subst gl hn
  obtain⟨w',h1,h2⟩:=GG (P:=P) hw q ha hv hj oz hu
  refine⟨w',_,?_,h2,hk⟩
  simp only[execOp,wY.ev hx,wY.ev hy,Instr.storeAt,Instr.sureAddr,storeVar,Sem.run_bind,Sem.run_pure,Result.andThen,jT w sz]
  simp[h1]
theorem OH{P:Program}{N:ct}{w0:World}{env:Env}{L:List aj}{ty:TypeId}{ps:String}{af:Array Edge}{τ:Type}{t:TypeId}{x y:Operand}{i k p:Nat}{s:Sv}{xs:List (Sl τ)}{a:Sl τ}(a':Sl τ)
  (sz:(P.info? t).map (·.size)=some 1) (hx:ev env x=some (.pointer (some ⟨s.b,p,none⟩))) (hy:ev env y=some a'.sv.val) [q:eY L s (bT (τ:=τ)) 1 xs i] (gl:p=s.o+k*1) (ha:xs[k]? =some a) {L':List aj} [hu:eQ L i (own bT 1 s (xs.set k a')) L'] (hk:K undef (L')):
  gF P N w0 env L ⟨none, .store t x y,ty,ps,af,none⟩ K:=
 tt (j:=0) (a':=a') sz hx hy (q:=q) gl ha (by rw[Sv.iq];simp[Sv.one]) (by rw[Sv.iq];rfl) (by decide) (by rw[Sv.iq];rfl) hk
theorem OI{α:Type}{enc:α→Array Value}{x y:Operand}{tx fo e:TypeId}{i b o dl dc:Nat}{sv:Sv}{ys:List α}{cs:Array Value}{T:TypeId}(hx:ev env x=some (.slice (some ⟨b,o,none⟩) dl dc))(hy:ev env y=some sv.val)
  [ht:eu P tx e 1] [hh:Has L b cs T i] [q:Hd w0 L sv enc 1 ys] [he:bx enc 1] (h0:0<ys.length) (hl:ys.length≤dl) (ho:o+ys.length≤cs.size)
  {cs':Array Value} {L':List aj} (fV:cH cs o (aJ enc ys).toArray=cs') [hu:eQ L i (ar b cs' T) L'] (hk:K ((.int .i64 (ys.length:Nat))) (L')):
  gF P N w0 env L ⟨d, .call {callee:= .builtin .copy,args:= #[x,y],argTypes:= #[tx,fo]},ty,ps,af,none⟩ K:=fun a w ha hw=>by
 have r:=q.h w hw
 have hn:=r.some (i:=0) h0
 have hlen:=r.len
 rw[Sv.gC hn,r.ok.sp (by have:=r.ok.le;omega)]at hy
 have hs:(aJ enc ys).toArray.size=ys.length:=by rw[List.size_toArray,gm,Nat.mul_one]
 have jd:=hk
 rw[←hs]at jd
 refine OF (vs:=(aJ enc ys).toArray) hx hy ?_ (fun w hw j hj=> ?_) ?_ (by rw[hs];exact ho) fV jd a w ha hw
 ·
  rw[hs];simp only[Nat.min_def];split<;>omega
 ·
  rw[hs]at hj
  have:=lI (enc:=enc) ys j ys[j] (by simp[hj]) 0 (by decide)
  have r2:=(q.h w hw).row j ys[j] (by simp[hj]) 0 (by decide)
  simp only[Nat.mul_one,Nat.add_zero]at this r2
  rw[Addr.fI,pG,r2,←this];simp
 ·
  rw[Array.all_eq_true_iff_forall_mem];intro v hv;exact rI (enc:=enc) ys v (by simpa using hv)
end
section
variable {τ:Type} [dp:Deep τ] {enc:τ→Array Value} {c:Nat}
end
theorem Hw{l:List Oper}{rest:List Oper}{o:Oper}(hg:o.guard=none)(hd:c5 N o.dst=true)(h:gF P N w0 env L o (fun v L'=>Sq P N w0 l Q rest (cl env o.dst v) L')):Sq P N w0 l Q (o::rest) env L:=fun a w ha hw=>by
 unfold wpList
 rw[if_pos (oy hg)]
 refine .inl ?_
 have h1:=h a w ha hw
 unfold Oper.wp
 generalize(execOp a.eval o).run P w=r at h1
 unfold upon at h1
 split at h1
 ·
  obtain⟨L',h2,h3⟩:=h1;exact h3 _ _ (ha.put hd _) h2
 ·
  obtain⟨L',h2,h3⟩:=h1;exact h3 _ _ (ha.put hd _) h2
 ·
  obtain⟨rfl,hc⟩:=h1
  exact hc.mono fun e mU ⟨v,he,L',h2,h3⟩=>by subst he;exact h3 _ _ (ha.put hd _) h2
 ·
  exact h1.elim
end
section
variable {P:Program} {N:ct} {w0:World} {env:Env} {L Lq:List aj} {l:List Oper} {fs ord:List Nat} {mk:Nat→lL} {Q:Exit→Act→World→Prop} {k:Nat} {o:Oper}
def Ln(P:Program)(N:ct)(w0:World)(l:List Oper)(fs:List Nat)(mk:Nat→lL)(Q:Exit→Act→World→Prop)(ord:List Nat)(env:Env)(L Lq:List aj):Prop:= ∀a,cU N env a→oG P l fs mk Q w0 ord a L Lq
def Cert(P:Program)(N:ct)(env:Env)(l:List Oper)(fs:List Nat)(mk:Nat→lL)(ord:List Nat):Prop:=
 ∀i∈ord,fs.contains (i+2000)=true→ ∃oi,l[i]? =some oi∧oi.guard=none∧ ∀a,cU N env a→qD P oi a.eval (mk i)
theorem Cert.none(h:(ord.all fun i=> !fs.contains (i+2000))=true):Cert P N env l fs mk ord:=fun i hi hf=>by
 have:=List.all_eq_true.1 h i hi
 rw[hf]at this;cases this
theorem Cert.one{i:Nat}{m:lL}(ho:l[i]? =some o)(hg:o.guard=Option.none)(hm:mk i=m)(h: ∀a,cU N env a→qD P o a.eval m)(hr:Cert P N env l fs mk (ord.filter fun j=> !(j==i))):Cert P N env l fs mk ord:=fun j hj hf=>by
 by_cases e:j=i
 ·
  subst e
  exact⟨o,ho,hg,by rw[hm];exact h⟩
 ·
  exact hr j (List.mem_filter.2 ⟨hj,by simpa using e⟩) hf
theorem Cert.at(h:Cert P N env l fs mk ord){a:Act}(ha:cU N env a): ∀i∈ord,fs.contains (i+2000)=true→ ∃oi,l[i]? =some oi∧oi.guard=Option.none∧qD P oi a.eval (mk i):=fun i hi hf=>by
 obtain⟨oi,h1,h2,h3⟩:=h i hi hf
 exact⟨oi,h1,h2,h3 a ha⟩
theorem zU(h:Ex N w0 Q .normal env L):Ln P N w0 l fs mk Q [] env L Lq:=fun a ha w hw=>h a w ha hw
theorem Hx{v:Value}(ho:l[k]? =some o)(hf:fs.contains k=false)(hd:c5 N o.dst=true)(h1: ∀a,cU N env a→Region.wanted o (yielded l.toArray a.tmps)=true→qp P o a (Mem w0 Lq) v)(h2: ∀a,cU N env a→Region.wanted o (yielded l.toArray a.tmps)=false→v=undef)
  (hk:Ln P N w0 l fs mk Q ord (cl env o.dst v) L Lq) (jZ:fs.contains (k+1000)=false:=by rfl):Ln P N w0 l fs mk Q (k::ord) env L Lq:=fun a ha=>
 ⟨o,ho,by
  rw[if_neg (by rw[hf];exact Bool.false_ne_true)]
  exact⟨v,by rw[if_neg (by rw[jZ];exact Bool.false_ne_true)];exact h1 a ha,h2 a ha,hk _ (ha.put hd v)⟩⟩
theorem OJ{v:Value}(ho:l[k]? =some o)(h:Yl P N w0 env L o v)(hk:Ln P N w0 l fs mk Q ord (cl env o.dst v) L Lq)(hg:o.guard=none:=by rfl)(hd:c5 N o.dst=true:=by rfl)(hf:fs.contains k=false:=by rfl)(jZ:fs.contains (k+1000)=true:=by rfl):Ln P N w0 l fs mk Q (k::ord) env L Lq:=fun a ha=>
 ⟨o,ho,by
  rw[if_neg (by rw[hf];exact Bool.false_ne_true)]
  exact⟨v,fun _=>by rw[if_pos jZ];exact h a ha,(fun hw=>by rw[oy hg]at hw;cases hw),hk _ (ha.put hd v)⟩⟩
theorem jN{v:Value}(ho:l[k]? =some o)(h:Ry P N w0 env L o v)(hk:Ln P N w0 l fs mk Q ord (cl env o.dst v) L Lq)(hg:o.guard=none:=by rfl)(hd:c5 N o.dst=true:=by rfl)(hf:fs.contains k=false:=by rfl)(jZ:fs.contains (k+1000)=true:=by rfl):Ln P N w0 l fs mk Q (k::ord) env L Lq:=OJ ho h.yl hk hg hd hf jZ
theorem tu{v:Value}(ho:l[k]? =some o)(h:Yl P N w0 env Lq o v)(hk:Ln P N w0 l fs mk Q ord (cl env o.dst v) L Lq)(hg:o.guard=none:=by rfl)(hd:c5 N o.dst=true:=by rfl)(hf:fs.contains k=false:=by rfl)(jZ:fs.contains (k+1000)=false:=by rfl):Ln P N w0 l fs mk Q (k::ord) env L Lq:=
 Hx (jZ:=jZ) ho hf hd (fun a ha _=>h a ha) (fun a ha hw=>by rw[oy hg]at hw;cases hw) hk
theorem an{v:Value}(ho:l[k]? =some o)(h:Ry P N w0 env Lq o v)(hk:Ln P N w0 l fs mk Q ord (cl env o.dst v) L Lq)(hg:o.guard=none:=by rfl)(hd:c5 N o.dst=true:=by rfl)(hf:fs.contains k=false:=by rfl)(jZ:fs.contains (k+1000)=false:=by rfl):Ln P N w0 l fs mk Q (k::ord) env L Lq:=tu ho h.yl hk hg hd hf jZ
theorem Hy{v:Value}{j t:Nat}{g:Bool}(ho:l[k]? =some o)(hg:o.guard=some (j,false))(hj:(l[j]?).bind (·.dst)=some t)(hv:look env t=some (.bool g))(h:(!g)=true→Yl P N w0 env Lq o v)
  (hk:Ln P N w0 l fs mk Q ord (cl env o.dst (if(!g)=true then v else undef)) L Lq) (hd:c5 N o.dst=true:=by rfl) (hf:fs.contains k=false:=by rfl) (jZ:fs.contains (k+1000)=false:=by rfl):Ln P N w0 l fs mk Q (k::ord) env L Lq:=
 Hx (jZ:=jZ) ho hf hd (fun a ha hw=>by
  rw[s8 ha hg hj hv]at hw
  cases g
  ·
   exact h rfl a ha
  ·
   cases hw) (fun a ha hw=>by
  rw[s8 ha hg hj hv]at hw
  cases g
  ·
   cases hw
  ·
   rfl) hk
theorem OK(ho:l[k]? =some o)(h:gF P N w0 env L o fun v L'=> ∃ft,(∀w,Mem w0 L' w→Mem w0 ft w)∧(∀w,Mem w0 ft w→Mem w0 Lq w)∧Ln P N w0 l fs mk Q ord (cl env o.dst v) L' ft)(hg:o.guard=none:=by rfl)(hd:c5 N o.dst=true:=by rfl)(hf:fs.contains k=true:=by rfl)(pP:fs.contains (k+2000)=false:=by rfl)(uZ:fs.contains (k+4000)=false:=by rfl)(qG:fs.contains (k+5000)=false:=by rfl)(hC:Cert P N env l fs mk ord:=by exact Cert.none rfl):Ln P N w0 l fs mk Q (k::ord) env L Lq:=fun a ha=>
 ⟨o,ho,by
  rw[if_pos hf,if_neg (by rw[pP];exact Bool.false_ne_true)]
  exact⟨hC.at ha,oy hg,fun w hw=>xw (fun v w' ⟨L',h1,ft,h2,h3,h4⟩=>⟨L',ft,h1,h2,h3,(fun h=>by rw[qG]at h;cases h),h4 _ (ha.put hd v)⟩) (h a w ha hw),fun h=>by rw[uZ]at h;cases h⟩⟩
theorem Hz(ho:l[k]? =some o)(h:gF P N w0 env L o fun v L'=>(∀w,Mem w0 L' w→Mem w0 Lq w)∧(∀w,Mem w0 L' w→Mem w0 L w)∧Ln P N w0 l fs mk Q ord (cl env o.dst v) L' Lq)(hg:o.guard=none:=by rfl)(hd:c5 N o.dst=true:=by rfl)(hf:fs.contains k=true:=by rfl)(pP:fs.contains (k+2000)=false:=by rfl)(uZ:fs.contains (k+4000)=false:=by rfl)(hC:Cert P N env l fs mk ord:=by exact Cert.none rfl):Ln P N w0 l fs mk Q (k::ord) env L Lq:=fun a ha=>
 ⟨o,ho,by
  rw[if_pos hf,if_neg (by rw[pP];exact Bool.false_ne_true)]
  exact⟨hC.at ha,oy hg,fun w hw=>xw (fun v w' ⟨L',h1,h2,h3,h4⟩=>⟨L',Lq,h1,h2,fun _ h=>h,(fun _=>h3),h4 _ (ha.put hd v)⟩) (h a w ha hw),fun h=>by rw[uZ]at h;cases h⟩⟩
theorem OL(K:Value→List aj→Prop)(ho:l[k]? =some o)(h:gF P N w0 env L o K)(hF: ∀e,gF P N w0 env (e::L) o fun v L'=> ∃L1,(∀w,Mem w0 L' w→Mem w0 (e::L1) w)∧K v L1)(hk: ∀v L',K v L'→(∀w,Mem w0 L' w→Mem w0 Lq w)∧Ln P N w0 l fs mk Q ord (cl env o.dst v) L' Lq)(hC:Cert P N env l fs mk ord)(hg:o.guard=none:=by rfl)(hd:c5 N o.dst=true:=by rfl)(hf:fs.contains k=true:=by rfl)(pP:fs.contains (k+2000)=false:=by rfl)(qG:fs.contains (k+5000)=false:=by rfl):Ln P N w0 l fs mk Q (k::ord) env L Lq:=fun a ha=>
 ⟨o,ho,by
  rw[if_pos hf,if_neg (by rw[pP];exact Bool.false_ne_true)]
  exact⟨hC.at ha,oy hg,fun w hw=>xw (fun v w' ⟨L',h1,h2⟩=>⟨L',Lq,h1,(hk v L' h2).1,fun _ h=>h,(fun h=>by rw[qG]at h;cases h),(hk v L' h2).2 _ (ha.put hd v)⟩) (h a w ha hw),fun _ e w hw=>xw (fun v w' ⟨L',h1,L1,h2,h3⟩=>⟨L1,Lq,h2 _ h1,(hk v L1 h3).1,fun _ h=>h,(fun h=>by rw[qG]at h;cases h),(hk v L1 h3).2 _ (ha.put hd v)⟩) (hF e a w ha hw)⟩⟩
theorem qH{X:Type}{val:X→Value}{L':X→List aj}{L2:aj→X→List aj}{pr:X→Prop}{pre:Prop}{f:FuncId}{xs:List Operand}{ts:Array TypeId}{vs:List Value}{d:Option Tmp}{ty:TypeId}{ps:String}{af:Array Edge}[hf:aR P f](ho:l[k]? =some ⟨d, .call {callee:= .value (.func f),args:=xs.toArray,argTypes:=ts},ty,ps,af,none⟩)(hx:gz env xs=some vs)
  [hc:cc P f w0 L vs X val L' pr pre] [CL: ∀e,cc P f w0 (e::L) vs X val (L2 e) pr pre] (hp:pre) (hP: ∀e x w,Mem w0 (L2 e x) w→Mem w0 (e::L' x) w) (hC:Cert P N env l fs mk ord) (hk: ∀x,pr x→(∀w,Mem w0 (L' x) w→Mem w0 Lq w)∧Ln P N w0 l fs mk Q ord (cl env d (val x)) (L' x) Lq)
  (hd:c5 N d=true:=by rfl) (u2:fs.contains k=true:=by rfl) (pP:fs.contains (k+2000)=false:=by rfl) (qG:fs.contains (k+5000)=false:=by rfl):Ln P N w0 l fs mk Q (k::ord) env L Lq:=
 OL (fun v L1=> ∃x,v=val x∧L1=L' x∧pr x) ho (mD hx hp fun x gV=>⟨x,rfl,rfl,gV⟩) (fun e=>Hs (mD (K:=fun v L1=> ∃x,v=val x∧L1=L2 e x∧pr x) hx hp fun x gV=>⟨x,rfl,rfl,gV⟩) fun v L1 ⟨x,h1,h2,h3⟩=>⟨L1,fun _ h=>h,L' x,fun w hw=>hP e x w (by rw[←h2];exact hw),x,h1,rfl,h3⟩)
  (fun v L1 ⟨x,h1,h2,h3⟩=>by subst h1;subst h2;exact hk x h3) hC rfl hd u2 pP qG
theorem nh{m:lL}(ho:l[k]? =some o)(hm:mk k=m)(h: ∀a,cU N env a→qD P o a.eval m)(hC:Cert P N env l fs mk ord)(hk: ∀x:m.X,Ln P N w0 l fs mk Q ord (cl env o.dst (m.v x)) (m.e x::L) Lq)(hg:o.guard=none:=by rfl)(hd:c5 N o.dst=true:=by rfl)(hf:fs.contains k=true:=by rfl)(jZ:fs.contains (k+2000)=true:=by rfl):Ln P N w0 l fs mk Q (k::ord) env L Lq:=fun a ha=>by
 subst hm
 refine⟨o,ho,?_⟩
 rw[if_pos hf,if_pos jZ]
 exact⟨hC.at ha,hg,h a ha,fun x=>hk x _ (ha.put hd _)⟩
theorem dr(ho:l[k]? =some o)(h:gF P N w0 env L o fun v L'=>(∀w,Mem w0 L' w→Mem w0 Lq w)∧Ln P N w0 l fs mk Q ord (cl env o.dst v) L' Lq)(hg:o.guard=none:=by rfl)(hd:c5 N o.dst=true:=by rfl)(hf:fs.contains k=true:=by rfl)(pP:fs.contains (k+2000)=false:=by rfl)(uZ:fs.contains (k+4000)=false:=by rfl)(qG:fs.contains (k+5000)=false:=by rfl)(hC:Cert P N env l fs mk ord:=by exact Cert.none rfl):Ln P N w0 l fs mk Q (k::ord) env L Lq:=
 OK (pP:=pP) (uZ:=uZ) (qG:=qG) (hC:=hC) ho (Hs h fun v L' ⟨h1,h2⟩=>⟨L',fun _ h=>h,Lq,h1,fun _ h=>h,h2⟩) hg hd hf
def CM:List (Nat×lL)→Nat→lL
 |[],_=>⟨Unit,fun _=>undef,fun _=> .emp⟩
 |(i,m)::r,k=>match Nat.beq i k with
  |true=>m
  |false=>CM r k
@[reducible] def j6 (P:Program)(t:TypeId){z:Value}[_hz:eI P t z]:lL:=⟨Nat,fun b=> .pointer (some ⟨b,0,none⟩),fun b=>ar b z.cells t⟩
theorem jo{t:TypeId}{z:Value}[hz:eI P t z]{d:Option Tmp}{ty:TypeId}{ps:String}{af:Array Edge}{gd:Option (Nat×Bool)}: ∀a,cU N env a→qD P ⟨d, .alloc t,ty,ps,af,gd⟩ a.eval (j6 P t):=fun a _ w0 w L hw=>by
 refine⟨w.heap.size,w.alloc (.cells z.cells t),?_,hw.alloc z.cells t⟩
 simp only[execOp,Instr.alloc,newVar,newRow,Sem.run_bind,zb w hz,newObj,Sem.run,Result.andThen,Sem.run_pure];rfl
@[reducible] def pQ {α:Type}(enc:α→Array Value)(c n:Nat)(xs:List α):lL:=⟨Nat,fun b=>Sv.val ⟨false,b,0,n,n,none⟩,fun b=>own enc c ⟨false,b,0,n,n,none⟩ xs⟩
theorem CN{α:Type}{enc:α→Array Value}{c:Nat}{t e:TypeId}{cC n:Nat}{d:Option Tmp}{ty:TypeId}{ps:String}{af:Array Edge}{gd:Option (Nat×Bool)}[ht:eK P t e c cC][he:bx enc c]{ops:List (Nat×Operand)}{vals:List Value}(xs:List α)(hx:jU env ops=some (idx vals 0))(hv:vals.map Value.cells=xs.map enc)(hn:xs.length=n)(hc:0<n*c)(qB:n*c≤16777216):
  ∀a,cU N env a→qD P ⟨d, .buildSlice t n ops.toArray,ty,ps,af,gd⟩ a.eval (pQ enc c n xs):=fun a ha w0 w L hw=>by
 subst hn
 have e1:(ops.toArray.map fun(p:Nat×Operand)=>match p with|(i,x)=>(i,a.eval x))=(idx vals 0).toArray:=by
  rw[←ha.jU hx];simp
 refine⟨w.heap.size,_,?_,hw.call (uM (enc:=enc) (c:=c) (xs:=xs) (cs:=(aJ enc xs).toArray) (e:=e) rfl xs.length xs.length rfl (Nat.le_refl _) (Cc hc qB) (by simp[gm]) fun i x hx j hj=>by rw[←lI (enc:=enc) xs i x hx j hj];simp)⟩
 simp only[execOp,e1,Sem.run_bind,Cd ht hv hc qB w,Result.andThen,Sem.run_pure];rfl
theorem oJ{id:Nat}[jn Q](fs:List Nat)(A:List (List Nat))(ord:List Nat)(Lq:List aj)(mk:List (Nat×lL))(OM:(fs.all fun j=>decide (j<2000)||decide (4000≤j)||fs.contains (j -2000))=true)(lB: ∀w,Mem w0 L w→Mem w0 Lq w)(hm:P.follows .mixedOrders=true)(hB:zI l fs A ord=true)(h:Ln P N w0 l fs (CM mk) Q ord env L Lq)(bo:l.length≤1000:=by decide)(ck:mT l=true:=by kernel_rfl):Cw P N w0 Q (.region id l.toArray true) env L:=fun a _ ha hw=>by
 refine Hr A ord ck hm hB hw.yW lB (fun k xn hk=> ?_) (h a ha)
 cases h2:fs.contains (k+2000)with
 |false=>rfl
 |true=>
  have:=List.all_eq_true.1 OM (k+2000) (by simpa using h2)
  rw[Bool.or_eq_true,Bool.or_eq_true,decide_eq_true_eq,decide_eq_true_eq]at this
  rcases this with(h|h)|h
  ·
   omega
  ·
   omega
  ·
   rw[Nat.add_sub_cancel,hk]at h;cases h
theorem iK{id:Nat}[jn Q](fs:List Nat)(A:List (List Nat))(ord:List Nat)(Lq:List aj)(lB: ∀w,Mem w0 L w→Mem w0 Lq w)(hm:P.follows .mixedOrders=true)(hB:zH l fs A ord=true)(h:Ln P N w0 l fs (CM []) Q ord env L Lq)(ck:mT l=true:=by kernel_rfl):Cw P N w0 Q (.region id l.toArray true) env L:=fun a _ ha hw=>
 OC A ord ck hm hB hw.yW lB (h a ha)
end
open Go.RowKit
theorem Ry.n{P:Program}{N:ct}{w0:World}{env:Env}{L:List aj}{d:Option Tmp}{ty:TypeId}{ps:String}{af:Array Edge}{gd:Option (Nat×Bool)}{s:TypeId}{x:Operand}{fi off b o o':Nat}[hf:dx P s fi off](hx:ev env x=some (.pointer (some ⟨b,o,none⟩)))(ho:Nat.add o off=o':=by(simp only[Nat.add_eq,Nat.reduceAdd];exact rfl)):
  Ry P N w0 env L ⟨d, .fieldAddr s x fi,ty,ps,af,gd⟩ (.pointer (some ⟨b,o',none⟩)):=aH hx ho
theorem tS{P:Program}{N:ct}{w0:World}{l:List Oper}{Q:Exit→Act→World→Prop}{rest:List Oper}{env:Env}{L:List aj}{d:Option Tmp}{ty:TypeId}{ps:String}{af:Array Edge}(op:Op)(gd:Option (Nat×Bool))(h:Sq P N w0 l Q (⟨d,op,ty,ps,af,gd⟩::rest) env L):Sq P N w0 l Q (⟨d,op,ty,ps,af,gd⟩::rest) env L:=h
theorem tQ{P:Program}{N:ct}{w0:World}{l:List Oper}{fs:List Nat}{F:Act→Prop}{k:Nat}{rest:List Oper}{env:Env}{L:List aj}{d:Option Tmp}{ty:TypeId}{ps:String}{af:Array Edge}(op:Op)(gd:Option (Nat×Bool))(h:Qt P N w0 l fs F k (⟨d,op,ty,ps,af,gd⟩::rest) env L):Qt P N w0 l fs F k (⟨d,op,ty,ps,af,gd⟩::rest) env L:=h
theorem Gs{G G':Prop}(k:G')(h:G'→G:=by
 intro k
 first
 |(with_reducible refine tS (.move _) none ?_);exact ag (aC rfl) k
 |(with_reducible refine tS (.assign _) none ?_);exact ag (bj rfl) k
 |(with_reducible refine tS (.fieldAddr _ _ _) none ?_);exact ag (Ry.n rfl) k
 |(with_reducible refine tS (.load _ _) none ?_);exact ag (bG rfl) k
 |(with_reducible refine tS (.load _ _) none ?_);exact ag (eR rfl) k
 |(with_reducible refine tS (.binOp .add _ _ _ _) none ?_);exact ag (ox rfl rfl (by omega)) k
 |(with_reducible refine tS (.binOp .sub _ _ _ _) none ?_);exact ag (wM rfl rfl (by omega)) k
 |(with_reducible refine tS (.pick _ _ _) none ?_);exact ag (lC rfl rfl rfl) k
 |(with_reducible refine tS (.pick _ _ _) none ?_);exact ag (wK rfl rfl rfl) k
 |(with_reducible refine tS (.unOp _ _ _) none ?_);exact ag (ig rfl) k
 |(with_reducible refine tS (.binOp _ _ _ _ _) none ?_);exact ag (cm rfl rfl rfl) k
 |(with_reducible refine tS (.nilCheck _) none ?_);exact ag (je rfl) k
 |(with_reducible refine tS (.call _) none ?_);exact ag (ko rfl) k
 |(with_reducible refine tS (.store _ _ _) none ?_);exact pD rfl rfl k
 |(with_reducible refine tS (.call _) none ?_);exact eS (cy rfl trivial) k):G:=h k
theorem Gq{G G':Prop}(k:G')(h:G'→G:=by
 intro k
 first
 |(with_reducible refine tQ (.move _) none ?_);exact bb (aC rfl) k
 |(with_reducible refine tQ (.assign _) none ?_);exact bb (bj rfl) k
 |(with_reducible refine tQ (.fieldAddr _ _ _) none ?_);exact bb (Ry.n rfl) k
 |(with_reducible refine tQ (.load _ _) none ?_);exact bb (bG rfl) k
 |(with_reducible refine tQ (.load _ _) none ?_);exact bb (eR rfl) k
 |(with_reducible refine tQ (.binOp .add _ _ _ _) none ?_);exact bb (ox rfl rfl (by omega)) k
 |(with_reducible refine tQ (.binOp .sub _ _ _ _) none ?_);exact bb (wM rfl rfl (by omega)) k
 |(with_reducible refine tQ (.pick _ _ _) none ?_);exact bb (lC rfl rfl rfl) k
 |(with_reducible refine tQ (.pick _ _ _) none ?_);exact bb (wK rfl rfl rfl) k
 |(with_reducible refine tQ (.unOp _ _ _) none ?_);exact bb (ig rfl) k
 |(with_reducible refine tQ (.binOp _ _ _ _ _) none ?_);exact bb (cm rfl rfl rfl) k
 |(with_reducible refine tQ (.nilCheck _) none ?_);exact bb (je rfl) k
 |(with_reducible refine tQ (.call _) none ?_);exact bb (ko rfl) k):G:=h k
theorem Gg{G G':Prop}(k:G')(h:G'→G:=by
 intro k
 first
 |(with_reducible refine tS (.move _) (some (_,false)) ?_);exact bQ rfl rfl rfl (fun hg=>Ry.yl (aC rfl)) k
 |(with_reducible refine tS (.fieldAddr _ _ _) (some (_,false)) ?_);exact bQ rfl rfl rfl (fun hg=>Ry.yl (Ry.n rfl)) k
 |(with_reducible refine tS (.load _ _) (some (_,false)) ?_);exact bQ rfl rfl rfl (fun hg=>Ry.yl (bG (aF hg rfl))) k
 |(with_reducible refine tS (.binOp _ _ _ _ _) (some (_,false)) ?_);exact bQ rfl rfl rfl (fun hg=>Ry.yl (cm (aF hg rfl) rfl rfl)) k
 |(with_reducible refine tS (.binOp _ _ _ _ _) (some (_,false)) ?_);exact bQ rfl rfl rfl (fun hg=>Ry.yl (cm (aF hg rfl) (aF hg rfl) rfl)) k
 |(with_reducible refine tS (.call _) (some (_,false)) ?_);exact bQ rfl rfl rfl (fun hg=>Ry.yl (ko (aF hg rfl))) k
 |(with_reducible refine tS (.move _) (some (_,true)) ?_);exact gB rfl rfl rfl (fun hg=>Ry.yl (aC rfl)) k
 |(with_reducible refine tS (.fieldAddr _ _ _) (some (_,true)) ?_);exact gB rfl rfl rfl (fun hg=>Ry.yl (Ry.n rfl)) k
 |(with_reducible refine tS (.load _ _) (some (_,true)) ?_);exact gB rfl rfl rfl (fun hg=>Ry.yl (bG (aF hg rfl))) k
 |(with_reducible refine tS (.binOp _ _ _ _ _) (some (_,true)) ?_);exact gB rfl rfl rfl (fun hg=>Ry.yl (cm (aF hg rfl) rfl rfl)) k
 |(with_reducible refine tS (.binOp _ _ _ _ _) (some (_,true)) ?_);exact gB rfl rfl rfl (fun hg=>Ry.yl (cm (aF hg rfl) (aF hg rfl) rfl)) k
 |(with_reducible refine tS (.call _) (some (_,true)) ?_);exact gB rfl rfl rfl (fun hg=>Ry.yl (ko (aF hg rfl))) k):G:=h k
theorem Gh{G G':Prop}(k:G')(h:G'→G:=by
 intro k
 first
 |(with_reducible refine tQ (.move _) (some (_,false)) ?_);exact hK rfl rfl rfl (fun hg=>Ry.yl (aC rfl)) k
 |(with_reducible refine tQ (.fieldAddr _ _ _) (some (_,false)) ?_);exact hK rfl rfl rfl (fun hg=>Ry.yl (Ry.n rfl)) k
 |(with_reducible refine tQ (.load _ _) (some (_,false)) ?_);exact hK rfl rfl rfl (fun hg=>Ry.yl (bG (aF hg rfl))) k
 |(with_reducible refine tQ (.binOp _ _ _ _ _) (some (_,false)) ?_);exact hK rfl rfl rfl (fun hg=>Ry.yl (cm (aF hg rfl) rfl rfl)) k
 |(with_reducible refine tQ (.binOp _ _ _ _ _) (some (_,false)) ?_);exact hK rfl rfl rfl (fun hg=>Ry.yl (cm (aF hg rfl) (aF hg rfl) rfl)) k
 |(with_reducible refine tQ (.call _) (some (_,false)) ?_);exact hK rfl rfl rfl (fun hg=>Ry.yl (ko (aF hg rfl))) k
 |(with_reducible refine tQ (.move _) (some (_,true)) ?_);exact eW rfl rfl rfl (fun hg=>Ry.yl (aC rfl)) k
 |(with_reducible refine tQ (.fieldAddr _ _ _) (some (_,true)) ?_);exact eW rfl rfl rfl (fun hg=>Ry.yl (Ry.n rfl)) k
 |(with_reducible refine tQ (.load _ _) (some (_,true)) ?_);exact eW rfl rfl rfl (fun hg=>Ry.yl (bG (aF hg rfl))) k
 |(with_reducible refine tQ (.binOp _ _ _ _ _) (some (_,true)) ?_);exact eW rfl rfl rfl (fun hg=>Ry.yl (cm (aF hg rfl) rfl rfl)) k
 |(with_reducible refine tQ (.binOp _ _ _ _ _) (some (_,true)) ?_);exact eW rfl rfl rfl (fun hg=>Ry.yl (cm (aF hg rfl) (aF hg rfl) rfl)) k
 |(with_reducible refine tQ (.call _) (some (_,true)) ?_);exact eW rfl rfl rfl (fun hg=>Ry.yl (ko (aF hg rfl))) k):G:=h k
theorem tR{P:Program}{N:ct}{w0:World}{Q:Exit→Act→World→Prop}{env:Env}{L:List aj}{id:Nat}{l:Array Oper}(h:Cw P N w0 Q (.region id l false) env L):Cw P N w0 Q (.region id l false) env L:=h
theorem Gc{G G':Prop}(k:G')(h:G'→G:=by
 intro k
 repeat (first
  |(with_reducible refine aO ?_)
  |(with_reducible refine aN ?_)
  |(with_reducible refine aV ?_)
  |(with_reducible refine fq ?_)
  |(with_reducible refine dM ?_)
  |(with_reducible refine eJ ?_)
  |(with_reducible refine kV ?_)
  |(with_reducible refine kG ?_)
  |(with_reducible refine lE ?_)
  |(with_reducible refine qA ?_)
  |(with_reducible refine nM ?_)
  |(with_reducible refine qz ?_)
  |(with_reducible refine zU ?_)
  |(with_reducible refine uG ?_)
  |(with_reducible refine tR ?_);refine aZ ?_)
 exact k):G:=h k
theorem Gi{G G':Prop}(k:G')(h:G'→G:=by
 intro k
 first
  |(with_reducible refine aO ?_)
  |(with_reducible refine aN ?_)
  |(with_reducible refine aV ?_)
  |(with_reducible refine fq ?_)
  |(with_reducible refine dM ?_)
  |(with_reducible refine eJ ?_)
  |(with_reducible refine kV ?_)
  |(with_reducible refine kG ?_)
  |(with_reducible refine lE ?_)
  |(with_reducible refine qA ?_)
  |(with_reducible refine nM ?_)
  |(with_reducible refine qz ?_)
  |(with_reducible refine zU ?_)
  |(with_reducible refine uG ?_)
  |(with_reducible refine tR ?_);refine aZ ?_
 exact k):G:=h k
theorem bz{p q:Prop}(h:p)(e:p=q:=by(try simp only[Z0,Z1,Z2,Z3,Z4,Z5,Z6,Z7,Z8,Z9]);exact rfl):q:=e▸h
open Go.RowKit
theorem u3{A X V:List Value}{o:Nat}(h:o=A.length):cH (A++X).toArray o V.toArray=(A++(V++X.drop V.length)).toArray:=by
 subst h
 unfold cH
 simp only[List.size_toArray,List.append_assoc]
 rw[List.take_left,List.drop_append]
 simp
section
variable {α:Type} {enc:α→Array Value} {c:Nat} {s:Sv} {xs:List α}
theorem tv(xs ys:List α):aJ enc (xs++ys)=aJ enc xs++aJ enc ys:=by simp[aJ]
theorem ON[he:bx enc c](hc:0<c){cs:Array Value}{o:Nat}(eP:o+xs.length*c≤cs.size)(hr: ∀i x,xs[i]? =some x→ ∀j,j<c→cs[o+i*c+j]? =(enc x)[j]?):
  cs=(cs.toList.take o++(aJ enc xs++cs.toList.drop (o+xs.length*c))).toArray:=by
 have key:(cs.toList.drop o).take (xs.length*c)=aJ enc xs:=by
  refine List.ext_getElem? fun k=> ?_
  rcases Nat.lt_or_ge k (xs.length*c)with hk|hk
  ·
   rw[List.getElem?_take_of_lt hk,List.getElem?_drop,Array.getElem?_toList]
   have hd:k/c<xs.length:=Nat.div_lt_of_lt_mul (by rwa [Nat.mul_comm])
   have hm:=Nat.mod_lt k hc
   have e:k/c*c+k%c=k:=by rw[Nat.mul_comm];exact Nat.div_add_mod k c
   have h1:=hr (k/c) xs[k/c] (by simp[hd]) (k%c) hm
   have h2:=lI (enc:=enc) xs (k/c) xs[k/c] (by simp[hd]) (k%c) hm
   rw[e]at h2
   rw[h2,←h1];congr 1;omega
  ·
   rw[List.getElem?_eq_none (by simp;omega),List.getElem?_eq_none (by rw[gm];omega)]
 apply Array.ext'
 simp only
 rw[←key,←List.append_assoc,show o+xs.length*c=o+xs.length*c from rfl,←List.drop_drop,List.append_assoc,List.take_append_drop,List.take_append_drop]
theorem CO{a b:Nat}(h:a≤b):a=Nat.min a b:=(Nat.min_eq_left h).symm
theorem OO{a b:Nat}(h:b≤a):b=Nat.min a b:=(Nat.min_eq_right h).symm
theorem OP[he:bx enc c](hc:1<c){w0 w:World}{L:List aj}{i:Nat}(hw:Mem w0 L w)(hi:L[i]? =some (own enc c s xs))(hn:s.nil=false):
  ∃pre mid T,pre.length=s.o∧s.o+s.cap*c≤pre.length+(xs.length*c+mid.length)∧s.sp=none∧s.Ok∧s.len=xs.length∧Mem w0 (L.set i (ar s.b (pre++(aJ enc xs++mid)).toArray T)) w:=by
 obtain⟨r,lJ⟩:=hw.get hi
 obtain⟨fJ,cs,T,fz,eX,eP,kI,kX⟩:=lJ hn
 obtain rfl:=kX hc
 have hle:=r.ok.le
 have hlen:=r.len
 have hm:xs.length*c≤s.cap*c:=Nat.mul_le_mul_right _ (by omega)
 have e:=ON (enc:=enc) (c:=c) (xs:=xs) (cs:=cs) (o:=s.o) (by omega) (by omega) fun i x hx j hj=>by
  rw[←r.row i x hx j hj];unfold lF;rw[eX]
 refine⟨cs.toList.take s.o,cs.toList.drop (s.o+xs.length*c),T,by simp;omega,by simp;omega,fJ,r.ok,hlen,?_⟩
 rw[←e]
 exact hw.change hi (fun k (hk:k=s.b)=>⟨hn,hk⟩) (fun _ _=>rfl) rfl ⟨rfl,rfl,rfl⟩ eX
theorem CP[he:bx enc c]{w0 w:World}{L:List aj}{i b:Nat}{pre mid:List Value}{T:TypeId}(hw:Mem w0 L w)(hi:L[i]? =some (ar b (pre++(aJ enc xs++mid)).toArray T))(s':Sv)(b0:s'.Ok)(hn:s'.nil=false)(hb:s'.b=b)(fJ:s'.sp=none)(ho:s'.o=pre.length)(hl:s'.len=xs.length)
  (td:s'.o+s'.cap*c≤pre.length+(xs.length*c+mid.length)):Mem w0 (L.set i (own enc c s' xs)) w:=by
 subst hb
 have eX:hp w s'.b=some (.cells (pre++(aJ enc xs++mid)).toArray T (0,0)):=hw.block hi
 refine hw.change hi (fun k hk=>hk.2) (fun _ _=>rfl) rfl ⟨rfl,rfl,rfl⟩ ⟨rJ b0 hl eX fun k y hy j hj=> ?_,fun _=>⟨fJ,_,_,_,eX,by simp[gm];omega,B8 _,fun _=>rfl⟩⟩
 have bo:k*c+j<(aJ enc xs).length:=by
  rw[gm]
  have h1:=(List.getElem?_eq_some_iff.1 hy).1
  calc k*c+j<k*c+c:=by omega
   _=(k+1)*c:=by rw[Nat.add_mul];omega
   _≤_:=Nat.mul_le_mul_right _ h1
 rw[List.getElem?_toArray,List.getElem?_append_right (by omega),List.getElem?_append_left (by omega),←lI (enc:=enc) xs k y hy j hj]
 congr 1;omega
theorem Sv.rR{lo hi:Nat}(h:lo<s.cap):(s.sub c lo hi).o=s.o+lo*c:=by simp only[Sv.sub];rw[if_neg (by omega)]
theorem Sv.xx{hi:Nat}:(s.sub c 0 hi).o=s.o:=by simp only[Sv.sub];split<;>simp
theorem Sv.sub_eq{hi:Nat}(hn:s.nil=false)(fJ:s.sp= .none):s.sub c 0 hi=⟨false,s.b,s.o,hi,s.cap, .none⟩:=by
 have h0:=Sv.xx (s:=s) (c:=c) (hi:=hi)
 obtain⟨sn,sb,so,sl,sc,ss⟩:=s
 simp only[Sv.sub]at h0 hn fJ⊢
 subst hn fJ
 rw[h0];rfl
end
section
variable {P:Program} {N:ct} {w0:World} {env:Env} {L:List aj} {Q:Exit→Act→World→Prop} {l rest:List Oper} {d:Option Tmp} {ty:TypeId} {ps:String} {af:Array Edge} {gd:Option (Nat×Bool)} {K:Value→List aj→Prop}
variable {α:Type} {enc:α→Array Value} {c:Nat} {s:Sv} {xs:List α}
theorem OQ{w:World}{pre A mid:List Value}{T:TypeId}{b o:Nat}{L':List aj}(hw:Mem w0 (ar b (pre++(A++mid)).toArray T::L') w)(ho:pre.length=o){j:Nat}{u:Value}(hj:A[j]? =some u):w.cell? ⟨b,o+j,none⟩=some u:=by
 have iG:=(List.getElem?_eq_some_iff.1 hj).1
 have h0:(ar b (pre++(A++mid)).toArray T::L')[0]? =some (ar b (pre++(A++mid)).toArray T):=rfl
 rw[hw.cell h0,List.getElem?_toArray,List.getElem?_append_right (by omega),List.getElem?_append_left (by omega),←hj]
 congr 1;omega
theorem HA{code:Code}[he:bx enc c]{i:Nat}(q:eY L s enc c xs i)(hc:1<c)(hn:0<xs.length){L':List Value→List Value→TypeId→List aj}[hu: ∀pre mid T,eQ L i (ar s.b (pre++(aJ enc xs++mid)).toArray T) (L' pre mid T)]
  (h: ∀pre mid T,pre.length=s.o→s.o+s.cap*c≤pre.length+(xs.length*c+mid.length)→s.nil=false→s.sp=none→s.Ok→s.len=xs.length→Cw P N w0 Q code env (L' pre mid T)):Cw P N w0 Q code env L:=fun a w ha hw=>by
 have lM:=(hw.get q.h).1.some hn
 obtain⟨pre,mid,T,h1,h2,h3,h4,h5,h6⟩:=OP hc hw q.h lM
 rw[(hu pre mid T).h]at h6
 exact h pre mid T h1 h2 lM h3 h4 h5 a w ha h6
theorem zV{code:Code}{i:Nat}(q:eY L s enc c xs i)(hn:0<xs.length)(h:s.nil=false→s.sp=none→s.Ok→s.len=xs.length→Cw P N w0 Q code env L):Cw P N w0 Q code env L:=fun a w ha hw=>by
 obtain⟨r,lJ⟩:=hw.get q.h
 have lM:=r.some hn
 exact h lM (lJ lM).1 r.ok r.len a w ha hw
theorem HB[he:bx enc c](hc:0<c){i:Nat}(q:eY L s enc c xs i){w:World}(hw:Mem w0 L w){j:Nat}{v:Value}(hj:(aJ enc xs)[j]? =some v):w.cell? ⟨s.b,s.o+j,none⟩=some v:=by
 obtain⟨x,hx,hv⟩:=zq hc hj
 have r:=(hw.get q.h).1
 rw[pG,←hv,←r.row _ x hx (j%c) (Nat.mod_lt _ hc)]
 congr 1
 have:=Nat.div_add_mod j c
 rw[Nat.mul_comm]at this;omega
theorem OR(w:World)(dT sT ty elem:TypeId)(b o HC OS:Nat)(a:Addr)(HD OT n:Nat)(cur:Array Value)(t:TypeId)(vs:List Value)
  (hu:P.underlying dT=some (.slice elem)) (hs:(P.info? elem).map (·.size)=some c) (hg:w.heap[b]? =some (.cells cur t (0,0))) (hn:n=Nat.min HD HC) (hv:vs.length=n*c)
  (kF: ∀j v,vs[j]? =some v→w.cell? (a.add j)=some v) (hM:o+vs.length≤cur.size) (h1: ∀v∈vs,v.oneCell'=true):
  (Builtin.copy_ #[dT,sT] ty #[.slice (some ⟨b,o,none⟩) HC OS, .slice (some a) HD OT]).run P w= .ok (goInt n) (w.setRow b (cH cur o vs.toArray)):=by
 have hl:=run_loadCells_list (P:=P) w a vs kF
 have bE:=run_storeCells_at P b o t vs 0 cur w hg (by simpa using hM) h1
 rw[hv]at hl
 cases hq:P.info? elem with
 |none=>simp[hq]at hs
 |some i=>
  have hi:i.size=c:=by simpa[hq]using hs
  simp[Builtin.copy_,run_underlying hu,Builtin.lenOf,Builtin.firstCells,sizeOf,typeInfo,hq,hi,←hn,hl,bE,cH]
theorem zW{D S:Sv}{x y:Operand}{tx fo e:TypeId}{i b o n:Nat}{cs:Array Value}{T:TypeId}{vs:List Value}(hx:ev env x=some D.val)(hy:ev env y=some S.val)
  (lN:D.nil=false) (lO:D.sp=none) (ni:D.b=b) (oK:D.o=o) (xz:S.nil=false) (xA:S.sp=none) [ht:eu P tx e c] [hh:Has L b cs T i] (hn:n=Nat.min S.len D.len) (hv:vs.length=n*c)
  (kF: ∀w,Mem w0 L w→ ∀j v,vs[j]? =some v→w.cell? ⟨S.b,S.o+j,none⟩=some v) (h1: ∀v∈vs,v.oneCell'=true) (ho:o+vs.length≤cs.size) {cs':Array Value} {L':List aj} (fV:cH cs o vs.toArray=cs') [hu:eQ L i (ar b cs' T) L']
  (hk:Sq P N w0 l Q rest (cl env d (.int .i64 n)) L') (hd:c5 N d=true:=by rfl):
  Sq P N w0 l Q (⟨d, .call {callee:= .builtin .copy,args:= #[x,y],argTypes:= #[tx,fo]},ty,ps,af,none⟩::rest) env L:=
 lD rfl hd fun aa w ha hw=>by
  rw[Sv.gC lN,lO,ni,oK]at hx
  rw[Sv.gC xz,xA]at hy
  have hb:=hw.block hh.h
  have fm:=OR (P:=P) w tx fo ty e b o D.len D.cap ⟨S.b,S.o,none⟩ S.len S.cap n cs T vs ht.dL ht.size hb hn hv (fun j v hj=>by rw[Addr.fI];exact kF w hw j v hj) ho h1
  refine⟨_,_,_,?_,by rw[←hu.h,←fV];exact hw.setRow hh.h _,hk⟩
  simp[execOp,ha.ev hx,ha.ev hy,resolve,invoke,builtin,fm,Result.andThen,goInt]
theorem OU{D S:Sv}{x y:Operand}{tx fo e e':TypeId}{cC i b o n:Nat}{cs:Array Value}{T:TypeId}{vs:List Value}(hx:ev env x=some D.val)(hy:ev env y=some S.val)
  (lN:D.nil=false) (lO:D.sp=none) (ni:D.b=b) (oK:D.o+D.len*c=o) (xz:S.nil=false) (xA:S.sp=none) [ht:eK P tx e c cC] (CQ:P.underlying fo=some (.slice e')) [hh:Has L b cs T i] (hn:S.len=n) (hv:vs.length=n*c) (mu:D.len+n≤D.cap)
  (kF: ∀w,Mem w0 L w→ ∀j v,vs[j]? =some v→w.cell? ⟨S.b,S.o+j,none⟩=some v) (h1: ∀v∈vs,v.oneCell'=true) (ho:o+vs.length≤cs.size) {cs':Array Value} {L':List aj} (fV:cH cs o vs.toArray=cs') [hu:eQ L i (ar b cs' T) L']
  {R:Sv} (hR:R=⟨false,b,D.o,D.len+n,D.cap,none⟩) (hk:Sq P N w0 l Q rest (cl env d R.val) L') (hd:c5 N d=true:=by rfl):
  Sq P N w0 l Q (⟨d, .call {callee:= .builtin .append,args:= #[x,y],argTypes:= #[tx,fo]},ty,ps,af,none⟩::rest) env L:=
 lD rfl hd fun aa w ha hw=>by
  subst hR oK ni
  rw[Sv.gC lN,lO]at hx
  rw[Sv.gC xz,xA,hn]at hy
  have hb:=hw.block hh.h
  obtain⟨i',z,bh,aE,bB,cK,kW⟩:=ht.info
  have hs:=Src.ofSlice (P:=P) (size:=c) w CQ ⟨S.b,S.o,none⟩ n S.cap vs hv (fun j v hj=>by rw[Addr.fI];exact kF w hw j v hj) h1
  have bE:=run_storeCells_at P D.b (D.o+D.len*c) T vs 0 cs w hb (by simpa using ho) h1
  have fm:(Builtin.append_ #[tx,fo] ty #[.slice (some ⟨D.b,D.o,none⟩) D.len D.cap, .slice (some ⟨S.b,S.o,none⟩) n S.cap]).run P w= .ok (.slice (some ⟨D.b,D.o,none⟩) (D.len+n) D.cap) (w.setRow D.b (cH cs (D.o+D.len*c) vs.toArray)):=by
   subst bB
   rcases hs.kind with⟨e',hk⟩|hk<;>simp[Builtin.append_,run_underlying ht.dL,run_underlying hk,sizeOf,typeInfo,bh,hs.len,mu,hs.cells,Addr.fI,bE,cH]
  refine⟨_,_,_,?_,by rw[←hu.h,←fV];exact hw.setRow hh.h _,hk⟩
  simp[execOp,ha.ev hx,ha.ev hy,resolve,invoke,builtin,fm,Result.andThen,Sv.val]
theorem OV{D:Sv}{x y:Operand}{tx fo e:TypeId}{cC k:Nat}{z:Value}{olds:List Value}{kn kq:IntKind}{iy:Int}{p m:Nat}(hp:D.len=p)(hm:p+k=m)(hx:ev env x=some D.val)(hy:ev env y=some (.int kq iy))(tw:iy=(k:Int))(h0:0<k)
  (lN:D.nil=false) (lO:D.sp=none) [ht:eK P tx e c cC] (hc:0<c) [hz:eI P e z] (CR:P.underlying fo=some (.int kn)) (holds:olds.length=D.len*c) (kF: ∀w,Mem w0 L w→ ∀j v,olds[j]? =some v→w.cell? ⟨D.b,D.o+j,none⟩=some v)
  (hg:D.cap<D.len+k) (hb:(D.len+k)*cC≤140737488355328) (ij:D.len+k≤140737488355328)
  (hk: ∀(b C:Nat) (Z:List Value),m≤C→p*c+Z.length=C*c→Sq P N w0 l Q rest (cl env d (Sv.val ⟨false,b,0,m,C,none⟩)) (ar b (olds++Z).toArray e::L)) (hd:c5 N d=true:=by rfl):
  Sq P N w0 l Q (⟨d, .call {callee:= .builtin .append,args:= #[x,y],argTypes:= #[tx,fo]},ty,ps,af,none⟩::rest) env L:=
 lD rfl hd fun aa w ha hw=>by
  subst tw hp hm
  rw[Sv.gC lN,lO]at hx
  obtain⟨i',z',bh,aE,bB,cK,kW⟩:=ht.info
  subst bB cK
  have td:=nextslicecap_le hg
  have hM:Builtin.nextslicecap (D.len+k) D.cap*i'.bytes≤281474976710656:=by
   have h2:Builtin.nextslicecap (D.len+k) D.cap*i'.bytes≤2*(D.len+k)*i'.bytes:=Nat.mul_le_mul_right _ td
   rw[Nat.mul_assoc]at h2
   omega
  have CS:k*i'.bytes≤281474976710656:=by
   have:k*i'.bytes≤(D.len+k)*i'.bytes:=Nat.mul_le_mul_right _ (by omega)
   omega
  have hold:=run_firstCells_some (P:=P) w.drew i'.size D.len ⟨D.b,D.o,none⟩ D.len D.cap olds holds (fun j v hj=>by rw[Addr.fI];exact kF w hw j v hj)
  have fm:=Lib.run_append_grow_zeros (P:=P) w tx fo ty e i' z' kq kn ht.dL CR bh aE (some ⟨D.b,D.o,none⟩) D.len D.cap olds hold k h0 hc hg (by omega) CS hM
  have pI:=grownCap_ge w (D.len+k) D.cap e
  generalize grownCap w (D.len+k) D.cap e=C at fm pI
  have xB:=size_zeroCells z'.cells k
  have zX:=size_zeroCells z'.cells (C -(D.len+k))
  rw[kW]at xB zX
  have hZ:D.len*i'.size+(Builtin.zeroCells z'.cells k++Builtin.zeroCells z'.cells (C -(D.len+k))).toList.length=C*i'.size:=by
   rw[Array.length_toList,Array.size_append,xB,zX,←Nat.add_mul,←Nat.add_mul];congr 1;omega
  have e1:olds.toArray++Builtin.zeroCells z'.cells k++Builtin.zeroCells z'.cells (C -(D.len+k))=(olds++(Builtin.zeroCells z'.cells k++Builtin.zeroCells z'.cells (C -(D.len+k))).toList).toArray:=by apply Array.ext';simp
  rw[e1]at fm
  refine⟨_,_,_,?_,hw.drew.alloc _ e,hk w.heap.size C _ pI hZ⟩
  simp[execOp,ha.ev hx,ha.ev hy,resolve,invoke,builtin,fm,Result.andThen,Sv.val]
theorem OW{D:Sv}{x:Operand}{tx e:TypeId}{cC i b o n:Nat}{z:Value}{cs:Array Value}{T:TypeId}(hx:ev env x=some D.val)(lN:D.nil=false)(lO:D.sp=none)(ni:D.b=b)(oK:D.o=o)(hn:D.len=n)(h0:0<n)[ht:eK P tx e c cC][hz:eI P e z](h1:z.cells.all (·.oneCell')=true)[hh:Has L b cs T i](ho:o+n*c≤cs.size)
  {L':List Value→List aj} [hu: ∀Z,eQ L i (ar b (cH cs o Z.toArray) T) (L' Z)] (hk: ∀Z:List Value,Z.length=n*c→Sq P N w0 l Q rest env (L' Z)):
  Sq P N w0 l Q (⟨none, .call {callee:= .builtin .clear,args:= #[x],argTypes:= #[tx]},ty,ps,af,none⟩::rest) env L:=
 lD rfl rfl fun aa w ha hw=>by
  rw[Sv.gC lN,lO,ni,oK,hn]at hx
  have hb:=hw.block hh.h
  obtain⟨i',z',bh,aE,bB,cK,kW⟩:=ht.info
  obtain rfl:z'=z:=by
   have:=hz.zero
   rw[bh,Option.map_some,aE]at this;exact Option.some.inj (Option.some.inj this)
  subst bB
  have hZ:=size_zeroCells z'.cells n
  rw[kW]at hZ
  have pO: ∀v∈(Builtin.zeroCells z'.cells n).toList,v.oneCell'=true:=fun v hv=>by
   simp only[Builtin.zeroCells,Array.toList_map,List.mem_map]at hv
   obtain⟨j,hj,rfl⟩:=hv
   have qI:0<z'.cells.size:=by
    rcases Nat.eq_zero_or_pos z'.cells.size with h|h
    ·
     rw[h]at hj;simp at hj
    ·
     exact h
   rw[getElem!_pos z'.cells _ (Nat.mod_lt _ qI)]
   exact(Array.all_eq_true_iff_forall_mem.1 h1) _ (Array.getElem_mem _)
  have bE:=run_storeCells_at P b o T (Builtin.zeroCells z'.cells n).toList 0 cs w hb (by simp[hZ];omega) pO
  have fm:(Builtin.clear_ #[tx] ty #[.slice (some ⟨b,o,none⟩) n D.cap]).run P w= .ok (.tuple #[]) (w.setRow b (cH cs o (Builtin.zeroCells z'.cells n))):=by
   obtain⟨m,rfl⟩: ∃m,n=m+1:=⟨n -1,by omega⟩
   simp[Builtin.clear_,run_underlying ht.dL,zeroValue,typeInfo,bh,aE,bE,cH]
  refine⟨.tuple #[],w.setRow b (cH cs o (Builtin.zeroCells z'.cells n)),L' (Builtin.zeroCells z'.cells n).toList,?_,?_,hk _ (by rw[Array.length_toList,hZ])⟩
  ·
   simp[execOp,ha.ev hx,resolve,invoke,builtin,fm,Result.andThen]
  ·
   have h9:=hw.setRow hh.h (cH cs o (Builtin.zeroCells z'.cells n))
   rw[←(hu _).h]
   simpa using h9
def Sv.top(s:Sv)(m:Nat):Sv:=⟨s.nil,s.b,s.o,s.len,m,s.sp⟩
theorem HE{t e:TypeId}{x lo hi mx:Operand}{l h m:Nat}{k k' HF:IntKind}{il ih im:Int}[ht:eu P t e c](hx:ev env x=some s.val)[q:Hd w0 L s enc c xs](hl:ev env lo=some (.int k il))(hh:ev env hi=some (.int k' ih))(hm:ev env mx=some (.int HF im))(el:il=(l:Int))(eh:ih=(h:Int))(em:im=(m:Int))(h1:l≤h)(h2:h≤m)(h3:m≤xs.length):
  Ry P N w0 env L ⟨d, .slice t x (some lo) (some hi) (some mx),ty,ps,af,gd⟩ ((s.top m).sub c l h).val:=fun a w ha hw=>by
 subst el eh em
 have r:=q.h w hw
 have hs:=r.ok
 have hlen:=r.len
 have hle:=hs.le
 have ee:=uL ht.dL
 have hu:P.underlying t=some (.slice (P.elem t)):=by rw[ee];exact ht.dL
 obtain⟨ad,len,cap,lG⟩:=s.ex
 have e3:len=s.len∧cap=s.cap∧sliced ad l h m c=((s.top m).sub c l h).val:=by
  cases hn:s.nil with
  |true=>
   rw[Sv.pF hn]at lG
   obtain⟨rfl,rfl,rfl⟩:=by simpa using lG
   have:=hs.nil hn
   have e2:((s.top m).sub c l h).nil=true:=hn
   rw[Sv.pF e2]
   have:l=0:=by omega
   have:h=0:=by omega
   have:m=0:=by omega
   subst l h m
   exact⟨by omega,by omega,by simp[sliced]⟩
  |false=>
   rw[Sv.gC hn]at lG
   obtain⟨rfl,rfl,rfl⟩:=by simpa using lG
   have e2:((s.top m).sub c l h).nil=false:=hn
   rw[Sv.gC e2]
   refine⟨rfl,rfl,?_⟩
   simp only[sliced,Sv.sub,Sv.top]
   by_cases hc:m=l
   ·
    simp[hc]
   ·
    have fJ:=hs.sp (by omega)
    simp[hc,fJ,Addr.fI]
 obtain⟨e1,e2,e3⟩:=e3
 have hr:=run_slice_lhm (P:=P) (w:=w) t ad len cap hu k k' HF (l:Int) (h:Int) (m:Int) (by omega) (by omega) (by omega) (by omega)
 rw[ee,jT w ht.size]at hr
 simp only[Result.andThen,Int.toNat_natCast,e3]at hr
 simp only[execOp,ha.ev hx,ha.ev hl,ha.ev hh,ha.ev hm,lG,Option.map_some,run_sliceAt_slice (h:=hu),hr,Sem.run_bind,Result.andThen,Sem.run_pure]
theorem OX{t e:TypeId}{x:Operand}{m n:Nat}[ht:eu P t e m](hx:ev env x=some s.val)(lM:s.nil=false)(hn:s.cap=n):
  Ry P N w0 env L ⟨d, .call {callee:= .builtin .cap,args:= #[x],argTypes:= #[t]},ty,ps,af,gd⟩ (.int .i64 n):=fun a w ha _=>by
 subst hn
 rw[Sv.gC lM]at hx
 have hu:P.underlying t=some (.slice (P.elem t)):=by rw[uL ht.dL];exact ht.dL
 have:=run_cap_slice (P:=P) (w:=w) t ty (some ⟨s.b,s.o,s.sp⟩) s.len s.cap hu
 simp[execOp,ha.ev hx,resolve,invoke,builtin,this,Result.andThen,goInt]
class HG(P:Program)(f:FuncId)(tS tR:outParam TypeId):Prop where
 fn: ∃fn,P.funcs[f]? =some fn∧(fn.name== "runtime.NumGoroutine")=false∧fn.body.isNone=true∧Extern.findNext fn=none∧Extern.find fn=some (Extern.SlicesOverlaps.overlaps #[tS,tS] #[tR])
theorem Mem.apart{w:World}{i j k:Nat}{e e':aj}(h:Mem w0 L w)(hi:L[i]? =some e)(hj:L[j]? =some e')(mV:i≠j)(hk:e.fp k): ¬e'.fp k:=by
 obtain⟨gi,rfl⟩:=List.getElem?_eq_some_iff.1 hi
 obtain⟨gj,rfl⟩:=List.getElem?_eq_some_iff.1 hj
 have hd:=List.pairwise_iff_getElem.1 h.mo
 rcases Nat.lt_or_gt_of_ne mV with h1|h1
 ·
  exact hd i j gi gj h1 k hk
 ·
  exact fun h2=>hd j i gj gi h1 k h2 hk
theorem OY{V D:Sv}{x y:Operand}{f:FuncId}{ts:Array TypeId}{tS tR e T:TypeId}{i j b:Nat}{cs:Array Value}(hx:ev env x=some V.val)(hy:ev env y=some D.val)[hf:HG P f tS tR][ht:eu P tS e c](hc:1<c)[q:eY L V enc c xs i](hv:0<xs.length)[hh:Has L b cs T j](lN:D.nil=false)(lO:D.sp=none)(ni:D.b=b)(fV:0<cs.size)(mV:i≠j:=by decide):
  Ry P N w0 env L ⟨d, .call {callee:= .value (.func f),args:= #[x,y],argTypes:=ts},ty,ps,af,gd⟩ (.bool false):=fun a w ha hw=>by
 obtain⟨r,lJ⟩:=hw.get q.h
 have CT:=r.some hv
 obtain⟨OZ,cv,Tv,fz,eX,eP,kI,kX⟩:=lJ CT
 obtain rfl:=kX hc
 have hb:=hw.block hh.h
 have cD:V.b≠b:=fun e0=>hw.apart q.h hh.h mV (k:=V.b) ⟨CT,rfl⟩ e0
 subst ni
 rw[Sv.gC CT,OZ]at hx
 rw[Sv.gC lN,lO]at hy
 obtain⟨fn,h1,h2,h3,h4,h5⟩:=hf.fn
 have fm:=Lib.run_overlaps_apart (P:=P) w tS tR e ht.dL c (fun w=>jT w ht.size) ⟨V.b,V.o,none⟩ ⟨D.b,D.o,none⟩ V.len V.cap D.len D.cap cD Tv T cv.size cs.size (by simp[World.shape?,eX]) (by simp[World.shape?,hb]) (by omega) (by simp[World.frozen?,eX]) (by simp[World.frozen?,eX])
 have HH:=run_callFunc_extern (P:=P) h1 h2 h3 h4 h5 #[.slice (some ⟨V.b,V.o,none⟩) V.len V.cap, .slice (some ⟨D.b,D.o,none⟩) D.len D.cap] w
 rw[fm]at HH
 have e1:a.eval (.func f)= .func (.func f) #[] #[]:=rfl
 simp[execOp,ha.ev hx,ha.ev hy,resolve,e1,Deferred.ofValue,invoke,HH,Result.andThen]
end
end Go.aB
namespace Go.Kb
def O0:Nat:=3988292384
def CU(n:Nat):Nat:=(n/2)^^^(if n%2=1 then O0 else 0)
theorem O1{n:Nat}(h:n<2^32):CU n<2^32:=by
 refine Nat.xor_lt_two_pow (by omega) ?_
 split
 ·
  decide
 ·
  decide
def lP(n:Nat):Nat→Nat
 |0=>n
 |k+1=>CU (lP n k)
theorem CW{n:Nat}(h:n<2^32): ∀k,lP n k<2^32
 |0=>h
 |k+1=>O1 (CW h k)
def CX(n:Nat)(b:UInt8):Nat:=lP (n^^^b.toNat) 8
theorem O2{n:Nat}{b:UInt8}(h:n<2^32):CX n b<2^32:=CW (Nat.xor_lt_two_pow h (by have:=b.toNat_lt;omega)) 8
def jq(n:Nat)(l:List UInt8):Nat:=l.foldl CX n
theorem zY{n:Nat}(h:n<2^32): ∀l,jq n l<2^32
 |[]=>h
 |b::l=>zY (O2 h) l
theorem O3{n:Nat}{l:List UInt8}{i:Nat}{b:UInt8}(h:l[i]? =some b):jq n (l.take (i+1))=CX (jq n (l.take i)) b:=by
 rw[List.take_add_one,h,jq,jq,List.foldl_append];rfl
def k7(l:List UInt8):Nat:=4294967295 -jq 4294967295 l
theorem CY(l:List UInt8):k7 l<2^32:=by unfold k7;omega
end Go.Kb
namespace Go.aB
open Go.RowKit
section
variable {α:Type} {enc:α→Array Value} {c:Nat} {s:Sv} {xs:List α}
theorem Mem.HI{w0 w:World}{L:List aj}{i k:Nat}(hw:Mem w0 L w)(hi:L[i]? =some (own enc c s xs))(hk:k≤xs.length):Mem w0 (L.set i (own enc c (s.sub c 0 k) (xs.take k))) w:=by
 obtain⟨r,lJ⟩:=hw.get hi
 have r2:=r.sub (lo:=0) (hi:=k) (Nat.zero_le _) hk
 rw[List.drop_zero,Nat.sub_zero]at r2
 refine hw.change hi (fun k hk=>hk) (fun _ _=>rfl) rfl ⟨rfl,rfl,rfl⟩ ⟨r2,fun hn=> ?_⟩
 obtain⟨h1,cs,T,fz,h2,h3,h4,h5⟩:=lJ hn
 refine⟨h1,cs,T,fz,h2,?_,h4,h5⟩
 rw[Sv.xx];exact h3
end
section
variable {P:Program} {N:ct} {w0:World} {env:Env} {L:List aj} {Q:Exit→Act→World→Prop} {l rest:List Oper} {d:Option Tmp} {ty:TypeId} {ps:String} {af:Array Edge} {gd:Option (Nat×Bool)}
variable {α:Type} {enc:α→Array Value} {c:Nat} {xs:List α}
theorem HJ{x y:Operand}{tx fo e:TypeId}{cC k:Nat}{z:Value}{kn kq:IntKind}{iy:Int}(x0:α)(hx:ev env x=some (.slice none 0 0))(hy:ev env y=some (.int kq iy))(tw:iy=(k:Int))(h0:0<k)
  [ht:eK P tx e c cC] [he:bx enc c] (hc:0<c) [hz:eI P e z] (HK:enc x0=z.cells) (CR:P.underlying fo=some (.int kn)) (hb:k*cC≤140737488355328) (ij:k≤140737488355328)
  (hk: ∀b C:Nat,k≤C→Sq P N w0 l Q rest (cl env d (Sv.val ⟨false,b,0,k,C,none⟩)) (own enc c ⟨false,b,0,k,C,none⟩ (List.replicate k x0)::L)) (hd:c5 N d=true:=by rfl):
  Sq P N w0 l Q (⟨d, .call {callee:= .builtin .append,args:= #[x,y],argTypes:= #[tx,fo]},ty,ps,af,none⟩::rest) env L:=
 lD rfl hd fun aa w ha hw=>by
  subst tw
  obtain⟨i',z',bh,aE,bB,cK,kW⟩:=ht.info
  obtain rfl:z'=z:=by
   have:=hz.zero
   rw[bh,Option.map_some,aE]at this;exact Option.some.inj (Option.some.inj this)
  subst bB cK
  have fm:=Lib.run_append_nil_zeros (P:=P) w tx fo ty e i' z' kq kn ht.dL CR bh aE k h0 hc (by omega) (by omega)
  have pI:=grownCap_ge w k 0 e
  generalize grownCap w k 0 e=C at fm pI
  have xB:=size_zeroCells z'.cells k
  have zX:=size_zeroCells z'.cells (C -k)
  have O4: ∀m i j,i<m→j<i'.size→(Builtin.zeroCells z'.cells m)[i*i'.size+j]? =z'.cells[j]? :=fun m i j hi hj=>by
   have bo:i*i'.size+j<m*z'.cells.size:=by
    rw[kW]
    have:(i+1)*i'.size≤m*i'.size:=Nat.mul_le_mul_right _ hi
    rw[Nat.add_mul]at this;omega
   have e1:(i*i'.size+j)%z'.cells.size=j:=by rw[kW,Nat.mul_comm,Nat.mul_add_mod];exact Nat.mod_eq_of_lt hj
   have O5:j<z'.cells.size:=by omega
   simp[Builtin.zeroCells,bo,e1,O5]
  refine⟨_,_,_,?_,hw.drew.call (uM (enc:=enc) (c:=i'.size) (xs:=List.replicate k x0) (cs:=Builtin.zeroCells z'.cells k++Builtin.zeroCells z'.cells (C -k)) (e:=e) rfl k C (by simp) pI ij ?_ fun i x hx j hj=> ?_),hk _ C pI⟩
  ·
   simp[execOp,ha.ev hx,ha.ev hy,resolve,invoke,builtin,fm,Result.andThen,Sv.val]
  ·
   rw[Array.size_append,xB,zX,kW,←Nat.add_mul];exact Nat.mul_le_mul_right _ (by omega)
  ·
   have hi:i<k:=by
    have:=(List.getElem?_eq_some_iff.1 hx).1
    simpa using this
   obtain rfl:x0=x:=by rw[List.getElem?_replicate,if_pos hi]at hx;exact Option.some.inj hx
   rw[HK,←O4 k i j hi hj,Array.getElem?_append_left]
   rw[xB,kW]
   have:(i+1)*i'.size≤k*i'.size:=Nat.mul_le_mul_right _ hi
   rw[Nat.add_mul]at this;omega
theorem zZ{t e:TypeId}{x:Operand}{m:Nat}[ht:eu P t e m](hx:ev env x=some (.slice none 0 0)):
  Ry P N w0 env L ⟨d, .call {callee:= .builtin .cap,args:= #[x],argTypes:= #[t]},ty,ps,af,gd⟩ (.int .i64 (0:Nat)):=fun a w ha _=>by
 have hu:P.underlying t=some (.slice (P.elem t)):=by rw[uL ht.dL];exact ht.dL
 have:=run_cap_slice (P:=P) (w:=w) t ty none 0 0 hu
 simp[execOp,ha.ev hx,resolve,invoke,builtin,this,Result.andThen,goInt]
class rS(w0:World)(L:List aj){τ:Type}[Deep τ](xs:List τ):Prop where
 h: ∀w,Mem w0 L w→ ∀x∈xs,Deep.aY (hp w) x
instance rS.nil{τ:Type}[Deep τ]:rS w0 L ([]:List τ):=⟨fun _ _ _ h=>by cases h⟩
instance rS.cons{τ:Type}[Deep τ]{x:τ}{xs:List τ}[a:aT w0 L x][b:rS w0 L xs]:rS w0 L (x::xs):=⟨fun w hw y hy=>by
 rcases List.mem_cons.1 hy with rfl|hy
 ·
  exact a.h w hw
 ·
  exact b.h w hw y hy⟩
instance (priority:=low) aT.flat {τ:Type}[Deep τ][Plain τ]{enc:τ→Array Value}{c:Nat}[fe τ enc c]{s:Sv}{xs:List τ}[q:cO w0 L enc c s xs]:aT w0 L (⟨s,xs⟩:Sl τ):=⟨fun w hw=>by
 have hl:=q.h w hw
 have e1:Deep.cells (τ:=τ)=enc:=funext (fe.h (c:=c))
 have e2:Deep.c τ=c:=fe.hc (enc:=enc)
 refine⟨?_,fun x _=>Deep.ik _ x (by rw[Plain.h x];exact trivial)⟩
 subst e1 e2
 exact hl⟩
instance (priority:=low) aT.rows {τ:Type}[Deep τ]{enc:τ→Array Value}{c:Nat}[fe τ enc c]{s:Sv}{xs:List τ}[q:cO w0 L enc c s xs][g:rS w0 L xs]:aT w0 L (⟨s,xs⟩:Sl τ):=⟨fun w hw=>by
 have hl:=q.h w hw
 have e1:Deep.cells (τ:=τ)=enc:=funext (fe.h (c:=c))
 have e2:Deep.c τ=c:=fe.hc (enc:=enc)
 refine⟨?_,g.h w hw⟩
 subst e1 e2
 exact hl⟩
theorem O6{τ:Type}[Deep τ]{s:Sv}{xs:List τ}[g:aT w0 L (⟨s,xs⟩:Sl τ)](h: ∀a:Sl τ,a=⟨s,xs⟩→aT w0 L a→Sq P N w0 l Q rest (cl env d a.sv.val) L):Sq P N w0 l Q rest (cl env d s.val) L:=h _ rfl g
def jf(l:List (Sl UInt8)):List UInt8:=(l.map Sl.xs).flatten
theorem z0{l:List (Sl UInt8)}{i:Nat}{x:Sl UInt8}(h:l[i]? =some x):jf (l.take (i+1))=jf (l.take i)++x.xs:=by
 rw[jf,List.take_add_one,h];simp[jf]
theorem O7(l:List (Sl UInt8))(i:Nat):(jf (l.take i)).length≤(jf l).length:=by
 have e:jf l=jf (l.take i)++jf (l.drop i):=by
  unfold jf
  rw[←List.flatten_append,←List.map_append,List.take_append_drop]
 rw[e,List.length_append];omega
end
theorem O8(l:List UInt8): ∀n,l.foldl (fun a b=>a*256+b.toNat) n=n*256^l.length+de l:=by
 induction l with
 |nil=>intro n;simp[de]
 |cons x l ih=>
  intro n
  rw[List.foldl_cons,ih,show de (x::l)=l.foldl (fun a b=>a*256+b.toNat) (0*256+x.toNat)from rfl,ih,List.length_cons,Nat.pow_succ]
  simp only[Nat.zero_mul,Nat.zero_add,Nat.add_mul]
  rw[Nat.mul_assoc n,Nat.mul_comm 256,Nat.add_assoc]
theorem O9(x:UInt8)(l:List UInt8):de (x::l)=x.toNat*256^l.length+de l:=by
 rw[show de (x::l)=l.foldl (fun a b=>a*256+b.toNat) (0*256+x.toNat)from rfl,O8];simp
theorem HL(l:List UInt8):de l<256^l.length:=by
 have:=Cg l l.length (Nat.le_refl _)
 rwa [List.take_length]at this
theorem Pa(m n:Nat): ∀k,be (m*256^k+n) k=be n k
 |0=>rfl
 |k+1=>by
  have e:m*256^(k+1)+n=(m*256)*256^k+n:=by rw[Nat.pow_succ,Nat.mul_assoc,Nat.mul_comm 256]
  rw[be,be,e,Pa (m*256) n k,Nat.add_comm,Nat.add_mul_div_right _ _ (Nat.pow_pos (by decide))]
  congr 1
  apply UInt8.toNat_inj.1
  rw[oA,oA];omega
theorem z1(n:Nat): ∀k,de (be n k)=n%256^k
 |0=>by simp[be,de,Nat.mod_one]
 |k+1=>by
  rw[be,O9,gD,z1 n k,oA,Nat.pow_succ,Nat.mod_mul,Nat.mul_comm,Nat.add_comm]
open Go.RowKit
section
variable {w0:World} {L:List aj} {α:Type} {enc:α→Array Value} {c:Nat} {xs ys:List α} {s t:Sv} {g:Bool}
end
section
variable {P:Program} {N:ct} {w0:World} {env:Env} {L:List aj} {l:List Oper} {Q:Exit→Act→World→Prop} {rest:List Oper} {d:Option Tmp} {ty:TypeId} {ps:String} {af:Array Edge}
end
section
variable {w0:World} {L:List aj} {τ:Type} [Deep τ]
instance (priority:=low) rS.of {a:Sl τ}[q:aT w0 L a]:rS w0 L a.xs:=⟨fun w hw=>(q.h w hw).2⟩
end
section
variable {w0:World} {L:List aj} {τ:Type} [Deep τ]
end
open Go.RowKit
class dZ(τ:Type)[d:Deep τ] where
 reach:τ→Nat→Prop
 congr: ∀(h h':Nat→Option Obj) (x:τ),(∀k,reach x k→h' k=h k)→d.aY h x→d.aY h' x
theorem bP.congr{α:Type}{enc:α→Array Value}{c:Nat}{h h':Nat→Option Obj}{s:Sv}{xs:List α}(e:xs≠[]→h' s.b=h s.b)(r:bP enc c h s xs):bP enc c h' s xs:=
 ⟨r.ok,r.len,fun i x hi j hj=>by
  have cD:xs≠[]:=fun he=>by rw[he]at hi;simp at hi
  rw[←r.row i x hi j hj];unfold lF;rw[e cD]⟩
@[reducible] def dZ.flat {τ:Type}[d:Deep τ](hg: ∀h x,d.aY h x):dZ τ:=⟨fun _ _=>False,fun _ h' x _ _=>hg h' x⟩
instance dZ.slice{τ:Type}[d:Deep τ][r:dZ τ]:dZ (Sl τ) where
 reach a k:=(a.xs≠[]∧k=a.sv.b)∨ ∃x∈a.xs,r.reach x k
 congr h h' a e g:=⟨g.1.congr fun cD=>e _ (.inl ⟨cD,rfl⟩),fun x hx=>r.congr h h' x (fun k hk=>e k (.inr ⟨x,hx,hk⟩)) (g.2 x hx)⟩
instance:dZ UInt8:=dZ.flat fun _ _=>trivial
def fz{τ:Type}[d:Deep τ][r:dZ τ](x:τ):aj:=⟨r.reach x,fun h=>d.aY h x,fun h h' e s=>r.congr h h' x e s⟩
section
variable {w0:World} {L:List aj} {τ:Type} [d:Deep τ] [r:dZ τ]
instance (priority:=high) aT.frozen {a:τ}{i:Nat}[q:At L (fz a) i]:aT w0 L a:=⟨fun _ hw=>hw.get q.h⟩
theorem Mem.freeze{w:World}{es:List aj}(x:τ)(hg:d.aY (hp w) x)(hr: ∀k,r.reach x k→ ∃e∈es,e.fp k)(h:Mem w0 (es++L) w):Mem w0 (fz x::L) w:=by
 have hd:=List.pairwise_append.1 h.mo
 refine⟨h.below,fun e he=> ?_,fun e he k hk=> ?_,List.pairwise_cons.2 ⟨fun y hy k hk jd=> ?_,hd.2.1⟩⟩
 ·
  rcases List.mem_cons.1 he with rfl|he
  ·
   exact hg
  ·
   exact h.sat e (List.mem_append.2 (.inr he))
 ·
  rcases List.mem_cons.1 he with rfl|he
  ·
   obtain⟨e',oz,jd⟩:=hr k hk
   exact h.iF e' (List.mem_append.2 (.inl oz)) k jd
  ·
   exact h.iF e (List.mem_append.2 (.inr he)) k hk
 ·
  obtain⟨e',oz,mZ⟩:=hr k hk
  exact hd.2.2 e' oz y hy k mZ jd
theorem Mem.Pb{w:World}{e:aj}(x:τ)(hg:d.aY (hp w) x)(hr: ∀k,r.reach x k→e.fp k)(h:Mem w0 (e::L) w):Mem w0 (fz x::L) w:=
 Mem.freeze (es:=[e]) x hg (fun k hk=>⟨e,by simp,hr k hk⟩) h
end
open Go.RowKit Go.Kb
section
variable {w0:World} {L:List aj} {τ:Type} [Deep τ] {xs:List τ} {es:List aj}
theorem Mem.tz{w:World}(h:Mem w0 L w):Mem w0 (aj.all []::L) w:=Mem.wZ.2 h
theorem Mem.Pc{w:World}{e:aj}(h:Mem w0 (e::aj.all es::L) w):Mem w0 (aj.all (e::es)::L) w:=Mem.uP.2 h
theorem Mem.HM{w:World}{s:Sv}{enc:τ→Array Value}{c:Nat}[f:fe τ enc c][Plain τ](h:Mem w0 (own enc c s xs::L) w):Mem w0 (Deep.bY (⟨s,xs⟩:Sl τ)::L) w:=Tr.Cl.mem h
end
end Go.aB
namespace Go.Kb
structure Pd where
 len:Int
 dv:UInt16
 deriving DecidableEq
structure Nd where
 Pe:List Pd
 Pf:List Int
 hs:Pe.length=16
 hn:Pf.length=16
 deriving DecidableEq
def Pg(k:Key)(n b:Nat):Key:=if n%2=0 then xj k (n/2) (16*b%256)else xj k (n/2) ((cz k (n/2)+b)%256)
def Ph(p:cX):Nat:=((p.len -1)/4).toNat
structure Wy where
 steps:Nat
 key:Key
 deriving DecidableEq
def root:Wy:=⟨0,0#128⟩
def oL(r:Rt)(bits:Int)(w:Wy)(b:Nat):Bool:=decide (r.p.bits=bits)&&decide (Ph r.p=w.steps)&&N5 r.p (Pg w.key w.steps b)
section
variable {k:Key} {n b:Nat}
end
section
variable {bits:Int} {W:List Wy} {R:List Rt} {w:Wy} {node b:Nat}
end
section
variable {bits:Int} {W:List Wy} {R:List Rt} {r:Rt} {f:Nat}
end
theorem u4{t:List Rt}(h:dg t=true){r:Rt}(hr:r∈t):cP r.p=true:=by
 obtain⟨i,hi⟩:=List.mem_iff_getElem?.1 hr
 have bo:=(List.getElem?_eq_some_iff.1 hi).1
 cases hm:cP r.p with
 |true=>rfl
 |false=>rw[zF bo (Hb hi hm)]at h;cases h
theorem z3{t:List Rt}(h:dg t=true):t.length≤256:=by
 rcases Nat.lt_or_ge 256 t.length with h1|h1
 ·
  rw[G9 h1]at h;cases h
 ·
  exact h1
open Go.aB
def bD(x:Int):Array Value:= #[.int .i64 x]
instance:bx bD 1:=⟨fun _=>rfl,fun _=>by simp[bD,Value.oneCell']⟩
instance (x:Int):cj (bD x) 0 (.int .i64 x):=⟨rfl⟩
instance:Deep Int:=Deep.flat bD 1
instance:fe Int bD 1:=⟨rfl,fun _=>rfl⟩
instance:Plain Int:=⟨fun _=>rfl⟩
end Go.Kb
namespace Go.aB
open Go.Kb
section
variable {P:Program} {N:ct} {w0:World} {env:Env} {L:List aj} {d:Option Tmp} {ty:TypeId} {ps:String} {af:Array Edge} {gd:Option (Nat×Bool)}
theorem je{x:Operand}{a:Addr}(hx:ev env x=some (.pointer (some a))):Ry P N w0 env L ⟨d, .nilCheck x,ty,ps,af,gd⟩ (.pointer (some a)):=fun _ w ha _=>by
 simp only[execOp,ha.ev hx,Sem.run_pure]
variable {s:Sv} {xs:List Nd} {a:Nd}
end
section
variable {P:Program} {N:ct} {w0:World} {env:Env} {L:List aj} {l:List Oper} {Q:Exit→Act→World→Prop} {rest:List Oper} {ty:TypeId} {ps:String} {af:Array Edge}
variable {s:Sv} {xs:List Nd} {a:Nd}
end
end Go.aB
namespace Go.Kb
open Go.aB
theorem pR(k:IntKind)(n:Int):(Value.int k n).oneCell'=true:=rfl
theorem pS(b:Bool):(Value.bool b).oneCell'=true:=rfl
instance:dZ Int:=dZ.flat fun _ _=>trivial
structure Ft where
 op:Int
 fail:Bool
 cut:Bool
 mask:UInt8
 deriving DecidableEq
def cY(x:Ft):Array Value:= #[.int .i64 x.op, .bool x.fail, .bool x.cut, .int .u8 x.mask.toNat]
instance:bx cY 4:=⟨fun _=>rfl,fun x=>by
 simp only[cY,List.all_toArray,List.all_cons,List.all_nil,Sv.one,pR,pS,Bool.and_self]⟩
instance (x:Ft):fw (cY x) 4:=⟨rfl,bx.one x⟩
instance (x:Ft):cj (cY x) 0 (.int .i64 x.op):=⟨rfl⟩
instance (x:Ft):cj (cY x) 1 (.bool x.fail):=⟨rfl⟩
instance (x:Ft):cj (cY x) 2 (.bool x.cut):=⟨rfl⟩
instance (x:Ft):cj (cY x) 3 (.int .u8 x.mask.toNat):=⟨rfl⟩
instance:Deep Ft:=Deep.flat cY 4
instance:Plain Ft:=⟨fun _=>rfl⟩
instance:dZ Ft:=dZ.flat fun _ _=>trivial
instance:fe Ft cY 4:=⟨rfl,fun _=>rfl⟩
def u5:Ft:=⟨0,false,false,0⟩
structure Bk where
 ae:Sl (Sl UInt8)
 used:Int
 bp:Int
 bad:Bool
def bI(x:Bk):Array Value:= #[x.ae.sv.val, .int .i64 x.used, .int .i64 x.bp, .bool x.bad]
instance:bx bI 4:=⟨fun _=>rfl,fun x=>by
 simp only[bI,List.all_toArray,List.all_cons,List.all_nil,Sv.one,pR,pS,Bool.and_self]⟩
instance (x:Bk):fw (bI x) 4:=⟨rfl,bx.one x⟩
instance (x:Bk):cj (bI x) 0 (x.ae.sv.val):=⟨rfl⟩
instance (x:Bk):cj (bI x) 1 (.int .i64 x.used):=⟨rfl⟩
instance (x:Bk):cj (bI x) 2 (.int .i64 x.bp):=⟨rfl⟩
instance (x:Bk):cj (bI x) 3 (.bool x.bad):=⟨rfl⟩
instance:Deep Bk where
 c:=4
 cells:=bI
 size:=bx.size
 one:=bx.one
 aY h x:=Deep.aY h x.ae
 bY x:=Deep.bY x.ae
 ik h x hs:=Deep.ik h x.ae hs
 mono w w' x hg hb:=Deep.mono w w' x.ae hg hb
instance:dZ Bk where
 reach x k:=dZ.reach x.ae k
 congr h h' x e hg:=dZ.congr h h' x.ae (fun k hk=>e k (hk)) hg
instance {w0:World}{L:List aj}{x:Bk}[q:aT w0 L x]:aT w0 L x.ae:=⟨fun w hw=>(q.h w hw)⟩
instance:fe Bk bI 4:=⟨rfl,fun _=>rfl⟩
def nj:Bk:=⟨⟨Sv.none,[]⟩,0,0,false⟩
structure Cp where
 ae:Int
 size:Int
 blocks:Sl Bk
 ops:Int
 off:Bool
 aS:Sl Ft
def az(x:Cp):Array Value:= #[.int .i64 x.ae, .int .i64 x.size,x.blocks.sv.val, .int .i64 x.ops, .bool x.off,x.aS.sv.val]
instance:bx az 6:=⟨fun _=>rfl,fun x=>by
 simp only[az,List.all_toArray,List.all_cons,List.all_nil,Sv.one,pR,pS,Bool.and_self]⟩
instance (x:Cp):fw (az x) 6:=⟨rfl,bx.one x⟩
instance (x:Cp):cj (az x) 0 (.int .i64 x.ae):=⟨rfl⟩
instance (x:Cp):cj (az x) 1 (.int .i64 x.size):=⟨rfl⟩
instance (x:Cp):cj (az x) 2 (x.blocks.sv.val):=⟨rfl⟩
instance (x:Cp):cj (az x) 3 (.int .i64 x.ops):=⟨rfl⟩
instance (x:Cp):cj (az x) 4 (.bool x.off):=⟨rfl⟩
instance (x:Cp):cj (az x) 5 (x.aS.sv.val):=⟨rfl⟩
instance:Deep Cp where
 c:=6
 cells:=az
 size:=bx.size
 one:=bx.one
 aY h x:=Deep.aY h x.blocks∧Deep.aY h x.aS
 bY x:= .two (Deep.bY x.blocks) (Deep.bY x.aS)
 ik h x hs:=⟨Deep.ik h x.blocks hs.1,Deep.ik h x.aS hs.2.1⟩
 mono w w' x hg hb:=⟨Deep.mono w w' x.blocks hg.1 hb,Deep.mono w w' x.aS hg.2 hb⟩
instance:dZ Cp where
 reach x k:=dZ.reach x.blocks k∨dZ.reach x.aS k
 congr h h' x e hg:=⟨dZ.congr h h' x.blocks (fun k hk=>e k (.inl hk)) hg.1,dZ.congr h h' x.aS (fun k hk=>e k (.inr hk)) hg.2⟩
instance {w0:World}{L:List aj}{x:Cp}[q:aT w0 L x]:aT w0 L x.blocks:=⟨fun w hw=>(q.h w hw).1⟩
instance {w0:World}{L:List aj}{x:Cp}[q:aT w0 L x]:aT w0 L x.aS:=⟨fun w hw=>(q.h w hw).2⟩
instance {w0:World}{L:List aj}{ae:Int}{size:Int}{blocks:Sl Bk}{ops:Int}{off:Bool}{aS:Sl Ft}[q0:aT w0 L blocks][q1:aT w0 L aS]:aT w0 L (Cp.mk ae size blocks ops off aS):=⟨fun w hw=>⟨q0.h w hw,q1.h w hw⟩⟩
def fx:Cp:=⟨0,0,⟨Sv.none,[]⟩,0,false,⟨Sv.none,[]⟩⟩
end Go.Kb
namespace Go.aB
theorem bP.cut{α:Type}{enc:α→Array Value}{c:Nat}{h:Nat→Option Obj}{s:Sv}{xs:List α}(r:bP enc c h s xs){lo hi:Nat}(h1:lo≤hi)(h2:hi≤xs.length):bP enc c h ⟨s.nil,s.b,if hi=lo then s.o else s.o+lo*c,hi -lo,hi -lo,s.sp⟩ ((xs.drop lo).take (hi -lo)):=by
  have hl:=r.len
  have hle:=r.ok.le
  have hO:=r.ok.bd
  refine⟨⟨fun hn=> ?_,Nat.le_refl _,?_,fun hc=> ?_⟩,?_,fun i x mq j hj=> ?_⟩
  ·have:=r.ok.nil hn
   simp only at this⊢;omega
  ·simp only;omega
  ·simp only at hc⊢;exact r.ok.sp (by omega)
  ·simp;omega
  ·have eT:=(List.getElem?_eq_some_iff.1 mq).1
   rw[List.length_take,List.length_drop]at eT
   have hx:xs[lo+i]? =Option.some x:=by rw[List.getElem?_take,if_pos (by omega),List.getElem?_drop]at mq;exact mq
   have:=r.row (lo+i) x hx j hj
   simp only
   rw[if_neg (by omega),show s.o+lo*c+i*c+j=s.o+(lo+i)*c+j by rw[Nat.add_mul];omega]
   exact this
end Go.aB
namespace Go.Kb
open Go.aB
structure BV where
  ae:List (List UInt8)
  used:Int
  bp:Int
  bad:Bool
  deriving DecidableEq
structure CV where
  ae:Int
  size:Int
  blocks:List BV
  ops:Int
  off:Bool
  aS:List Ft
  deriving DecidableEq
def aI(l:List (Sl UInt8)):List (List UInt8):=l.map fun x=>x.xs
theorem gW(l:List (Sl UInt8)):(aI l).length=l.length:=by simp[aI]
theorem jr{l:List (Sl UInt8)}{i:Nat}{x:Sl UInt8}(h:l[i]? =some x):(aI l)[i]? =some x.xs:=by simp[aI,h]
def bv(b:Bk):BV:=⟨aI b.ae.xs,b.used,b.bp,b.bad⟩
def fy(l:List Bk):List BV:=l.map bv
theorem dU(l:List Bk):(fy l).length=l.length:=by simp[fy]
theorem gX{l:List Bk}{i:Nat}{x:Bk}(h:l[i]? =some x):(fy l)[i]? =some (bv x):=by simp[fy,h]
def cv(c:Cp):CV:=⟨c.ae,c.size,fy c.blocks.xs,c.ops,c.off,c.aS.xs⟩
def eZ(rm:Sv)(lo hi:Nat):Sv:=⟨rm.nil,rm.b,if hi=lo then rm.o else rm.o+lo,hi -lo,hi -lo,rm.sp⟩
def c6(rm:Sv):Nat→List (List UInt8)→List (Sl UInt8)
  |_,[]=>[]
  |o,p::r=>⟨eZ rm o (o+p.length),p⟩::c6 rm (o+p.length) r
theorem rT(rm:Sv): ∀(o:Nat) (l:List (List UInt8)),aI (c6 rm o l)=l
  |_,[]=>rfl
  |o,p::r=>by
   have:=rT rm (o+p.length) r
   simp only[aI,c6,List.map_cons]at this⊢
   rw[this]
theorem CZ(rm:Sv): ∀(o:Nat) (l:List (List UInt8)),(c6 rm o l).length=l.length
  |_,[]=>rfl
  |o,p::r=>by rw[c6,List.length_cons,List.length_cons,CZ]
theorem z4(rm:Sv): ∀(o:Nat) (l:List (List UInt8)) (x:Sl UInt8),x∈c6 rm o l→x.sv.b=rm.b
  |_,[],_,h=>by cases h
  |o,p::r,x,h=>by
   rcases List.mem_cons.1 h with rfl|h
   ·rfl
   ·exact z4 rm _ r x h
theorem HN(rm:Sv): ∀(o:Nat) (l:List (List UInt8)) (p:List UInt8),c6 rm o (l++[p])=c6 rm o l++[⟨eZ rm (o+l.flatten.length) (o+l.flatten.length+p.length),p⟩]
  |o,[],p=>by simp[c6]
  |o,q::r,p=>by
   rw[List.cons_append,c6,HN,c6]
   simp only[List.flatten_cons,List.length_append,List.cons_append,Nat.add_assoc]
theorem HO{rm:Sv}{h:Nat→Option Obj}{all:List UInt8}(hl:bP aM 1 h rm all): ∀(o:Nat) (l:List (List UInt8)),o+l.flatten.length≤all.length→(all.drop o).take l.flatten.length=l.flatten→ ∀x∈c6 rm o l,bP aM 1 h x.sv x.xs
  |_,[],_,_,_,hx=>by cases hx
  |o,p::r,hb,he,x,hx=>by
   rw[List.flatten_cons,List.length_append]at hb
   rw[List.flatten_cons,List.length_append]at he
   have e1:(all.drop o).take p.length=p:=by
      have:=congrArg (List.take p.length) he
      rw[List.take_take,Nat.min_eq_left (by omega),List.take_left']at this
      ·exact this
      ·rfl
   have e2:(all.drop (o+p.length)).take r.flatten.length=r.flatten:=by
      have:=congrArg (List.drop p.length) he
      rw[List.drop_take,List.drop_drop,List.drop_left' rfl,show p.length+r.flatten.length -p.length=r.flatten.length by omega]at this
      exact this
   rcases List.mem_cons.1 hx with rfl|hx
   ·have:=hl.cut (lo:=o) (hi:=o+p.length) (by omega) (by omega)
    rw[Nat.mul_one,show o+p.length -o=p.length by omega,e1]at this
    simpa[eZ]using this
   ·exact HO hl (o+p.length) r (by omega) e2 x hx
def u6(a:Sl (Sl UInt8)):aj:=⟨fun k=> ∃x∈a.xs,k=x.sv.b,fun h=>a.xs=[]∨ ∃rm,rm.nil=false∧a.xs=c6 rm 0 (aI a.xs)∧(own aM 1 rm (aI a.xs).flatten).sat h,fun h h' e s=>by
  rcases s with s|⟨rm,h1,h2,h3⟩
  ·exact .inl s
  ·rcases List.eq_nil_or_concat a.xs with hx|⟨l,x,hx⟩
   ·exact .inl hx
   ·have hm:x∈a.xs:=by rw[hx];simp
    have hb:x.sv.b=rm.b:=z4 rm 0 _ x (h2▸hm)
    exact .inr ⟨rm,h1,h2,(own aM 1 rm (aI a.xs).flatten).loc h h' (fun k hk=>e k ⟨x,hm,by rw[hb];exact hk.2⟩) h3⟩⟩
def ei(a:Sl (Sl UInt8)):aj:= .two (own (bT (τ:=UInt8)) 1 a.sv a.xs) (u6 a)
theorem Pj{a:Sl (Sl UInt8)}{h:Nat→Option Obj}(s:(u6 a).sat h): ∀x∈a.xs,bP aM 1 h x.sv x.xs:=fun x hx=>by
  rcases s with s|⟨rm,h1,h2,h3⟩
  ·rw[s]at hx;cases hx
  ·refine HO h3.1 0 (aI a.xs) (by omega) (by rw[List.drop_zero,List.take_length]) x (h2▸hx)
theorem xC{α:Type}{enc:α→Array Value}{c:Nat}{s:Sv}{xs:List α}{h:Nat→Option Obj}(hl:bP enc c h s xs)(hx:xs≠[]):(own enc c s xs).fp s.b:=
  ⟨hl.ok.some (by have:=hl.len;have:=List.length_pos_iff.2 hx;omega),rfl⟩
theorem aj.z5{k:Nat}: ∀{es:List aj} {e:aj},e∈es→e.fp k→(aj.all es).fp k
  |_::_,_,he,hk=>(List.mem_cons.1 he).elim (fun h=> .inl (h▸hk)) fun h=> .inr (aj.z5 h hk)
theorem HP{α:Type}{e:α}: ∀{L:List α} {i:Nat},L[i]? =Option.some e→L.Perm (e::L.eraseIdx i)
  |[],i,h=>by simp at h
  |x::L,0,h=>by obtain rfl:x=e:=by simpa using h
                simp
  |x::L,i+1,h=>by
   have:=HP (L:=L) (i:=i) (by simpa using h)
   rw[List.eraseIdx_cons_succ]
   exact(this.cons x).trans (.swap _ _ _)
theorem Mem.pick{τ:Type}{f:τ→aj}{w0 w:World}{L:List aj}{xs:List τ}{i:Nat}{x:τ}(hx:xs[i]? =some x):Mem w0 (aj.all (xs.map f)::L) w↔Mem w0 (f x::aj.all ((xs.eraseIdx i).map f)::L) w:=by
  have hp:(xs.map f).Perm (f x::(xs.eraseIdx i).map f):=by
    have:=HP hx
    simpa using this.map f
  rw[Mem.w9]
  have e:Mem w0 (f x::aj.all ((xs.eraseIdx i).map f)::L) w↔Mem w0 (f x::((xs.eraseIdx i).map f++L)) w:=by
    have sw: ∀(a b:aj) (K:List aj),Mem w0 (a::b::K) w↔Mem w0 (b::a::K) w:=fun a b K=>⟨fun h=>h.perm (List.Perm.swap _ _ _),fun h=>h.perm (List.Perm.swap _ _ _)⟩
    rw[sw,Mem.w9]
    exact⟨fun h=>h.perm List.perm_middle,fun h=>h.perm List.perm_middle.symm⟩
  rw[e]
  exact⟨fun h=>h.perm (hp.append_right L),fun h=>h.perm (hp.append_right L).symm⟩
theorem Pk{w0 w:World}{L:List aj}{a:Sl Bk}(h:Mem w0 (own bI 4 a.sv a.xs::aj.all (a.xs.map fun b:Bk=>ei b.ae)::L) w):Mem w0 (fz a::L) w:=by
  have hs:=h.sat (own bI 4 a.sv a.xs) (by simp)
  have ha:=h.sat (aj.all (a.xs.map fun b:Bk=>ei b.ae)) (by simp)
  have hb: ∀x∈a.xs,(ei x.ae).sat fun k=>w.heap[k]? :=fun x hx=>aj.xd ha _ (List.mem_map_of_mem hx)
  refine Mem.freeze (es:=[own bI 4 a.sv a.xs,aj.all (a.xs.map fun b:Bk=>ei b.ae)]) a ⟨hs.1,fun x hx=>⟨(hb x hx).1.1,fun y hy=>⟨Pj (hb x hx).2.1 y hy,fun _ _=>trivial⟩⟩⟩ (fun k hk=> ?_) h
  rcases hk with⟨cD,rfl⟩|⟨x,hx,hk⟩
  ·exact⟨_,by simp,xC hs.1 cD⟩
  ·refine⟨aj.all (a.xs.map fun b:Bk=>ei b.ae),by simp,aj.z5 (List.mem_map_of_mem hx) ?_⟩
   rcases hk with⟨cD,rfl⟩|⟨y,hy,⟨_,rfl⟩|⟨_,_,hf⟩⟩
   ·exact .inl (xC (hb x hx).1.1 cD)
   ·exact .inr ⟨y,hy,rfl⟩
   ·exact hf.elim
theorem z6{τ:Type}[Deep τ][r:dZ τ][Plain τ]{enc:τ→Array Value}{c:Nat}[f:fe τ enc c](hr: ∀(x:τ) k,¬r.reach x k)(hg: ∀h (x:τ),Deep.aY h x){w0 w:World}{L:List aj}{a:Sl τ}(h:Mem w0 (own enc c a.sv a.xs::L) w):Mem w0 (fz a::L) w:=by
  have hs:=h.sat (own enc c a.sv a.xs) (by simp)
  have e1:Deep.cells (τ:=τ)=enc:=funext (fe.h (c:=c))
  have e2:Deep.c τ=c:=fe.hc (enc:=enc)
  refine Mem.Pb a ⟨by rw[e1,e2];exact hs.1,fun x _=>hg _ x⟩ (fun k hk=> ?_) h
  rcases hk with⟨cD,rfl⟩|⟨x,_,hk⟩
  ·exact xC hs.1 cD
  ·exact(hr x k hk).elim
theorem z8{w0 w:World}{L:List aj}{d:Cp}(h:Mem w0 (fz d.blocks::fz d.aS::L) w):Mem w0 (fz d::L) w:=by
  refine Mem.freeze (es:=[fz d.blocks,fz d.aS]) d ⟨h.sat (fz d.blocks) (by simp),h.sat (fz d.aS) (by simp)⟩ (fun k hk=> ?_) h
  rcases hk with hk|hk
  ·exact⟨fz d.blocks,by simp,hk⟩
  ·exact⟨fz d.aS,by simp,hk⟩
theorem HQ{w0 w:World}{L:List aj}{a:Sl Ft}(h:Mem w0 (own cY 4 a.sv a.xs::L) w):Mem w0 (fz a::L) w:=z6 (fun _ _ h=>h) (fun _ _=>trivial) h
theorem tA{w0 w:World}{L:List aj}{a:Sl Int}(h:Mem w0 (own bD 1 a.sv a.xs::L) w):Mem w0 (fz a::L) w:=z6 (fun _ _ h=>h) (fun _ _=>trivial) h
theorem C0{w0 w:World}{L:List aj}{a:Sl UInt8}(h:Mem w0 (own aM 1 a.sv a.xs::L) w):Mem w0 (fz a::L) w:=z6 (fun _ _ h=>h) (fun _ _=>trivial) h
open Go.aB
def c8:Int:=1099511627776
def nR(b p s:Int):Bool:=decide (1≤b)&&decide (b≤32)&&decide (1≤p)&&decide (p≤16)&&decide (1≤s)&&decide (s≤256)
theorem jg{b p s:Int}:nR b p s=true↔1≤b∧b≤32∧1≤p∧p≤16∧1≤s∧s≤256:=by
 simp only[nR,Bool.and_eq_true,decide_eq_true_eq,and_assoc]
def HR(s:Int)(x:List UInt8):Bool:=decide ((x.length:Int)=s)
def k8(p s:Int)(b:BV):Bool:=decide ((b.ae.length:Int)=p)&&decide (0≤b.used)&&decide (b.used≤p)&&decide (0≤b.bp)&&decide (b.bp≤c8)&&b.ae.all (HR s)
theorem ez{p s:Int}{b:BV}:k8 p s b=true↔(b.ae.length:Int)=p∧0≤b.used∧b.used≤p∧0≤b.bp∧b.bp≤c8∧ ∀x∈b.ae,(x.length:Int)=s:=by
 simp only[k8,HR,Bool.and_eq_true,decide_eq_true_eq,and_assoc,List.all_eq_true]
def aW(c:CV):Bool:=nR c.blocks.length c.ae c.size&&decide (0≤c.ops)&&decide (c.ops≤c8)&&decide (c.aS.length≤64)&&c.blocks.all (k8 c.ae c.size)
theorem eo{c:CV}:aW c=true↔nR c.blocks.length c.ae c.size=true∧0≤c.ops∧c.ops≤c8∧c.aS.length≤64∧ ∀b∈c.blocks,k8 c.ae c.size b=true:=by
 simp only[aW,Bool.and_eq_true,decide_eq_true_eq,and_assoc,List.all_eq_true]
def gG(c:CV)(block:Int):Bool:=aW c&&decide (0≤block)&&decide (block<c.blocks.length)
theorem ir{c:CV}{block:Int}:gG c block=true↔aW c=true∧0≤block∧block<c.blocks.length:=by
 simp only[gG,Bool.and_eq_true,decide_eq_true_eq,and_assoc]
def Pm:BV:=⟨[],0,0,false⟩
def ak(c:CV)(block:Int):BV:=c.blocks.getD block.toNat Pm
def fL(n:Int):List UInt8:=List.replicate n.toNat 255
def oM(b p s:Int):CV×Int:=if nR b p s=true then(⟨p,s,List.replicate b.toNat ⟨List.replicate p.toNat (fL s),0,0,false⟩,0,false,[]⟩,0)else(⟨0,0,[],0,false,[]⟩,1)
def bw(c:CV):Ft×Bool:=match c.aS.find? fun f=>decide (f.op=c.ops)with
 |some f=>(f,f.cut||f.fail)
 |none=>(u5,false)
def kr(f:Ft):Int:=if f.cut=true then 7 else 9
def lQ(c:CV)(block lR:Int)(p:List UInt8):Bool:=gG c block&&decide (0≤lR)&&decide (lR<c.ae)&&decide ((p.length:Int)=c.size)&&decide (c.ops<c8)
theorem j7{c:CV}{block lR:Int}{p:List UInt8}:lQ c block lR p=true↔gG c block=true∧0≤lR∧lR<c.ae∧(p.length:Int)=c.size∧c.ops<c8:=by
 simp only[lQ,Bool.and_eq_true,decide_eq_true_eq,and_assoc]
def cI(m:UInt8)(p:List UInt8):List UInt8:=p.map fun x=>x|||m
def lS(c:CV)(p:List UInt8):List UInt8:=if(bw c).2=true then cI (~~~(bw c).1.mask) p else p
def hQ(c:CV)(block lR:Int)(p:List UInt8):CV:=
 {c with ops:=c.ops+1,off:=(bw c).2&&(bw c).1.cut,blocks:=c.blocks.set block.toNat {ak c block with used:=(ak c block).used+1,ae:=(ak c block).ae.set lR.toNat (lS c p)}}
def jt(c:CV)(block lR:Int)(p:List UInt8):Int:=
 if lQ c block lR p=true then(if c.off=true then 7 else if(ak c block).bad=true∨lR≠(ak c block).used then 9 else if(bw c).2=true then kr (bw c).1 else 0)else 1
def ff(c:CV)(block lR:Int)(p:List UInt8):CV:=
 if lQ c block lR p=true∧c.off=false∧(ak c block).bad=false∧lR=(ak c block).used then hQ c block lR p else c
def mE(c:CV)(block:Int):Bool:=gG c block&&decide (c.ops<c8)&&decide ((ak c block).bp<c8)
theorem oN{c:CV}{block:Int}:mE c block=true↔gG c block=true∧c.ops<c8∧(ak c block).bp<c8:=by
 simp only[mE,Bool.and_eq_true,decide_eq_true_eq,and_assoc]
def oO(c:CV)(ps:List (List UInt8)):List (List UInt8):=if(bw c).2=true then ps.map (cI (bw c).1.mask)else ps.map fun _=>fL c.size
def k9(c:CV)(block:Int):CV:=
 {c with ops:=c.ops+1,off:=(bw c).2&&(bw c).1.cut,blocks:=c.blocks.set block.toNat {ak c block with used:=if(bw c).2=true then c.ae else 0,bp:=(ak c block).bp+1,ae:=oO c (ak c block).ae}}
def dH(c:CV)(block:Int):Int:=
 if mE c block=true then(if c.off=true then 7 else if(ak c block).bad=true then 9 else if(bw c).2=true then kr (bw c).1 else 0)else 1
def gn(c:CV)(block:Int):CV:=if mE c block=true∧c.off=false∧(ak c block).bad=false then k9 c block else c
def mF(c:CV)(block:Int):Int:=if gG c block=true then(if c.off=true then 7 else 0)else 1
def j8(c:CV)(block:Int):CV:=if mF c block=0 then{c with blocks:=c.blocks.set block.toNat {ak c block with bad:=true}}else c
def qJ(c:CV)(fs:List Ft):Int:=if aW c=true∧fs.length≤64 then 0 else 1
def u7(c:CV)(fs:List Ft):CV:=if qJ c fs=0 then{c with off:=false,aS:=fs}else c
theorem z9{c:CV}{block:Int}(h:gG c block=true):c.blocks[block.toNat]? =some (ak c block):=by
 obtain⟨_,h2,h3⟩:=ir.1 h
 exact m0 (by omega)
theorem nS{c:CV}{block:Int}(h:gG c block=true):k8 c.ae c.size (ak c block)=true:=
 (eo.1 (ir.1 h).1).2.2.2.2 _ (List.mem_of_getElem? (z9 h))
end Go.Kb
namespace Go.aB
open Go.RowKit
section
variable {α:Type} {enc:α→Array Value} {c:Nat}
theorem Pn{P:Program}{t tx ty e:TypeId}{cC:Nat}(ht:eK P t e c cC)[he:bx enc c]{w0 w:World}{L:List aj}{i:Nat}{s:Sv}{xs ys:List α}{x:Value}
  (hw:Mem w0 L w) (hi:L[i]? =some (own enc c s xs)) (hs:Src P c tx x ys.length (aJ enc ys) w) (hn:s.nil=false) (mu:s.len+ys.length≤s.cap) (hO:s.len+ys.length≤140737488355328):
  ∃w',(Builtin.append_ #[t,tx] ty #[s.val,x]).run P w= .ok (Sv.val {s with len:=s.len+ys.length}) w'∧Mem w0 (L.set i (own enc c {s with len:=s.len+ys.length} (xs++ys))) w':=by
 obtain⟨r,lJ⟩:=hw.get hi
 obtain⟨i',z,bh,aE,bB,cK,kW⟩:=ht.info
 subst bB cK
 have hlen:=r.len
 have hle:=r.ok.le
 obtain⟨fJ,cs,T,fz,eX,eP,kI,kX⟩:=lJ hn
 have hmul:(s.len+ys.length)*i'.size≤s.cap*i'.size:=Nat.mul_le_mul_right _ mu
 have dN:(aJ enc ys).length=ys.length*i'.size:=gm ys
 have hM:s.o+s.len*i'.size+(aJ enc ys).toArray.size≤cs.size:=by
  rw[List.size_toArray,dN];rw[Nat.add_mul]at hmul;omega
 have bE:=wW (P:=P) s.b (s.o+s.len*i'.size) T fz (aJ enc ys) 0 cs w eX kI (by simpa using hM) hs.one
 have wX:(storeCells ⟨s.b,s.o+s.len*i'.size,none⟩ (aJ enc ys)).run P w= .ok () (w.setRow s.b (cH cs (s.o+s.len*i'.size) (aJ enc ys).toArray)):=by
  simpa[cH]using bE
 refine⟨w.setRow s.b (cH cs (s.o+s.len*i'.size) (aJ enc ys).toArray),?_,?_⟩
 ·
  have jV:({s with len:=s.len+ys.length}:Sv).val= .slice (some ⟨s.b,s.o,s.sp⟩) (s.len+ys.length) s.cap:=Sv.gC (s:={s with len:=s.len+ys.length}) hn
  rw[Sv.gC hn,jV,fJ]
  rcases hs.kind with⟨e',hk⟩|hk<;>simp[Builtin.append_,run_underlying ht.dL,run_underlying hk,sizeOf,typeInfo,bh,hs.len,mu,hs.cells,Addr.fI,wX]
 ·
  have lK:hp (w.setRow s.b (cH cs (s.o+s.len*i'.size) (aJ enc ys).toArray)) s.b=some (.cells (cH cs (s.o+s.len*i'.size) (aJ enc ys).toArray) T fz):=setRow_heap w s.b cs _ T fz eX
  refine hw.change hi (fun k hk=>hk) (fun k hk=> ?_) (by simp[World.setRow]) ⟨rfl,rfl,rfl⟩ ⟨rJ ⟨(fun h=>by rw[hn]at h;cases h),mu,by simp only;omega,r.ok.sp⟩ (by simp[hlen]) lK fun k y hy j hj=> ?_,fun _=>⟨fJ,_,_,_,lK,?_,by rw[lH hM];exact kI,kX⟩⟩
  ·
   exact setRow_other w s.b k _ (fun e=>hk ⟨hn,e⟩)
  ·
   rw[tc hM]
   by_cases hk:k<xs.length
   ·
    rw[if_neg,←r.row k y (by rw[List.getElem?_append_left hk]at hy;exact hy) j hj]
    ·
     unfold lF;rw[eX]
    ·
     have:(k+1)*i'.size≤s.len*i'.size:=Nat.mul_le_mul_right _ (by omega)
     rw[Nat.add_mul]at this
     intro h;have:=h.1;simp only at this;omega
   ·
    rw[List.getElem?_append_right (by omega)]at hy
    have te:=lI (enc:=enc) ys (k -xs.length) y hy j hj
    have mZ:s.len*i'.size+(k -xs.length)*i'.size=k*i'.size:=by rw[←Nat.add_mul];congr 1;omega
    have bo:(k -xs.length+1)*i'.size≤ys.length*i'.size:=Nat.mul_le_mul_right _ (by have:=(List.getElem?_eq_some_iff.1 hy).1;omega)
    rw[Nat.add_mul]at bo
    rw[if_pos ⟨by simp only;omega,by rw[List.size_toArray,dN];simp only;omega⟩,←te]
    simp only[List.getElem?_toArray]
    congr 1;omega
  ·
   rw[lH hM];exact eP
theorem Po{P:Program}{w0 w:World}{L:List aj}{i:Nat}{s:Sv}{xs ys:List α}[he:bx enc c]{k:Nat}(hw:Mem w0 L w)(hi:L[i]? =some (own enc c s xs))(hn:s.nil=false)(hk:k+ys.length≤xs.length):
  ∃w',(storeCells ⟨s.b,s.o+k*c,none⟩ (aJ enc ys)).run P w= .ok () w'∧Mem w0 (L.set i (own enc c s (xs.take k++(ys++xs.drop (k+ys.length))))) w':=by
 obtain⟨r,lJ⟩:=hw.get hi
 have hlen:=r.len
 have hle:=r.ok.le
 obtain⟨fJ,cs,T,fz,eX,eP,kI,kX⟩:=lJ hn
 have hmul:(k+ys.length)*c≤s.cap*c:=Nat.mul_le_mul_right _ (by omega)
 have dN:(aJ enc ys).length=ys.length*c:=gm ys
 have hM:s.o+k*c+(aJ enc ys).toArray.size≤cs.size:=by
  rw[List.size_toArray,dN];rw[Nat.add_mul]at hmul;omega
 have pO: ∀v∈aJ enc ys,v.oneCell'=true:=rI ys
 have bE:=wW (P:=P) s.b (s.o+k*c) T fz (aJ enc ys) 0 cs w eX kI (by simpa using hM) pO
 have wX:(storeCells ⟨s.b,s.o+k*c,none⟩ (aJ enc ys)).run P w= .ok () (w.setRow s.b (cH cs (s.o+k*c) (aJ enc ys).toArray)):=by
  simpa[cH]using bE
 refine⟨_,wX,?_⟩
 have lK:hp (w.setRow s.b (cH cs (s.o+k*c) (aJ enc ys).toArray)) s.b=some (.cells (cH cs (s.o+k*c) (aJ enc ys).toArray) T fz):=setRow_heap w s.b cs _ T fz eX
 have la:(xs.take k++(ys++xs.drop (k+ys.length))).length=xs.length:=by simp only[List.length_append,List.length_take,List.length_drop];omega
 refine hw.change hi (fun k hk=>hk) (fun k hk=> ?_) (by simp[World.setRow]) ⟨rfl,rfl,rfl⟩ ⟨rJ r.ok (by rw[la];exact hlen) lK fun m y hy j hj=> ?_,fun _=>⟨fJ,_,_,_,lK,?_,by rw[lH hM];exact kI,kX⟩⟩
 ·
  exact setRow_other w s.b k _ (fun e=>hk ⟨hn,e⟩)
 ·
  rw[tc hM]
  rcases Nat.lt_or_ge m k with h1|h1
  ·
   have xD:xs[m]? =some y:=by
    rw[List.getElem?_append_left (by rw[List.length_take];omega),List.getElem?_take,if_pos h1]at hy;exact hy
   rw[if_neg,←r.row m y xD j hj]
   ·
    unfold lF;rw[eX]
   ·
    have:(m+1)*c≤k*c:=Nat.mul_le_mul_right _ (by omega)
    rw[Nat.add_mul]at this
    intro h;have:=h.1;omega
  ·
   rcases Nat.lt_or_ge m (k+ys.length)with h2|h2
   ·
    have xD:ys[m -k]? =some y:=by
     rw[List.getElem?_append_right (by rw[List.length_take];omega),List.length_take,Nat.min_eq_left (by omega),List.getElem?_append_left (by omega)]at hy;exact hy
    have te:=lI (enc:=enc) ys (m -k) y xD j hj
    have mZ:k*c+(m -k)*c=m*c:=by rw[←Nat.add_mul];congr 1;omega
    have bo:(m -k+1)*c≤ys.length*c:=Nat.mul_le_mul_right _ (by omega)
    rw[Nat.add_mul]at bo
    rw[if_pos ⟨by omega,by rw[List.size_toArray,dN];omega⟩,←te]
    simp only[List.getElem?_toArray]
    congr 1;omega
   ·
    have xD:xs[m]? =some y:=by
     rw[List.getElem?_append_right (by rw[List.length_take];omega),List.length_take,Nat.min_eq_left (by omega),List.getElem?_append_right (by omega),List.getElem?_drop]at hy
     rw[←hy];congr 1;omega
    rw[if_neg,←r.row m y xD j hj]
    ·
     unfold lF;rw[eX]
    ·
     have:(k+ys.length)*c≤m*c:=Nat.mul_le_mul_right _ h2
     rw[Nat.add_mul]at this
     intro h;have:=h.2;rw[List.size_toArray,dN]at this;omega
 ·
  rw[lH hM];exact eP
end
section
variable {P:Program} {N:ct} {w0:World} {env:Env} {L:List aj} {l:List Oper} {Q:Exit→Act→World→Prop} {rest:List Oper} {d:Option Tmp} {ty:TypeId} {ps:String} {af:Array Edge} {gd:Option (Nat×Bool)} {K:Value→List aj→Prop}
variable {α:Type} {enc:α→Array Value} {c:Nat} {s:Sv} {xs ys:List α}
theorem Pp{t tx e:TypeId}{x y:Operand}{yv:Value}{cC i:Nat}[ht:eK P t e c cC][he:bx enc c](hx:ev env x=some s.val)(hy:ev env y=some yv)[q:eY L s enc c xs i]
  (hs: ∀w,Mem w0 L w→Src P c tx yv ys.length (aJ enc ys) w) (hn:s.nil=false) (mu:s.len+ys.length≤s.cap) (hO:s.len+ys.length≤140737488355328) {L':List aj} [hu:eQ L i (own enc c {s with len:=s.len+ys.length} (xs++ys)) L']
  (hk:K (Sv.val {s with len:=s.len+ys.length}) L'):
  gF P N w0 env L ⟨d, .call {callee:= .builtin .append,args:= #[x,y],argTypes:= #[t,tx]},ty,ps,af,gd⟩ K:=
 rQ fun a w ha hw=>by
  obtain⟨w',h1,h4⟩:=Pn (ty:=ty) ht hw q.h (hs w hw) hn mu hO
  refine⟨_,w',L',?_,by rw[←hu.h];exact h4,hk⟩
  simp[execOp,ha.ev hx,ha.ev hy,resolve,invoke,builtin,h1,Result.andThen]
theorem Pq{t tx e:TypeId}{x y:Operand}{yv:Value}{cC i:Nat}[ht:eK P t e c cC][he:bx enc c](hx:ev env x=some s.val)(hy:ev env y=some yv)[q:eY L s enc c xs i]
  (hs: ∀w,Mem w0 L w→Src P c tx yv ys.length (aJ enc ys) w) (hn:s.nil=false) (mu:s.len+ys.length≤s.cap) (hO:s.len+ys.length≤140737488355328) {L':List aj} [hu:eQ L i (own enc c {s with len:=s.len+ys.length} (xs++ys)) L']
  (hk:Sq P N w0 l Q rest (cl env d (Sv.val {s with len:=s.len+ys.length})) L') (hd:c5 N d=true:=by rfl):
  Sq P N w0 l Q (⟨d, .call {callee:= .builtin .append,args:= #[x,y],argTypes:= #[t,tx]},ty,ps,af,none⟩::rest) env L:=
 Hw rfl hd (Pp hx hy hs hn mu hO hk)
theorem HS{D S rm:Sv}{x y:Operand}{tx fo e:TypeId}{i k:Nat}{ys:List α}[he:bx enc c](hx:ev env x=some D.val)(lN:D.nil=false)(lO:D.sp=none)(ni:D.b=rm.b)(oK:D.o=rm.o+k*c)(hy:ev env y=some S.val)[ht:eu P tx e c][q:eY L rm enc c xs i][hS:Hd w0 L S enc c ys](hc:0<c)(hn:rm.nil=false)(h0:0<ys.length)(hl:ys.length≤D.len)(jd:k+ys.length≤xs.length)
  {L':List aj} [hu:eQ L i (own enc c rm (xs.take k++(ys++xs.drop (k+ys.length)))) L'] (hk:K (.int .i64 ys.length) L'):
  gF P N w0 env L ⟨d, .call {callee:= .builtin .copy,args:= #[x,y],argTypes:= #[tx,fo]},ty,ps,af,gd⟩ K:=
 rQ fun a w ha hw=>by
  have hs:=hS.h w hw
  have xz:=hs.some h0
  have mC:=hs.len
  have xA:=hs.ok.sp (by have:=hs.ok.le;omega)
  rw[Sv.gC lN,lO,ni,oK]at hx
  rw[Sv.gC xz,xA]at hy
  obtain⟨w',h1,h2⟩:=Po (P:=P) hw q.h hn jd
  rw[hu.h]at h2
  refine⟨_,w',L',?_,h2,hk⟩
  have u9:=run_loadCells_list (P:=P) w ⟨S.b,S.o,none⟩ (aJ enc ys) (fun j v hj=>by
   obtain⟨z,hz,hv⟩:=zq hc hj
   rw[Addr.fI,pG,←hv,←hs.row _ z hz (j%c) (Nat.mod_lt _ hc)]
   congr 1
   have:=Nat.div_add_mod j c
   rw[Nat.mul_comm]at this;omega)
  rw[gm]at u9
  cases hq:P.info? e with
  |none=>have:=ht.size;simp[hq]at this
  |some i'=>
   have hi:i'.size=c:=by have:=ht.size;simpa[hq]using this
   have wH:Nat.min S.len D.len=ys.length:=by rw[mC];exact Nat.min_eq_left hl
   have fm:(Builtin.copy_ #[tx,fo] ty #[.slice (some ⟨rm.b,rm.o+k*c,none⟩) D.len D.cap, .slice (some ⟨S.b,S.o,none⟩) S.len S.cap]).run P w= .ok (goInt ys.length) w':=by
    simp[Builtin.copy_,run_underlying ht.dL,Builtin.lenOf,Builtin.firstCells,sizeOf,typeInfo,hq,hi,wH,u9,h1]
   simp[execOp,ha.ev hx,ha.ev hy,resolve,invoke,builtin,fm,Result.andThen,goInt]
theorem Pr{D S rm:Sv}{x y:Operand}{tx fo e:TypeId}{i k:Nat}{ys:List α}[he:bx enc c](hx:ev env x=some D.val)(lN:D.nil=false)(lO:D.sp=none)(ni:D.b=rm.b)(oK:D.o=rm.o+k*c)(hy:ev env y=some S.val)[ht:eu P tx e c][q:eY L rm enc c xs i][hS:Hd w0 L S enc c ys](hc:0<c)(hn:rm.nil=false)(h0:0<ys.length)(hl:ys.length≤D.len)(jd:k+ys.length≤xs.length)
  {L':List aj} [hu:eQ L i (own enc c rm (xs.take k++(ys++xs.drop (k+ys.length)))) L'] (hk:Sq P N w0 l Q rest (cl env d (.int .i64 ys.length)) L') (hd:c5 N d=true:=by rfl):
  Sq P N w0 l Q (⟨d, .call {callee:= .builtin .copy,args:= #[x,y],argTypes:= #[tx,fo]},ty,ps,af,none⟩::rest) env L:=
 Hw rfl hd (HS hx lN lO ni oK hy hc hn h0 hl jd hk)
end
theorem Mem.va{w0 w:World}{L:List aj}{e:aj}{es:List aj}(h:Mem w0 (e::aj.all es::L) w):Mem w0 (aj.all (es++[e])::L) w:=by
 have h1:Mem w0 (aj.all (e::es)::L) w:=Mem.Pc h
 rw[Mem.w9]at h1⊢
 exact h1.perm ((List.perm_append_singleton e es).symm.append_right L)
theorem Mem.Aa{w0 w:World}{L:List aj}{e e':aj}(hf: ∀k,e'.fp k→e.fp k)(hs:(e.sat fun k=>w.heap[k]?)→e'.sat fun k=>w.heap[k]?)(h:Mem w0 (e::L) w):Mem w0 (e'::L) w:=by
 have hd:=List.pairwise_cons.1 h.mo
 refine⟨h.below,fun x he=> ?_,fun x he k hk=> ?_,List.pairwise_cons.2 ⟨fun y hy k hk=>hd.1 y hy k (hf k hk),hd.2⟩⟩
 ·
  rcases List.mem_cons.1 he with rfl|he
  ·
   exact hs (h.sat e (by simp))
  ·
   exact h.sat x (by simp[he])
 ·
  rcases List.mem_cons.1 he with rfl|he
  ·
   exact h.iF e (by simp) k (hf k hk)
  ·
   exact h.iF x (by simp[he]) k hk
end Go.aB
namespace Go.Kb
open Go.aB
theorem HT{w0 w:World}{L:List aj}{s rm:Sv}{l:List (List UInt8)}{xs:List (Sl UInt8)}(hx:xs=c6 rm 0 l)(hn:rm.nil=false)(h:Mem w0 (own (bT (τ:=UInt8)) 1 s xs::own aM 1 rm l.flatten::L) w):Mem w0 (ei ⟨s,xs⟩::L) w:=by
 have ht:aI xs=l:=by rw[hx,rT]
 have h1:=h.perm (List.Perm.swap _ _ _)
 have h2:Mem w0 (u6 ⟨s,xs⟩::own (bT (τ:=UInt8)) 1 s xs::L) w:=Mem.Aa (fun k hk=>by
  obtain⟨x,CJ,rfl⟩:=hk
  exact⟨hn,z4 rm 0 l x (hx▸CJ)⟩) (fun hs=> .inr ⟨rm,hn,by simp only[ht];exact hx,by simp only[ht];exact hs⟩) h1
 exact Mem.uP.2 (h2.perm (List.Perm.swap _ _ _))
theorem Ps{w0 w:World}{L:List aj}{s:Sv}(h:Mem w0 (own (bT (τ:=UInt8)) 1 s []::L) w):Mem w0 (ei ⟨s,[]⟩::L) w:=by
 refine Mem.uP.2 (Mem.perm (Mem.Aa (e:= .emp) (e':=u6 ⟨s,[]⟩) (fun k hk=> ?_) (fun _=> .inl rfl) (Mem.wZ.2 h)) (List.Perm.swap _ _ _))
 obtain⟨x,hx,_⟩:=hk
 cases hx
theorem Pt{w0 w:World}{L:List aj}{a:Sl (Sl UInt8)}(cD:a.xs≠[])(h:Mem w0 (ei a::L) w): ∃rm:Sv,(rm.nil=false∧rm.sp=none∧a.xs=c6 rm 0 (aI a.xs))∧Mem w0 (own (bT (τ:=UInt8)) 1 a.sv a.xs::own aM 1 rm (aI a.xs).flatten::L) w:=by
 have h1:=Mem.uP.1 h
 have hr:=h1.sat (u6 a) (by simp)
 rcases hr with hr|⟨rm,g1,g2,g3⟩
 ·
  exact absurd hr cD
 ·
  refine⟨rm,⟨g1,(g3.2 g1).1,g2⟩,?_⟩
  have h2:=h1.perm (List.Perm.swap _ _ _)
  obtain⟨x,l,C1⟩:=List.exists_cons_of_ne_nil cD
  have hm:x∈a.xs:=by rw[C1];simp
  have hb:x.sv.b=rm.b:=z4 rm 0 _ x (g2▸hm)
  exact(Mem.Aa (e:=u6 a) (e':=own aM 1 rm (aI a.xs).flatten) (fun k hk=>⟨x,hm,by rw[hb];exact hk.2⟩) (fun _=>g3) h2).perm (List.Perm.swap _ _ _)
theorem Ab: ∀{l:List (List UInt8)} {i:Nat} {q r:List UInt8},l[i]? =some q→r.length=q.length→(l.set i r).flatten=l.flatten.take (l.take i).flatten.length++(r++l.flatten.drop ((l.take i).flatten.length+r.length))
 |y::l,0,q,r,h,hr=>by
  obtain rfl:y=q:=by simpa using h
  simp[hr]
 |y::l,i+1,q,r,h,hr=>by
  have:=Ab (l:=l) (i:=i) (q:=q) (r:=r) (by simpa using h) hr
  simp only[List.set_cons_succ,List.flatten_cons,this,List.take_succ_cons,List.length_append]
  rw[List.take_length_add_append,Nat.add_assoc,List.drop_length_add_append,List.append_assoc]
theorem Ac{rm:Sv}: ∀{o:Nat} {l:List (List UInt8)} {i:Nat} {q:List UInt8},l[i]? =some q→(c6 rm o l)[i]? =some ⟨eZ rm (o+(l.take i).flatten.length) (o+(l.take i).flatten.length+q.length),q⟩
 |o,y::l,0,q,h=>by
  obtain rfl:y=q:=by simpa using h
  simp[c6]
 |o,y::l,i+1,q,h=>by
  have:=Ac (rm:=rm) (o:=o+y.length) (l:=l) (i:=i) (q:=q) (by simpa using h)
  simp only[c6,List.getElem?_cons_succ,this,List.take_succ_cons,List.flatten_cons,List.length_append,Nat.add_assoc]
def C2(l:List (List UInt8)):Prop:=l.length≤1000000∧l.flatten.length≤1000000
theorem xE{l:List (List UInt8)}{i:Nat}{q:List UInt8}(h:l[i]? =some q):(l.take (i+1)).flatten.length=(l.take i).flatten.length+q.length:=by
 rw[List.take_add_one,h];simp
theorem xF(l:List (List UInt8))(i:Nat):(l.take i).flatten.length≤l.flatten.length:=by
 have:l.flatten=(l.take i).flatten++(l.drop i).flatten:=by rw[←List.flatten_append,List.take_append_drop]
 rw[this,List.length_append];omega
theorem Pu{rm:Sv}{l:List (List UInt8)}{n i:Nat}{r q:List UInt8}(hn:n=l.length)(hr:r=(l.take i).flatten)(h:l[i]? =some q):(c6 rm 0 (l.take i)++List.replicate (n -i) (⟨Sv.none,[]⟩:Sl UInt8)).set i ⟨eZ rm r.length (r.length+q.length),q⟩=c6 rm 0 (l.take (i+1))++List.replicate (n -(i+1)) (⟨Sv.none,[]⟩:Sl UInt8):=by
 have hi:=(List.getElem?_eq_some_iff.1 h).1
 have hl:(c6 rm 0 (l.take i)).length=i:=by rw[CZ,List.length_take];omega
 rw[List.set_append_right _ _ (by omega),hl,Nat.sub_self,List.take_add_one,h,show n -i=n -(i+1)+1 by omega,List.replicate_succ,List.set_cons_zero]
 simp only[Option.toList_some]
 rw[HN,hr,Nat.zero_add,List.append_assoc,List.singleton_append]
theorem lT{w0 w:World}{L:List aj}(d:Cp)(h:Mem w0 (own bI 4 d.blocks.sv d.blocks.xs::aj.all (d.blocks.xs.map fun b:Bk=>ei b.ae)::own cY 4 d.aS.sv d.aS.xs::L) w):Mem w0 (fz d::L) w:=
 z8 ((HQ (a:=d.aS) ((Pk h).perm (List.Perm.swap _ _ _))).perm (List.Perm.swap _ _ _))
theorem C3{α:Type}{enc:α→Array Value}{c:Nat}{s:Sv}{xs ys:List α}{w0 w:World}{L:List aj}(e:xs.map enc=ys.map enc)(h:Mem w0 (own enc c s xs::L) w):Mem w0 (own enc c s ys::L) w:=
 Mem.Aa (e:=own enc c s xs) (fun _ hk=>hk) (fun hs=>⟨⟨hs.1.ok,by have:=congrArg List.length e;simp only[List.length_map]at this;rw[←this];exact hs.1.len,fun i y hy j hj=>by
  have h1:(xs.map enc)[i]? =(ys.map enc)[i]? :=by rw[e]
  rw[List.getElem?_map,List.getElem?_map,hy]at h1
  cases hx:xs[i]?with
  |none=>rw[hx]at h1;cases h1
  |some x=>
   rw[hx]at h1
   have h2:enc x=enc y:=by simpa using h1
   have:=hs.1.row i x hx j hj
   rw[h2]at this
   exact this⟩,hs.2⟩) h
theorem Ad{w0 w:World}{L:List aj}{s sp rm:Sv}{xs:List Bk}{i:Nat}{B B':Bk}{ps:List (Sl UInt8)}{l:List (List UInt8)}(hi:i<xs.length)(hp:ps.map (fun x=>x.sv)=(c6 rm 0 l).map (fun x=>x.sv))(hn:rm.nil=false)(hc:bI B=bI B')(hB:B'.ae=⟨sp,c6 rm 0 l⟩)
  (h:Mem w0 (own (bT (τ:=UInt8)) 1 sp ps::own aM 1 rm l.flatten::own bI 4 s (xs.set i B)::aj.all ((xs.eraseIdx i).map fun b:Bk=>ei b.ae)::L) w):Mem w0 (own bI 4 s (xs.set i B')::aj.all ((xs.set i B').map fun b:Bk=>ei b.ae)::L) w:=by
 have h1:Mem w0 (own (bT (τ:=UInt8)) 1 sp (c6 rm 0 l)::own aM 1 rm l.flatten::own bI 4 s (xs.set i B)::aj.all ((xs.eraseIdx i).map fun b:Bk=>ei b.ae)::L) w:=C3 (by
  have:=congrArg (List.map fun v:Sv=>(#[v.val]:Array Value)) hp
  rw[List.map_map,List.map_map]at this
  exact this) h
 have h2:=HT (xs:=c6 rm 0 l) rfl hn h1
 rw[←hB]at h2
 have h3:=C3 (ys:=xs.set i B') (by rw[List.map_set,List.map_set,hc]) (h2.perm (List.Perm.swap _ _ _))
 have h4:Mem w0 (ei B'.ae::aj.all (((xs.set i B').eraseIdx i).map fun b:Bk=>ei b.ae)::own bI 4 s (xs.set i B')::L) w:=by
  rw[List.eraseIdx_set_eq]
  exact h3.perm ((List.Perm.swap _ _ _).trans (List.Perm.cons _ (List.Perm.swap _ _ _)))
 have h5:=(Mem.pick (f:=fun b:Bk=>ei b.ae) (xs:=xs.set i B') (i:=i) (x:=B') (by rw[List.getElem?_set_self hi])).2 h4
 exact h5.perm (List.Perm.swap _ _ _)
theorem HU{w0 w:World}{L:List aj}{s:Sv}{xs:List Bk}{i:Nat}{B:Bk}(hB:xs[i]? =some B)(cD:B.ae.xs≠[])(h:Mem w0 (own bI 4 s xs::aj.all (xs.map fun b:Bk=>ei b.ae)::L) w):
  ∃rm:Sv,(rm.nil=false∧rm.sp=none∧B.ae.xs=c6 rm 0 (aI B.ae.xs))∧Mem w0 (own (bT (τ:=UInt8)) 1 B.ae.sv B.ae.xs::own aM 1 rm (aI B.ae.xs).flatten::own bI 4 s xs::aj.all ((xs.eraseIdx i).map fun b:Bk=>ei b.ae)::L) w:=by
 have h1:=(Mem.pick (f:=fun b:Bk=>ei b.ae) hB).1 (h.perm (List.Perm.swap _ _ _))
 obtain⟨rm,hr,h2⟩:=Pt cD h1
 refine⟨rm,hr,h2.perm (List.Perm.cons _ (List.Perm.cons _ (List.Perm.swap _ _ _)))⟩
end Go.Kb
namespace Go.aB
section
variable {P:Program} {N:ct} {w0:World} {env:Env} {L:List aj} {d:Option Tmp} {ty:TypeId} {ps:String} {af:Array Edge} {gd:Option (Nat×Bool)} {x y:Operand} {t u:TypeId}
theorem HV{a b:UInt8}(hx:ev env x=some (.int .u8 a.toNat))(hy:ev env y=some (.int .u8 b.toNat)):
  Ry P N w0 env L ⟨d, .binOp .or t x y u,ty,ps,af,gd⟩ (.int .u8 (a|||b).toNat):=by
 have ha:=a.toNat_lt;have hb:=b.toNat_lt
 rw[UInt8.toNat_or]
 exact zh hx hy rfl rfl (by simp only[nb];omega) (by simp only[nb];omega)
theorem Pv: ∀n,n<256→(255^^^n:Nat)=255 -n:=by decide+kernel
theorem Pw{p q:Nat}(hp:p<2^nb .u8)(hq:q<2^nb .u8):Op.intBits .xor .u8 (p:Int) (q:Int)=(pure (.int .u8 ((p^^^q:Nat):Int)):Sem Value):=by
 simp only[Op.intBits,uF,BitVec.toNat_xor,BitVec.toNat_ofNat,Nat.mod_eq_of_lt (nL hp),Nat.mod_eq_of_lt (nL hq)]
 rw[nK (Nat.xor_lt_two_pow hp hq)]
theorem Px{a:UInt8}(hx:ev env x=some (.int .u8 a.toNat)):
  Ry P N w0 env L ⟨d, .unOp .xor t x,ty,ps,af,gd⟩ (.int .u8 (~~~a).toNat):=fun aa w ha _=>by
 have e:(Op.intBits .xor .u8 255 (a.toNat:Int))=(pure (.int .u8 ((~~~a).toNat:Int)):Sem Value):=by
  have h3:=a.toNat_lt
  have h4:(~~~a).toNat=255 -a.toNat:=UInt8.toNat_not a
  have h5:(255^^^a.toNat:Nat)=255 -a.toNat:=Pv a.toNat h3
  have hp:(255:Nat)<2^nb .u8:=by decide
  have hq:a.toNat<2^nb .u8:=h3
  have hx:=Pw hp hq
  rw[h5]at hx
  rw[h4]
  exact hx
 simp only[execOp,ha.ev hx,Op.unary,Sem.run_bind,Result.andThen]
 rw[show(if IntKind.u8.signed=true then(-1:Int)else IntKind.u8.max)=255 by decide,e]
 rfl
end
open Go.RowKit
section
variable {P:Program} {N:ct} {w0:World} {env:Env} {L:List aj} {l:List Oper} {Q:Exit→Act→World→Prop} {rest:List Oper} {d:Option Tmp} {ty:TypeId} {ps:String} {af:Array Edge} {gd:Option (Nat×Bool)} {K:Value→List aj→Prop}
variable {α:Type} {enc:α→Array Value} {c:Nat}
theorem Py{β:Type}{l:List β}{i:Nat}{z:β}(h:l[i]? =some z):l.set i z=l:=by
 obtain⟨hi,rfl⟩:=List.getElem?_eq_some_iff.1 h
 exact List.set_getElem_self hi
theorem Pz{D S:Sv}{x y:Operand}{tx fo e:TypeId}(hx:ev env x=some D.val)(hy:ev env y=some S.val)[ht:eu P tx e c][hS:Hd w0 L S enc c []](hk:K (.int .i64 0) L):
  gF P N w0 env L ⟨d, .call {callee:= .builtin .copy,args:= #[x,y],argTypes:= #[tx,fo]},ty,ps,af,gd⟩ K:=
 rQ fun a w ha hw=>by
  have hs:=hS.h w hw
  have mC:S.len=0:=hs.len
  obtain⟨ad,len,cap,e1⟩:=S.ex
  have el:len=S.len:=by
   cases hn:S.nil with
   |true=>rw[Sv.pF hn]at e1;have:=hs.ok.nil hn;cases e1;omega
   |false=>rw[Sv.gC hn]at e1;cases e1;rfl
  obtain⟨HW,PA,PB,e2⟩:=D.ex
  refine⟨_,w,L,?_,hw,hk⟩
  cases hq:P.info? e with
  |none=>have:=ht.size;simp[hq]at this
  |some i'=>
   rw[e1]at hy
   rw[e2]at hx
   have tB:len=0:=by omega
   have fm:(Builtin.copy_ #[tx,fo] ty #[.slice HW PA PB, .slice ad len cap]).run P w= .ok (goInt 0) w:=by
    have u9: ∀v:Addr,(loadCells v 0).run P w= .ok #[] w:=fun v=>by
     have:=run_loadCells_list (P:=P) w v [] (fun j v hj=>by simp at hj)
     simpa using this
    have bE: ∀v:Addr,(storeCells v []).run P w= .ok () w:=fun v=>rfl
    cases HW<;>cases ad<;>simp[Builtin.copy_,run_underlying ht.dL,Builtin.lenOf,Builtin.firstCells,sizeOf,typeInfo,hq,tB,u9,bE]
   simp[execOp,ha.ev hx,ha.ev hy,resolve,invoke,builtin,fm,Result.andThen,goInt]
theorem C4{D S rm:Sv}{x y:Operand}{tx fo e:TypeId}{i k:Nat}{xs ys:List α}[he:bx enc c](hx:ev env x=some D.val)(lN:D.nil=false)(lO:D.sp=none)(ni:D.b=rm.b)(oK:D.o=rm.o+k*c)(hy:ev env y=some S.val)[ht:eu P tx e c][q:eY L rm enc c xs i][hS:Hd w0 L S enc c ys](hc:0<c)(hn:rm.nil=false)(hl:ys.length≤D.len)(jd:k+ys.length≤xs.length)
  {L':List aj} [hu:eQ L i (own enc c rm (xs.take k++(ys++xs.drop (k+ys.length)))) L'] (hk:K (.int .i64 ys.length) L'):
  gF P N w0 env L ⟨d, .call {callee:= .builtin .copy,args:= #[x,y],argTypes:= #[tx,fo]},ty,ps,af,gd⟩ K:=by
 by_cases h0:ys=[]
 ·
  subst h0
  have e1:xs.take k++([]++xs.drop (k+([]:List α).length))=xs:=by simp
  have e2:L'=L:=by
   rw[←hu.h,e1]
   exact Py q.h
  exact Pz (c:=c) (enc:=enc) hx hy (by rw[e2]at hk;exact hk)
 ·
  exact HS hx lN lO ni oK hy hc hn (List.length_pos_iff.2 h0) hl jd hk
end
end Go.aB
namespace Go.Kb
open Go.aB
def dC(c:Cp):Prop:=c.blocks.xs.length≤1000000∧c.aS.xs.length≤1000000∧ ∀b∈c.blocks.xs,C2 (aI b.ae.xs)
theorem tC{α:Type}{l:List α}{i:Nat}{z:α}(h:l[i]? =some z):l.set i z=l:=by
 obtain⟨hi,rfl⟩:=List.getElem?_eq_some_iff.1 h
 exact List.set_getElem_self hi
theorem tD(l:List Bk)(i:Nat)(b:Bk):fy (l.set i b)=(fy l).set i (bv b):=by simp[fy,List.map_set]
theorem PC{zs:List Bk}{i:Nat}{z z':Bk}(h:zs[i]? =some z):((zs.take i).map fun b:Bk=>ei b.ae)++[ei z'.ae]=((zs.set i z').take (i+1)).map fun b:Bk=>ei b.ae:=by
 have hi:=(List.getElem?_eq_some_iff.1 h).1
 rw[List.take_add_one,List.getElem?_set_self hi,List.take_set_of_le (Nat.le_refl _),List.map_append]
 rfl
theorem PD{c:CV}(h: ∀f∈c.aS,f.op≠c.ops):bw c=(u5,false):=by
 have:c.aS.find? (fun f=>decide (f.op=c.ops))=none:=List.find?_eq_none.2 fun f hf=>by simpa using h f hf
 rw[bw,this]
theorem PE{c:CV}{i:Nat}{f:Ft}(hf:c.aS[i]? =some f)(h: ∀j g,j<i→c.aS[j]? =some g→g.op≠c.ops)(he:f.op=c.ops):bw c=(f,f.cut||f.fail):=by
 have:c.aS.find? (fun f=>decide (f.op=c.ops))=some f:=by
  rw[List.find?_eq_some_iff_getElem]
  obtain⟨hi,rfl⟩:=List.getElem?_eq_some_iff.1 hf
  exact⟨by simpa using he,i,hi,rfl,fun j hj=>by
   simpa using h j (c.aS[j]'(by omega)) hj (List.getElem?_eq_getElem (by omega))⟩
 rw[bw,this]
theorem HX: ∀l:List (List UInt8),(∀x∈l,x.length≤256)→(l.map List.length).sum≤l.length*256
 |[],_=>by simp
 |x::l,hl=>by
  have h1:=HX l fun y hy=>hl y (List.mem_cons_of_mem _ hy)
  have h2:=hl x List.mem_cons_self
  simp only[List.map_cons,List.sum_cons,List.length_cons]
  omega
theorem oP{c:Cp}(h:aW (cv c)=true):dC c:=by
 obtain⟨h1,h2,h3,h4,h5⟩:=eo.1 h
 obtain⟨s1,s2,s3,s4,s5,s6⟩:=jg.1 h1
 simp only[cv,dU]at*
 refine⟨by omega,by omega,fun b hb=> ?_⟩
 have g:=ez.1 (h5 (bv b) (List.mem_map_of_mem hb))
 simp only[bv]at g
 have hf:(aI b.ae.xs).flatten.length≤(aI b.ae.xs).length*256:=by
  rw[List.length_flatten]
  exact HX _ fun x hx=>by have:=g.2.2.2.2.2 x hx;omega
 exact⟨by omega,by omega⟩
theorem C5{rm:Sv}: ∀{o:Nat} {l l':List (List UInt8)},l.map List.length=l'.map List.length→(c6 rm o l).map (fun x=>x.sv)=(c6 rm o l').map (fun x=>x.sv)
 |_,[],[],_=>rfl
 |_,[],_::_,h=>by simp at h
 |_,_::_,[],h=>by simp at h
 |o,p::l,p'::l',h=>by
  simp only[List.map_cons,List.cons.injEq]at h
  have:=C5 (rm:=rm) (o:=o+p'.length) h.2
  simp only[c6,List.map_cons,h.1,this]
theorem PF{rm:Sv}{l:List (List UInt8)}{i:Nat}{q r:List UInt8}(h:l[i]? =some q)(hr:r.length=q.length):(c6 rm 0 l).map (fun x=>x.sv)=(c6 rm 0 (l.set i r)).map (fun x=>x.sv):=C5 (by
 rw[List.map_set,hr,tC]
 rw[List.getElem?_map,h];rfl)
theorem vb: ∀{l:List (List UInt8)} {i j:Nat} {q:List UInt8},l[i]? =some q→j<q.length→l.flatten[(l.take i).flatten.length+j]? =q[j]?
 |y::l,0,j,q,h,hj=>by
  obtain rfl:y=q:=by simpa using h
  simp only[List.take_zero,List.flatten_nil,List.length_nil,Nat.zero_add,List.flatten_cons]
  rw[List.getElem?_append_left hj]
 |y::l,i+1,j,q,h,hj=>by
  have:=vb (l:=l) (i:=i) (j:=j) (q:=q) (by simpa using h) hj
  simp only[List.take_succ_cons,List.flatten_cons,List.length_append]
  rw[Nat.add_assoc,List.getElem?_append_right (by omega),Nat.add_sub_cancel_left,this]
theorem HY: ∀{l:List (List UInt8)} {i j:Nat} {q:List UInt8} {v:UInt8},l[i]? =some q→j<q.length→l.flatten.set ((l.take i).flatten.length+j) v=(l.set i (q.set j v)).flatten
 |y::l,0,j,q,v,h,hj=>by
  obtain rfl:y=q:=by simpa using h
  simp only[List.take_zero,List.flatten_nil,List.length_nil,Nat.zero_add,List.flatten_cons,List.set_cons_zero]
  rw[List.set_append_left _ _ hj]
 |y::l,i+1,j,q,v,h,hj=>by
  have:=HY (l:=l) (i:=i) (j:=j) (q:=q) (v:=v) (by simpa using h) hj
  simp only[List.take_succ_cons,List.flatten_cons,List.length_append,List.set_cons_succ]
  rw[Nat.add_assoc,List.set_append_right _ _ (by omega),Nat.add_sub_cancel_left,this]
theorem C6{l:List (List UInt8)}{i:Nat}{r:List UInt8}:(l.set i r).take i=l.take i:=List.take_set_of_le (Nat.le_refl _)
theorem vc{rm:Sv}{lo n:Nat}(h:0<n):(eZ rm lo (lo+n)).o=rm.o+lo:=by
 simp only[eZ];rw[if_neg (by omega)]
theorem Ae{rm:Sv}{lo n:Nat}(hn:rm.nil=false)(hs:rm.sp=none)(hb:n≤1000000):(eZ rm lo (lo+n)).Ok:=
 ⟨fun h=>absurd (hn.symm.trans h) (by decide),Nat.le_refl _,by simp only[eZ];omega,fun _=>hs⟩
theorem HZ{c:CV}{x:Cp}{B:Bk}{b g:Int}{q:List UInt8}{rm:Sv}{off:Bool}(hx:cv x=c)(hB:bv B=ak c b):
  cv ⟨x.ae,x.size,⟨x.blocks.sv,x.blocks.xs.set b.toNat ⟨⟨B.ae.sv,c6 rm 0 ((aI B.ae.xs).set g.toNat q)⟩,B.used+1,B.bp,B.bad⟩⟩,x.ops+1,off,x.aS⟩={c with ops:=c.ops+1,off:=off,blocks:=c.blocks.set b.toNat {ak c b with used:=(ak c b).used+1,ae:=(ak c b).ae.set g.toNat q}}:=by
 subst hx
 rw[←hB]
 simp only[cv,tD,bv,rT]
theorem PG{m:UInt8}{xs:List UInt8}{i:Nat}{z:UInt8}(h:xs[i]? =some z):(cI m (xs.take i)++xs.drop i).set i (z|||m)=cI m (xs.take (i+1))++xs.drop (i+1):=by
 have hi:=(List.getElem?_eq_some_iff.1 h).1
 have hl:(cI m (xs.take i)).length=i:=by rw[cI,List.length_map,List.length_take];omega
 rw[List.set_append_right _ _ (by omega),hl,Nat.sub_self,List.drop_eq_getElem_cons hi,List.set_cons_zero,List.take_add_one,h,cI,cI,List.map_append,List.append_assoc]
 rfl
theorem H2{m:UInt8}{xs:List UInt8}{i:Nat}(h:i<xs.length):(cI m (xs.take i)++xs.drop i)[i]? =xs[i]? :=by
 have hl:(cI m (xs.take i)).length=i:=by rw[cI,List.length_map,List.length_take];omega
 rw[List.getElem?_append_right (by omega),hl,Nat.sub_self,List.getElem?_drop,Nat.add_zero]
theorem C7{m:UInt8}{xs:List UInt8}{i:Nat}(h:i≤xs.length):(cI m (xs.take i)++xs.drop i).length=xs.length:=by
 rw[cI,List.length_append,List.length_map,List.length_take,List.length_drop];omega
theorem H3{T:List (List UInt8)}{g i:Nat}{q xs:List UInt8}{m z:UInt8}(hq:T[g]? =some q)(hz:xs[i]? =some z):(T.set g (cI m (xs.take (i+1))++xs.drop (i+1))).flatten=(T.set g (cI m (xs.take i)++xs.drop i)).flatten.set ((T.take g).flatten.length+i) (z|||m):=by
 have hg:=(List.getElem?_eq_some_iff.1 hq).1
 have hi:=(List.getElem?_eq_some_iff.1 hz).1
 have h1:=HY (l:=T.set g (cI m (xs.take i)++xs.drop i)) (i:=g) (j:=i) (v:=z|||m) (List.getElem?_set_self hg) (by rw[C7 (by omega)];exact hi)
 rw[C6]at h1
 rw[h1,List.set_set,PG hz]
def mixed(f:List UInt8→List UInt8)(T:List (List UInt8))(k:Nat):List (List UInt8):=(T.take k).map f++T.drop k
theorem H4{f:List UInt8→List UInt8}{T:List (List UInt8)}:mixed f T 0=T:=by simp[mixed]
theorem H5{f:List UInt8→List UInt8}{T:List (List UInt8)}{k:Nat}(h:T.length≤k):mixed f T k=T.map f:=by
 rw[mixed,List.take_of_length_le h,List.drop_eq_nil_of_le h,List.append_nil]
theorem xG{f:List UInt8→List UInt8}{T:List (List UInt8)}{k:Nat}{q:List UInt8}(h:T[k]? =some q):(mixed f T k)[k]? =some q:=by
 have hk:=(List.getElem?_eq_some_iff.1 h).1
 have hl:((T.take k).map f).length=k:=by rw[List.length_map,List.length_take];omega
 rw[mixed,List.getElem?_append_right (by omega),hl,Nat.sub_self,List.getElem?_drop,Nat.add_zero,h]
theorem C8{f:List UInt8→List UInt8}{T:List (List UInt8)}{k:Nat}{q:List UInt8}(h:T[k]? =some q):(mixed f T k).set k (f q)=mixed f T (k+1):=by
 have hk:=(List.getElem?_eq_some_iff.1 h).1
 have hl:((T.take k).map f).length=k:=by rw[List.length_map,List.length_take];omega
 obtain⟨_,rfl⟩:=List.getElem?_eq_some_iff.1 h
 rw[mixed,List.set_append_right _ _ (by omega),hl,Nat.sub_self,List.drop_eq_getElem_cons hk,List.set_cons_zero,mixed,List.take_add_one,List.getElem?_eq_getElem hk,List.map_append,List.append_assoc]
 rfl
theorem Ag{f:List UInt8→List UInt8}{T:List (List UInt8)}{k:Nat}(hf: ∀x∈T,(f x).length=x.length)(hk:k≤T.length):((mixed f T k).take k).flatten.length=(T.take k).flatten.length:=by
 have hl:((T.take k).map f).length=k:=by rw[List.length_map,List.length_take];omega
 rw[mixed,List.take_append_of_le_length (by omega),List.take_of_length_le (by omega),List.length_flatten,List.length_flatten,List.map_map]
 congr 1
 exact List.map_congr_left fun x hx=>hf x (List.mem_of_mem_take hx)
theorem PH{f:List UInt8→List UInt8}{T:List (List UInt8)}{k n:Nat}{q:List UInt8}(hq:T[k]? =some q)(hf: ∀x∈T,(f x).length=x.length)(he:f q=List.replicate n 255)(hn:n=q.length):(mixed f T (k+1)).flatten=(mixed f T k).flatten.take (T.take k).flatten.length++(List.replicate n 255++(mixed f T k).flatten.drop ((T.take k).flatten.length+n)):=by
 have hk:=(List.getElem?_eq_some_iff.1 hq).1
 rw[←C8 hq,Ab (xG hq) (by rw[he,List.length_replicate,hn]),Ag hf (by omega),he,List.length_replicate]
theorem PI{rm:Sv}{f:List UInt8→List UInt8}{T:List (List UInt8)}(hf: ∀x∈T,(f x).length=x.length):(c6 rm 0 T).map (fun x=>x.sv)=(c6 rm 0 (T.map f)).map (fun x=>x.sv):=C5 (by
 rw[List.map_map]
 exact(List.map_congr_left fun x hx=>(hf x hx)).symm)
theorem PJ{rm:Sv}{lo n:Nat}(hn:rm.nil=false)(hs:rm.sp=none)(h:0<n):(eZ rm lo (lo+n)).val= .slice (some ⟨rm.b,rm.o+lo,none⟩) n n:=by
 rw[Sv.gC (s:=eZ rm lo (lo+n)) hn,show(eZ rm lo (lo+n)).sp=rm.sp from rfl,hs,vc h,show(eZ rm lo (lo+n)).len=n from Nat.add_sub_cancel_left ..,show(eZ rm lo (lo+n)).cap=n from Nat.add_sub_cancel_left ..]
 rfl
theorem tE{c:Cp}{b:Int}:bv (c.blocks.xs.getD b.toNat nj)=ak (cv c) b:=by
 simp only[ak,cv,fy,List.getD_eq_getElem?_getD,List.getElem?_map]
 cases c.blocks.xs[b.toNat]? <;>rfl
theorem C9{c:Cp}{b:Int}(h:gG (cv c) b=true):0≤b∧b.toNat<c.blocks.xs.length:=by
 obtain⟨_,h2,h3⟩:=ir.1 h
 simp only[cv,dU]at h3
 exact⟨h2,by omega⟩
theorem H6{c:CV}{x:Cp}{B:Bk}{b u:Int}{l:List (List UInt8)}{rm:Sv}{off:Bool}(hx:cv x=c)(hB:bv B=ak c b):
  cv ⟨x.ae,x.size,⟨x.blocks.sv,x.blocks.xs.set b.toNat ⟨⟨B.ae.sv,c6 rm 0 l⟩,u,B.bp+1,B.bad⟩⟩,x.ops+1,off,x.aS⟩={c with ops:=c.ops+1,off:=off,blocks:=c.blocks.set b.toNat {ak c b with used:=u,bp:=(ak c b).bp+1,ae:=l}}:=by
 subst hx
 rw[←hB]
 simp only[cv,tD,bv,rT]
theorem PK{xs:List Bk}{i:Nat}{B B':Bk}(h:xs[i]? =some B)(hp:B'.ae=B.ae):((xs.set i B').map fun b:Bk=>ei b.ae)=xs.map fun b:Bk=>ei b.ae:=by
 rw[List.map_set,hp]
 refine tC ?_
 rw[List.getElem?_map,h];rfl
theorem PL{c:CV}{x:Cp}{B:Bk}{b:Int}(hx:cv x=c)(hB:bv B=ak c b):
  cv ⟨x.ae,x.size,⟨x.blocks.sv,x.blocks.xs.set b.toNat ⟨B.ae,B.used,B.bp,true⟩⟩,x.ops,x.off,x.aS⟩={c with blocks:=c.blocks.set b.toNat {ak c b with bad:=true}}:=by
 subst hx
 rw[←hB]
 simp only[cv,tD,bv]
theorem Da{w0 w:World}{L:List aj}{s:Sv}{xs:List (Sl UInt8)}(h:Mem w0 (own (bT (τ:=UInt8)) 1 s xs::aj.all (xs.map fun p:Sl UInt8=>fz p)::L) w):Mem w0 (fz (⟨s,xs⟩:Sl (Sl UInt8))::L) w:=by
 have hs:=h.sat (own (bT (τ:=UInt8)) 1 s xs) (by simp)
 have ha:=h.sat (aj.all (xs.map fun p:Sl UInt8=>fz p)) (by simp)
 refine Mem.freeze (es:=[own (bT (τ:=UInt8)) 1 s xs,aj.all (xs.map fun p:Sl UInt8=>fz p)]) _ ⟨hs.1,fun x hx=>aj.xd ha (fz x) (List.mem_map_of_mem hx)⟩ (fun k hk=> ?_) h
 rcases hk with⟨cD,rfl⟩|⟨x,hx,hk⟩
 ·
  exact⟨_,by simp,xC hs.1 cD⟩
 ·
  exact⟨aj.all (xs.map fun p:Sl UInt8=>fz p),by simp,aj.z5 (List.mem_map_of_mem (f:=fun p:Sl UInt8=>fz p) hx) hk⟩
theorem H7{w0 w:World}{L:List aj}{s:Sv}{xs:List Bk}(h:Mem w0 (own bI 4 s xs::aj.all (xs.map fun b:Bk=>fz b.ae)::L) w):Mem w0 (fz (⟨s,xs⟩:Sl Bk)::L) w:=by
 have hs:=h.sat (own bI 4 s xs) (by simp)
 have ha:=h.sat (aj.all (xs.map fun b:Bk=>fz b.ae)) (by simp)
 refine Mem.freeze (es:=[own bI 4 s xs,aj.all (xs.map fun b:Bk=>fz b.ae)]) _ ⟨hs.1,fun x hx=>aj.xd ha (fz x.ae) (List.mem_map_of_mem (f:=fun b:Bk=>fz b.ae) hx)⟩ (fun k hk=> ?_) h
 rcases hk with⟨cD,rfl⟩|⟨x,hx,hk⟩
 ·
  exact⟨_,by simp,xC hs.1 cD⟩
 ·
  exact⟨aj.all (xs.map fun b:Bk=>fz b.ae),by simp,aj.z5 (List.mem_map_of_mem (f:=fun b:Bk=>fz b.ae) hx) hk⟩
theorem H8{w0 w:World}{L:List aj}{s:Sv}(hs:s.Ok)(hl:s.len=0)(h:Mem w0 L w):Mem w0 (fz (⟨s,[]⟩:Sl Ft)::L) w:=
 Mem.freeze (es:=[]) _ ⟨⟨hs,hl,fun i x hx=>by cases hx⟩,fun x hx=>by cases hx⟩ (fun k hk=>by
  rcases hk with⟨cD,_⟩|⟨x,hx,_⟩
  ·
   exact absurd rfl cD
  ·
   cases hx) h
theorem H9{w0 w:World}{L:List aj}{d:Cp}(hf:d.aS=⟨Sv.none,[]⟩)(h:Mem w0 (own bI 4 d.blocks.sv d.blocks.xs::aj.all (d.blocks.xs.map fun b:Bk=>fz b.ae)::L) w):Mem w0 (fz d::L) w:=by
 have h1:=H8 (s:=Sv.none) Sv.uK rfl (H7 h)
 rw[←hf]at h1
 exact z8 (h1.perm (List.Perm.swap _ _ _))
theorem Ia{zs:List Bk}{i:Nat}{z z':Bk}(h:zs[i]? =some z):((zs.take i).map fun b:Bk=>fz b.ae)++[fz z'.ae]=((zs.set i z').take (i+1)).map fun b:Bk=>fz b.ae:=by
 have hi:=(List.getElem?_eq_some_iff.1 h).1
 rw[List.take_add_one,List.getElem?_set_self hi,List.take_set_of_le (Nat.le_refl _),List.map_append]
 rfl
theorem Db{zs:List (Sl UInt8)}{i:Nat}{z z':Sl UInt8}(h:zs[i]? =some z):((zs.take i).map fun b:Sl UInt8=>fz b)++[fz z']=((zs.set i z').take (i+1)).map fun b:Sl UInt8=>fz b:=by
 have hi:=(List.getElem?_eq_some_iff.1 h).1
 rw[List.take_add_one,List.getElem?_set_self hi,List.take_set_of_le (Nat.le_refl _),List.map_append]
 rfl
theorem Ah{α β:Type}{f:α→β}{zs:List α}{i:Nat}{z z':α}(h:zs[i]? =some z):((zs.set i z').take (i+1)).map f=(zs.take i).map f++[f z']:=by
 have hi:=(List.getElem?_eq_some_iff.1 h).1
 rw[List.take_add_one,List.getElem?_set_self hi,List.take_set_of_le (Nat.le_refl _),List.map_append]
 rfl
theorem Ai{b n:Nat}(h:n≤1000000):(⟨false,b,0,n,n,none⟩:Sv).Ok:=⟨fun h=>(by cases h),Nat.le_refl _,by simp only;omega,fun _=>rfl⟩
end Go.Kb
namespace Go.aB
theorem Ib{P:Program}{N:ct}{w0:World}{env:Env}{L:List aj}{Q:Exit→Act→World→Prop}{c:Code}{X:Type}{pr:X→Prop}(Lx:X→List aj)(h: ∀w,Mem w0 L w→ ∃x,pr x∧Mem w0 (Lx x) w)(hk: ∀x,pr x→Cw P N w0 Q c env (Lx x)):Cw P N w0 Q c env L:=fun a w ha hw=>by
 obtain⟨x,h1,h2⟩:=h w hw
 exact hk x h1 a w ha h2
end Go.aB
namespace Go.Kb
open Go.aB
structure dI where
 kind:Int
 id:Int
 gen:UInt64
 body:Sl UInt8
def cA(x:dI):Array Value:= #[.int .i64 x.kind, .int .i64 x.id, .int .u64 x.gen.toNat,x.body.sv.val]
instance:bx cA 4:=⟨fun _=>rfl,fun x=>by
 simp only[cA,List.all_toArray,List.all_cons,List.all_nil,Sv.one,pR,pS,Bool.and_self]⟩
instance (x:dI):fw (cA x) 4:=⟨rfl,bx.one x⟩
instance (x:dI):cj (cA x) 0 (.int .i64 x.kind):=⟨rfl⟩
instance (x:dI):cj (cA x) 1 (.int .i64 x.id):=⟨rfl⟩
instance (x:dI):cj (cA x) 2 (.int .u64 x.gen.toNat):=⟨rfl⟩
instance (x:dI):cj (cA x) 3 (x.body.sv.val):=⟨rfl⟩
instance:Deep dI where
 c:=4
 cells:=cA
 size:=bx.size
 one:=bx.one
 aY h x:=Deep.aY h x.body
 bY x:=Deep.bY x.body
 ik h x hs:=Deep.ik h x.body hs
 mono w w' x hg hb:=Deep.mono w w' x.body hg hb
instance {w0:World}{L:List aj}{x:dI}[q:aT w0 L x]:aT w0 L x.body:=⟨fun w hw=>(q.h w hw)⟩
instance {w0:World}{L:List aj}{kind:Int}{id:Int}{gen:UInt64}{body:Sl UInt8}[q0:aT w0 L body]:aT w0 L (dI.mk kind id gen body):=⟨fun w hw=>q0.h w hw⟩
def lU:dI:=⟨0,0,0,⟨Sv.none,[]⟩⟩
structure cV where
 gen:UInt64
 at_:Sl Int
def dn(x:cV):Array Value:= #[.int .u64 x.gen.toNat,x.at_.sv.val]
instance:bx dn 2:=⟨fun _=>rfl,fun x=>by
 simp only[dn,List.all_toArray,List.all_cons,List.all_nil,Sv.one,pR,pS,Bool.and_self]⟩
instance (x:cV):fw (dn x) 2:=⟨rfl,bx.one x⟩
instance (x:cV):cj (dn x) 0 (.int .u64 x.gen.toNat):=⟨rfl⟩
instance (x:cV):cj (dn x) 1 (x.at_.sv.val):=⟨rfl⟩
instance:Deep cV where
 c:=2
 cells:=dn
 size:=bx.size
 one:=bx.one
 aY h x:=Deep.aY h x.at_
 bY x:=Deep.bY x.at_
 ik h x hs:=Deep.ik h x.at_ hs
 mono w w' x hg hb:=Deep.mono w w' x.at_ hg hb
instance {w0:World}{L:List aj}{x:cV}[q:aT w0 L x]:aT w0 L x.at_:=⟨fun w hw=>(q.h w hw)⟩
instance {w0:World}{L:List aj}{gen:UInt64}{at_:Sl Int}[q0:aT w0 L at_]:aT w0 L (cV.mk gen at_):=⟨fun w hw=>q0.h w hw⟩
def j9:cV:=⟨0,⟨Sv.none,[]⟩⟩
structure aD where
 live:Int
 used:Int
 bp:Int
 bad:Bool
 deriving DecidableEq
def bq(x:aD):Array Value:= #[.int .i64 x.live, .int .i64 x.used, .int .i64 x.bp, .bool x.bad]
instance:bx bq 4:=⟨fun _=>rfl,fun x=>by
 simp only[bq,List.all_toArray,List.all_cons,List.all_nil,Sv.one,pR,pS,Bool.and_self]⟩
instance (x:aD):fw (bq x) 4:=⟨rfl,bx.one x⟩
instance (x:aD):cj (bq x) 0 (.int .i64 x.live):=⟨rfl⟩
instance (x:aD):cj (bq x) 1 (.int .i64 x.used):=⟨rfl⟩
instance (x:aD):cj (bq x) 2 (.int .i64 x.bp):=⟨rfl⟩
instance (x:aD):cj (bq x) 3 (.bool x.bad):=⟨rfl⟩
def gp:aD:=⟨0,0,0,false⟩
structure bJ where
 ah:Cp
 at_:Sl Int
 gen:UInt64
 last:Int
def bC(x:bJ):Array Value:= #[.int .i64 x.ah.ae, .int .i64 x.ah.size,x.ah.blocks.sv.val, .int .i64 x.ah.ops, .bool x.ah.off,x.ah.aS.sv.val,x.at_.sv.val, .int .u64 x.gen.toNat, .int .i64 x.last]
instance:bx bC 9:=⟨fun _=>rfl,fun x=>by
 simp only[bC,List.all_toArray,List.all_cons,List.all_nil,Sv.one,pR,pS,Bool.and_self]⟩
instance (x:bJ):fw (bC x) 9:=⟨rfl,bx.one x⟩
instance (x:bJ):cj (bC x) 0 (.int .i64 x.ah.ae):=⟨rfl⟩
instance (x:bJ):cj (bC x) 1 (.int .i64 x.ah.size):=⟨rfl⟩
instance (x:bJ):cj (bC x) 2 (x.ah.blocks.sv.val):=⟨rfl⟩
instance (x:bJ):cj (bC x) 4 (.bool x.ah.off):=⟨rfl⟩
instance (x:bJ):cj (bC x) 6 (x.at_.sv.val):=⟨rfl⟩
instance (x:bJ):cj (bC x) 7 (.int .u64 x.gen.toNat):=⟨rfl⟩
instance (x:bJ):cj (bC x) 8 (.int .i64 x.last):=⟨rfl⟩
instance (x:bJ):mX (bC x) 0 6 (az x.ah):=⟨rfl,fun j hj=>by
 match j,hj with
 |0,_=>rfl
 |1,_=>rfl
 |2,_=>rfl
 |3,_=>rfl
 |4,_=>rfl
 |5,_=>rfl⟩
instance:Deep bJ where
 c:=9
 cells:=bC
 size:=bx.size
 one:=bx.one
 aY h x:=Deep.aY h x.ah∧Deep.aY h x.at_
 bY x:= .two (Deep.bY x.ah) (Deep.bY x.at_)
 ik h x hs:=⟨Deep.ik h x.ah hs.1,Deep.ik h x.at_ hs.2.1⟩
 mono w w' x hg hb:=⟨Deep.mono w w' x.ah hg.1 hb,Deep.mono w w' x.at_ hg.2 hb⟩
instance:dZ bJ where
 reach x k:=dZ.reach x.ah k∨dZ.reach x.at_ k
 congr h h' x e hg:=⟨dZ.congr h h' x.ah (fun k hk=>e k (.inl hk)) hg.1,dZ.congr h h' x.at_ (fun k hk=>e k (.inr hk)) hg.2⟩
instance {w0:World}{L:List aj}{x:bJ}[q:aT w0 L x]:aT w0 L x.ah:=⟨fun w hw=>(q.h w hw).1⟩
instance {w0:World}{L:List aj}{x:bJ}[q:aT w0 L x]:aT w0 L x.at_:=⟨fun w hw=>(q.h w hw).2⟩
instance {w0:World}{L:List aj}{ah:Cp}{at_:Sl Int}{gen:UInt64}{last:Int}[q0:aT w0 L ah][q1:aT w0 L at_]:aT w0 L (bJ.mk ah at_ gen last):=⟨fun w hw=>⟨q0.h w hw,q1.h w hw⟩⟩
def ka:bJ:=⟨fx,⟨Sv.none,[]⟩,0,0⟩
structure aP where
 av:bJ
 beyond:Bool
def aK(x:aP):Array Value:= #[.int .i64 x.av.ah.ae, .int .i64 x.av.ah.size,x.av.ah.blocks.sv.val, .int .i64 x.av.ah.ops, .bool x.av.ah.off,x.av.ah.aS.sv.val,x.av.at_.sv.val, .int .u64 x.av.gen.toNat, .int .i64 x.av.last, .bool x.beyond]
instance (x:aP):cj (aK x) 0 (.int .i64 x.av.ah.ae):=⟨rfl⟩
instance (x:aP):cj (aK x) 1 (.int .i64 x.av.ah.size):=⟨rfl⟩
instance (x:aP):cj (aK x) 2 (x.av.ah.blocks.sv.val):=⟨rfl⟩
instance (x:aP):cj (aK x) 6 (x.av.at_.sv.val):=⟨rfl⟩
instance (x:aP):cj (aK x) 7 (.int .u64 x.av.gen.toNat):=⟨rfl⟩
instance (x:aP):cj (aK x) 8 (.int .i64 x.av.last):=⟨rfl⟩
instance (x:aP):cj (aK x) 9 (.bool x.beyond):=⟨rfl⟩
instance (x:aP):mX (aK x) 0 9 (bC x.av):=⟨rfl,fun j hj=>by
 match j,hj with
 |0,_=>rfl
 |1,_=>rfl
 |2,_=>rfl
 |3,_=>rfl
 |4,_=>rfl
 |5,_=>rfl
 |6,_=>rfl
 |7,_=>rfl
 |8,_=>rfl⟩
instance (x:aP):mX (aK x) 0 6 (az x.av.ah):=⟨rfl,fun j hj=>by
 match j,hj with
 |0,_=>rfl
 |1,_=>rfl
 |2,_=>rfl
 |3,_=>rfl
 |4,_=>rfl
 |5,_=>rfl⟩
structure gH where
 w:aD
 ae:Int
 deriving DecidableEq
def da(x:gH):Array Value:= #[.int .i64 x.w.live, .int .i64 x.w.used, .int .i64 x.w.bp, .bool x.w.bad, .int .i64 x.ae]
instance:bx da 5:=⟨fun _=>rfl,fun x=>by
 simp only[da,List.all_toArray,List.all_cons,List.all_nil,Sv.one,pR,pS,Bool.and_self]⟩
instance (x:gH):fw (da x) 5:=⟨rfl,bx.one x⟩
instance (x:gH):cj (da x) 0 (.int .i64 x.w.live):=⟨rfl⟩
instance (x:gH):cj (da x) 1 (.int .i64 x.w.used):=⟨rfl⟩
instance (x:gH):cj (da x) 2 (.int .i64 x.w.bp):=⟨rfl⟩
instance (x:gH):cj (da x) 3 (.bool x.w.bad):=⟨rfl⟩
instance (x:gH):cj (da x) 4 (.int .i64 x.ae):=⟨rfl⟩
def PM:gH:=⟨gp,0⟩
end Go.Kb
namespace Go.aB
open Go.Kb
section
variable {P:Program} {N:ct} {w0:World} {env:Env} {L:List aj} {d:Option Tmp} {ty:TypeId} {ps:String} {af:Array Edge} {gd:Option (Nat×Bool)}
theorem PN{p:Nat}(h:p<2^32):4294967295^^^p=4294967295 -p:=by
 have e:(BitVec.allOnes 32^^^BitVec.ofNat 32 p).toNat=(~~~(BitVec.ofNat 32 p)).toNat:=by rw[BitVec.allOnes_xor]
 rw[BitVec.toNat_xor,BitVec.toNat_not,BitVec.toNat_allOnes,BitVec.toNat_ofNat,Nat.mod_eq_of_lt h]at e
 simpa using e
theorem Ic{x:Operand}{a:Int}{p:Nat}{t:TypeId}(hx:ev env x=some (.int .u32 a))(ea:a=(p:Int))(hp:p<2^32):
  Ry P N w0 env L ⟨d, .unOp .xor t x,ty,ps,af,gd⟩ (.int .u32 ((4294967295 -p:Nat):Int)):=fun a w ha _=>by
 subst ea
 have h1:(Op.intBits .xor .u32 4294967295 (p:Int)).run P w= .ok (.int .u32 ((4294967295 -p:Nat):Int)) w:=by
  have e2:(BitVec.ofInt 32 4294967295^^^BitVec.ofInt 32 (p:Int)).toNat=4294967295 -p:=by
   rw[uF,BitVec.toNat_xor,BitVec.toNat_ofNat,Nat.mod_eq_of_lt hp,←PN hp];rfl
  show Sem.run P (pure (Value.int .u32 (IntKind.u32.wrap ((BitVec.ofInt 32 4294967295^^^BitVec.ofInt 32 (p:Int)).toNat:Int)))) w=_
  rw[e2,nK (k:= .u32) (by show 4294967295 -p<4294967296;omega)];rfl
 have h2:Op.unary .xor (.int .u32 (p:Int))=Op.intBits .xor .u32 4294967295 (p:Int):=rfl
 simp only[execOp,ha.ev hx,h2,Sem.run_bind,h1,Sem.run_pure,Result.andThen]
theorem PO{x y:Operand}{p:Nat}{a:Int}{k':IntKind}{t u:TypeId}(hx:ev env x=some (.int .u64 a))(hy:ev env y=some (.int k' 8))(ea:a=(p:Int))(hp:p*256<2^64):
  Ry P N w0 env L ⟨d, .binOp .shl t x y u,ty,ps,af,gd⟩ (.int .u64 ((p*256:Nat):Int)):=by
 subst ea
 have h:=Gx (P:=P) (N:=N) (w0:=w0) (L:=L) (d:=d) (ty:=ty) (ps:=ps) (af:=af) (gd:=gd) (t:=t) (u:=u) hx hy (by decide)
 have e:IntKind.u64.wrap ((p:Int)*2^min (Int.toNat 8) IntKind.u64.bits)=((p*256:Nat):Int):=by
  have e1:(p:Int)*2^min (Int.toNat 8) IntKind.u64.bits=((p*256:Nat):Int):=by
   rw[show(2:Int)^min (Int.toNat 8) IntKind.u64.bits=256 from by decide];omega
  rw[e1];exact nK hp
 rw[e]at h;exact h
theorem PQ{n many i:Nat}(h:i<many):(List.replicate (many -i) (0:UInt8)++be n i).set (many -1 -i) (b8 (n/256^i))=List.replicate (many -(i+1)) 0++be n (i+1):=by
 rw[List.set_append_left _ _ (by simp;omega)]
 have e:List.replicate (many -i) (0:UInt8)=List.replicate (many -(i+1)) 0++[0]:=by
  rw[show many -i=many -(i+1)+1 by omega,List.replicate_succ',]
 rw[e,List.set_append_right _ _ (by simp;omega)]
 simp only[List.length_replicate,show many -1 -i -(many -(i+1))=0 by omega,List.set_cons_zero,List.append_assoc]
 rfl
end
end Go.aB
namespace Go.Kb
open Go.aB
def cG(n:Int):UInt8:=b8 (n%256).toNat
theorem PR(n:Nat):cG (n:Int)=b8 n:=by
 unfold cG
 rw[show((n:Int)%256).toNat=n%256 by omega,GI]
theorem vd(n:Int):IntKind.u8.wrap n=((cG n).toNat:Int):=by
 unfold cG
 rw[oA];simp[IntKind.wrap,IntKind.bits,IntKind.signed];omega
def dV(r:Rt):List UInt8:=
 [if r.p.bits=128 then 1 else 0,cG r.p.len]++(List.range 16).map (fun i=>b8 (cz r.p.key i))++[b8 (r.dv.toNat/256),b8 r.dv.toNat]
theorem nk(r:Rt):(dV r).length=20:=by simp[dV]
theorem Ie(r:Rt):(dV r)[0]? =some (if r.p.bits=128 then 1 else 0):=by simp[dV]
theorem Ig(r:Rt):(dV r)[1]? =some (cG r.p.len):=by simp[dV]
theorem Ih(r:Rt)(i:Nat)(h:i<16):(dV r)[2+i]? =some (b8 (cz r.p.key i)):=by
 unfold dV
 rw[List.append_assoc,List.getElem?_append_right (by simp),List.getElem?_append_left (by simp;omega)]
 simp[h]
theorem Ii(r:Rt):(dV r)[18]? =some (b8 (r.dv.toNat/256)):=by simp[dV]
theorem Ij(r:Rt):(dV r)[19]? =some (b8 r.dv.toNat):=by simp[dV]
theorem Ik(r:Rt){ve:Array Value}(h0:ve.size=20)(hz:ve[0]? =some (.int .u8 (if r.p.bits=128 then 1 else 0:Nat))):
  (((cH (ve.setIfInBounds 1 (.int .u8 (cG r.p.len).toNat)) 2 (cn r.p.key)).setIfInBounds 18 (.int .u8 (b8 (r.dv.toNat/256)).toNat)).setIfInBounds 19 (.int .u8 (b8 r.dv.toNat).toNat))=(aJ aM (dV r)).toArray:=by
 have hs:(cH (ve.setIfInBounds 1 (.int .u8 (cG r.p.len).toNat)) 2 (cn r.p.key)).size=20:=by rw[lH (by simp[fX,h0])];simpa using h0
 refine Array.ext_getElem? fun j=> ?_
 have hf: ∀b,(dV r)[j]? =some b→(aJ aM (dV r)).toArray[j]? =some (.int .u8 b.toNat):=fun b hb=>by
  have:=lI (enc:=aM) (dV r) j b hb 0 (by decide)
  simp only[Nat.mul_one,Nat.add_zero]at this
  simpa[aM]using this
 have hk:2+(cn r.p.key).size≤(ve.setIfInBounds 1 (.int .u8 (cG r.p.len).toNat)).size:=by simp[fX,h0]
 rw[Array.getElem?_setIfInBounds,Array.getElem?_setIfInBounds]
 by_cases Il:19=j
 ·
  subst Il;rw[hf _ (Ij r)];simp[hs]
 by_cases xH:18=j
 ·
  subst xH;rw[hf _ (Ii r)];simp[hs]
 rw[if_neg Il,if_neg xH,tc hk,fX]
 by_cases h2:2≤j∧j<2+16
 ·
  rw[if_pos h2,kJ _ _ (by omega)]
  have:=Ih r (j -2) (by omega)
  rw[show 2+(j -2)=j by omega]at this
  rw[hf _ this,oA]
  have:=m7 r.p.key (j -2)
  rw[Nat.mod_eq_of_lt this]
 rw[if_neg h2,Array.getElem?_setIfInBounds]
 by_cases h1:1=j
 ·
  subst h1;rw[hf _ (Ig r)];simp[h0]
 rw[if_neg h1]
 by_cases hj:j=0
 ·
  subst hj
  rw[hz,hf _ (Ie r)]
  split<;>rfl
 ·
  have e1:ve[j]? =none:=by simp;omega
  rw[e1]
  have:(aJ aM (dV r)).length=20:=by rw[gm,nk]
  simp;omega
open Go.aB
structure PV where
 kind:Int
 id:Int
 gen:Nat
 body:List UInt8
 deriving DecidableEq
def iL:PV:=⟨0,0,0,[]⟩
def cx(p:dI):PV:=⟨p.kind,p.id,p.gen.toNat,p.body.xs⟩
def mG(n:Int):Bool:=decide (24≤n)&&decide (n≤256)
theorem tF{n:Int}:mG n=true↔24≤n∧n≤256:=by simp only[mG,Bool.and_eq_true,decide_eq_true_eq]
def dO(n:Int):Int:=if mG n=true then n -16 else 0
def lV(p:PV)(n:Int):Bool:=mG n&&(decide (p.kind=1)||decide (p.kind=2))&&decide (0≤p.id)&&decide (p.id<64)&&decide (p.gen<281474976710656)&&decide ((p.body.length:Int)≤dO n)
theorem vf{p:PV}{n:Int}:lV p n=true↔mG n=true∧(p.kind=1∨p.kind=2)∧0≤p.id∧p.id<64∧p.gen<281474976710656∧(p.body.length:Int)≤dO n:=by
 simp only[lV,Bool.and_eq_true,Bool.or_eq_true,decide_eq_true_eq,and_assoc]
def iM(b:List UInt8):Bool:=b.all fun x=>decide (x=255)
theorem xI{b:List UInt8}:iM b=true↔ ∀x∈b,x=255:=by simp only[iM,List.all_eq_true,decide_eq_true_eq]
def iu(p:PV)(n:Nat):List UInt8:=[cG p.kind,cG p.id]++be p.gen 6++be p.body.length 2++p.body++List.replicate (n -4 -10 -p.body.length) 0
def dh(p:PV)(n:Int):List UInt8×Int:=if lV p n=true then(iu p n.toNat++be (k7 (iu p n.toNat)) 4,0)else([],1)
def qK(b:List UInt8):PV:=⟨(b.getD 0 0).toNat,(b.getD 1 0).toNat,de ((b.drop 2).take (8 -2)),[]⟩
def gY(b:List UInt8):Nat:=de ((b.drop 8).take (10 -8))
def kt(b:List UInt8):List UInt8:=(b.drop 0).take (b.length -4 -0)
def vg(b:List UInt8):List UInt8:=(b.drop (b.length -4)).take (b.length -(b.length -4))
def lW(b:List UInt8):List UInt8:=((kt b).drop (10+gY b)).take ((kt b).length -(10+gY b))
def tG(b:List UInt8):Bool:=b.all fun x=>decide (x=0)
theorem Dc{b:List UInt8}:tG b=true↔ ∀x∈b,x=0:=by simp only[tG,List.all_eq_true,decide_eq_true_eq]
def nT(b:List UInt8):Bool:=decide ((gY b:Int)≤dO b.length)&&lV (qK b) b.length
def cE(b:List UInt8):PV×Int:=
 if mG b.length=false then(iL,3)
 else if iM b=true then(iL,0)
 else if de (vg b)≠k7 (kt b)then(iL,4)
 else if nT b=false then(iL,2)
 else if tG (lW b)=false then(iL,2)
 else({qK b with body:=(b.drop 10).take (10+gY b -10)},0)
theorem Im(b:List UInt8):gY b<65536:=by
 have h:=HL ((b.drop 8).take (10 -8))
 have h2:((b.drop 8).take (10 -8)).length≤2:=by rw[List.length_take];omega
 have h3:=Nat.pow_le_pow_right (show 0<256 by decide) h2
 rw[gY];omega
theorem Dd(b:List UInt8):de ((b.drop 2).take (8 -2))<281474976710656:=by
 have h:=HL ((b.drop 2).take (8 -2))
 have h2:((b.drop 2).take (8 -2)).length≤6:=by rw[List.length_take];omega
 have h3:=Nat.pow_le_pow_right (show 0<256 by decide) h2
 omega
def qL(b:List UInt8):dI:=⟨(b.getD 0 0).toNat,(b.getD 1 0).toNat,UInt64.ofNat (de ((b.drop 2).take (8 -2))),⟨Sv.none,[]⟩⟩
theorem Io(b:List UInt8):(UInt64.ofNat (de ((b.drop 2).take (8 -2)))).toNat=de ((b.drop 2).take (8 -2)):=by
 have:=Dd b
 rw[UInt64.toNat_ofNat'];omega
theorem Ip(b:List UInt8)(s:Sv)(l:List UInt8):cx {qL b with body:=⟨s,l⟩}={qK b with body:=l}:=by
 simp only[cx,qL,Io];rfl
theorem De(b:List UInt8):cx (qL b)=qK b:=Ip b Sv.none []
theorem PS(b:List UInt8):(kt b).length=b.length -4:=by rw[kt,List.length_take,List.length_drop];omega
theorem PT{M:Nat}{k d:UInt8}(h:2≤M):((List.replicate M (0:UInt8)).set 0 k).set 1 d=[k,d]++List.replicate (M -2) 0:=by
 obtain⟨m,rfl⟩: ∃m,M=m+2:=⟨M -2,by omega⟩
 simp[List.replicate_succ]
theorem Df{A Y:List UInt8}{k N:Nat}(hk:k=A.length):(A++List.replicate N 0).take k++(Y++(A++List.replicate N 0).drop (k+Y.length))=A++Y++List.replicate (N -Y.length) 0:=by
 subst hk
 rw[List.take_left',List.drop_append,List.drop_eq_nil_of_le (by omega),Nat.add_sub_cancel_left,List.drop_replicate,List.nil_append,List.append_assoc]
 rfl
theorem PU{p:PV}{n:Nat}(h:p.body.length+14≤n):(iu p n).length=n -4:=by
 simp only[iu,List.length_append,gD,List.length_replicate,List.length_cons,List.length_nil];omega
theorem Dg(b:List UInt8):(cE b).1.body.length≤65536:=by
 have h:=Im b
 rw[cE]
 split
 ·
  simp[iL]
 ·
  split
  ·
   simp[iL]
  ·
   split
   ·
    simp[iL]
   ·
    split
    ·
     simp[iL]
    ·
     split
     ·
      simp[iL]
     ·
      simp only[List.length_take];omega
open Go.aB
structure RV where
 gen:Nat
 at_:List Int
 deriving DecidableEq
def fM:RV:=⟨0,[]⟩
def cW(r:cV):RV:=⟨r.gen.toNat,r.at_.xs⟩
def kb(n:Int):Int:=min 64 (dO n/2)
def tH(x:Int):Bool:=decide (0≤x)&&decide (x≤65535)
theorem Aj{x:Int}:tH x=true↔0≤x∧x≤65535:=by simp only[tH,Bool.and_eq_true,decide_eq_true_eq]
def lX(r:RV)(n:Int):Bool:= !decide (dO n=0)&&decide (r.gen<281474976710656)&&decide ((r.at_.length:Int)≤kb n)&&r.at_.all tH
theorem tI{r:RV}{n:Int}:lX r n=true↔dO n≠0∧r.gen<281474976710656∧(r.at_.length:Int)≤kb n∧ ∀x∈r.at_,tH x=true:=by
 simp only[lX,Bool.and_eq_true,Bool.not_eq_true',decide_eq_true_eq,decide_eq_false_iff_not,and_assoc,List.all_eq_true,ne_eq]
def nU(b:List UInt8)(i:Nat):Int:=((pK (b.getD (2*i) 0) (b.getD (2*i+1) 0)).toNat:Int)
def mH(b:List UInt8):List Int:=(List.range (b.length/2)).map (nU b)
def qM(p:PV):Bool:=decide (p.kind=2)&&decide (p.body.length%2=0)&&decide (p.id=max 0 ((p.body.length/2:Nat) -1:Int))
def bA(b:List UInt8):RV×Int:=
 if(cE b).2≠0 then(fM,(cE b).2)
 else if(cE b).1.kind=0 then(fM,6)
 else if qM (cE b).1=false then(fM,2)
 else(⟨(cE b).1.gen,mH (cE b).1.body⟩,0)
def Ak(x:Int):List UInt8:=[cG (x/256),cG x]
def fA(l:List Int):List UInt8:=(l.map Ak).flatten
def cM(r:RV)(n:Int):List UInt8×Int:=if lX r n=true then dh ⟨2,max 0 ((r.at_.length:Int) -1),r.gen,fA r.at_⟩ n else([],1)
theorem PW{b:List UInt8}{i:Nat}(h:i<b.length/2):(mH b).take (i+1)=(mH b).take i++[nU b i]:=by
 rw[List.take_add_one,mH,List.getElem?_map,List.getElem?_range h];rfl
theorem Al(b:List UInt8):(mH b).length=b.length/2:=by simp[mH]
theorem PX{l:List Int}{i:Nat}{x:Int}(h:l[i]? =some x):fA (l.take (i+1))=fA (l.take i)++Ak x:=by
 simp[fA,List.take_add_one,h]
theorem vh(l:List Int):(fA l).length=2*l.length:=by
 induction l with
 |nil=>rfl
 |cons x l ih=>
  have:fA (x::l)=Ak x++fA l:=by simp[fA]
  rw[this,List.length_append,ih]
  simp only[Ak,List.length_cons,List.length_nil];omega
structure NS where
 at_:Int
 new:RV
 found:Bool
 blank:Bool
 deriving DecidableEq
def tJ(s:NS)(i:Nat)(b:List UInt8):NS:=
 if(bA b).2=0∧(s.found=false∨s.new.gen≤(bA b).1.gen)then⟨i,(bA b).1,true,s.blank&&iM b⟩else{s with blank:=s.blank&&iM b}
def cZ(l:List (List UInt8)):Nat→NS
 |0=>⟨0,fM,false,true⟩
 |k+1=>tJ (cZ l k) k (l.getD k [])
def eL(l:List (List UInt8)):Int×RV×Int:=
 if(cZ l l.length).found=true then((cZ l l.length).at_,(cZ l l.length).new,0)else if(cZ l l.length).blank=true then(0,fM,6)else(0,fM,2)
theorem Iq{l:List (List UInt8)}{i:Nat}{b:List UInt8}(hb:l[i]? =some b)(h:(bA b).2=0∧((cZ l i).found=false∨(cZ l i).new.gen≤(bA b).1.gen)):cZ l (i+1)=⟨i,(bA b).1,true,(cZ l i).blank&&iM b⟩:=by
 rw[cZ,show l.getD i []=b by simp[List.getD,hb],tJ,if_pos h]
theorem Ir{l:List (List UInt8)}{i:Nat}{b:List UInt8}(hb:l[i]? =some b)(h: ¬((bA b).2=0∧((cZ l i).found=false∨(cZ l i).new.gen≤(bA b).1.gen))):cZ l (i+1)={cZ l i with blank:=(cZ l i).blank&&iM b}:=by
 rw[cZ,show l.getD i []=b by simp[List.getD,hb],tJ,if_neg h]
open Go.aB
structure VV where
 ah:CV
 at_:List Int
 gen:Nat
 last:Int
 deriving DecidableEq
def PY:CV:=⟨0,0,[],0,false,[]⟩
def ju:VV:=⟨PY,[],0,0⟩
def vv(v:bJ):VV:=⟨cv v.ah,v.at_.xs,v.gen.toNat,v.last⟩
def fY(c:CV):Bool:=aW c&&decide (4≤(c.blocks.length:Int))&&decide (2≤c.ae)&&decide (24≤c.size)
theorem iN{c:CV}:fY c=true↔aW c=true∧4≤(c.blocks.length:Int)∧2≤c.ae∧24≤c.size:=by simp only[fY,Bool.and_eq_true,decide_eq_true_eq,and_assoc]
def bO(c:CV)(k:Int):List UInt8:=(ak c (k/c.ae)).ae.getD (k%c.ae).toNat []
def jv(c:CV)(k:Int):Bool:=decide (2≤k/c.ae)&&decide (k/c.ae<(c.blocks.length:Int))&&decide (k%c.ae<(ak c (k/c.ae)).used)
theorem nn{c:CV}{k:Int}:jv c k=true↔2≤k/c.ae∧k/c.ae<(c.blocks.length:Int)∧k%c.ae<(ak c (k/c.ae)).used:=by simp only[jv,Bool.and_eq_true,decide_eq_true_eq,and_assoc]
def Am(p:PV×Int)(id:Int):Bool:=decide (p.2=0)&&decide (p.1.kind=1)&&decide (p.1.id=id)
def lb(c:CV)(id n:Int):Bool:=jv c (n -1)&&Am (cE (bO c (n -1))) id
theorem PZ(c:CV):{u7 c c.aS with off:=c.off}=c:=by
 rw[u7];split<;>rfl
open Go.aB
def oQ(c:CV)(l:List Int)(i:Nat):Bool:=decide (l.getD i 0=0)||(!(l.take i).contains (l.getD i 0)&&lb c (i:Int) (l.getD i 0))
def pT(c:CV)(l:List Int):Bool:=(List.range l.length).all (oQ c l)
theorem An{c:CV}{l:List Int}:pT c l=true↔ ∀i,i<l.length→oQ c l i=true:=by simp only[pT,List.all_eq_true,List.mem_range]
def jh(l:List Int)(i:Nat):Int→Option Unit:=fun x=>if x≠0∧x∈l.take i then some ()else none
theorem xJ{l:List Int}{i:Nat}{x:Int}:(jh l i x).isSome=decide (x≠0∧x∈l.take i):=by
 unfold jh;split<;>simp_all
theorem Is{l:List Int}:(fun _=>none)=jh l 0:=by
 funext x;simp[jh]
theorem Iu{l:List Int}{i:Nat}(h:l[i]? =some 0):jh l (i+1)=jh l i:=by
 funext x
 unfold jh
 rw[List.take_add_one,h]
 by_cases hx:x=0
 ·
  simp[hx]
 ·
  simp[hx]
theorem Iv{l:List Int}{i:Nat}{y:Int}(h:l[i]? =some y)(hy:y≠0):(fun z=>if z=y then some ()else jh l i z)=jh l (i+1):=by
 funext x
 unfold jh
 rw[List.take_add_one,h]
 by_cases hx:x=y
 ·
  subst hx;simp[hy]
 ·
  simp[hx]
theorem oR{l:List Int}{i:Nat}{y:Int}(h:l[i]? =some y):l.getD i 0=y:=by simp[List.getD,h]
def eA(l:List (Sl (Sl UInt8))):List (Sl UInt8):=(l.map Sl.xs).flatten
theorem Ao{l:List (Sl (Sl UInt8))}{i:Nat}{x:Sl (Sl UInt8)}(h:l[i]? =some x):eA (l.take (i+1))=eA (l.take i)++x.xs:=by
 rw[eA,List.take_add_one,h];simp[eA]
theorem P0(l:List (Sl (Sl UInt8)))(i:Nat):(eA (l.take i)).length≤(eA l).length:=by
 have e:eA l=eA (l.take i)++eA (l.drop i):=by
  unfold eA
  rw[←List.flatten_append,←List.map_append,List.take_append_drop]
 rw[e,List.length_append];omega
class Iw(w0:World)(l:List (Sl UInt8)):Prop where
 h: ∀y∈l,Deep.aY (hp w0) y
instance aT.row{w0:World}{L:List aj}{x:Sv}{l:List (Sl UInt8)}{i:Nat}[q:eY L x (bT (τ:=UInt8)) 1 l i][m:Iw w0 l]:aT w0 L (⟨x,l⟩:Sl (Sl UInt8)):=
 ⟨fun w hw=>⟨(hw.get q.h).1,fun y hy=>Deep.mono w0 w y (m.h y hy) hw.below⟩⟩
open Go.aB
def bL(c:CV):Int×RV×Int:=eL ((ak c 0).ae++(ak c 1).ae)
def ku(c:CV):Bool:=decide ((bL c).1%c.ae<(ak c ((bL c).1/c.ae)).used)&&pT c (bL c).2.1.at_
def bt(c:CV):VV×Int:=
 if fY c=false then(ju,1)
 else if c.off=true then(ju,7)
 else if(bL c).2.2≠0 then(ju,(bL c).2.2)
 else if ku c=false then(ju,2)
 else(⟨c,(bL c).2.1.at_,(bL c).2.1.gen,(bL c).1/c.ae⟩,0)
theorem Ix(l:List (List UInt8)): ∀k,k≤l.length→(cZ l k).at_=0∨(0≤(cZ l k).at_∧(cZ l k).at_<k)
 |0,_=> .inl rfl
 |k+1,h=>by
  have:=Ix l k (by omega)
  rw[cZ,tJ]
  split
  ·
   exact .inr ⟨by simp only;omega,by simp only;omega⟩
  ·
   simp only;omega
theorem Dh{l:List (List UInt8)}(h:0<l.length):0≤(eL l).1∧(eL l).1<l.length:=by
 have:=Ix l l.length (Nat.le_refl _)
 rw[eL]
 split
 ·
  simp only;omega
 ·
  split<;>(simp only;omega)
theorem P1(b:List UInt8): ∀x∈mH b,0≤x∧x≤65535:=by
 intro x hx
 obtain⟨i,_,rfl⟩:=List.mem_map.1 hx
 have:=(pK (b.getD (2*i) 0) (b.getD (2*i+1) 0)).toNat_lt
 simp only[nU];omega
theorem P2(b:List UInt8): ∀x∈(bA b).1.at_,0≤x∧x≤65535:=by
 rw[bA]
 split
 ·
  simp[fM]
 ·
  split
  ·
   simp[fM]
  ·
   split
   ·
    simp[fM]
   ·
    exact P1 _
theorem Iy(l:List (List UInt8)): ∀k,∀x∈(cZ l k).new.at_,0≤x∧x≤65535
 |0=>by simp[cZ,fM]
 |k+1=>by
  have:=Iy l k
  rw[cZ,tJ]
  split
  ·
   exact P2 _
  ·
   exact this
theorem Iz(l:List (List UInt8)): ∀x∈(eL l).2.1.at_,0≤x∧x≤65535:=by
 rw[eL]
 split
 ·
  exact Iy _ _
 ·
  split<;>simp[fM]
theorem Di(a b:Sl (Sl UInt8)):aI (eA [a,b])=aI a.xs++aI b.xs:=by simp[aI,eA]
theorem Dj{c:Cp}{i:Nat}{B:Bk}(h:c.blocks.xs[i]? =some B):ak (cv c) (i:Int)=bv B:=by
 rw[←tE];simp[List.getD,h]
theorem P3(b:List UInt8):(bA b).1.at_.length≤65536:=by
 have h:=Dg b
 rw[bA]
 split
 ·
  simp[fM]
 ·
  split
  ·
   simp[fM]
  ·
   split
   ·
    simp[fM]
   ·
    simp only[Al];omega
theorem IA(l:List (List UInt8)): ∀k,(cZ l k).new.at_.length≤65536
 |0=>by simp[cZ,fM]
 |k+1=>by
  have:=IA l k
  rw[cZ,tJ]
  split
  ·
   exact P3 _
  ·
   exact this
theorem P4(l:List (List UInt8)):(eL l).2.1.at_.length≤65536:=by
 rw[eL]
 split
 ·
  exact IA _ _
 ·
  split<;>simp[fM]
theorem IB(c:CV):(bt c).1.at_.length≤65536:=by
 have h:=P4 ((ak c 0).ae++(ak c 1).ae)
 rw[bt]
 split
 ·
  simp[ju]
 ·
  split
  ·
   simp[ju]
  ·
   split
   ·
    simp[ju]
   ·
    split
    ·
     simp[ju]
    ·
     exact h
theorem Dk{c:CV}(h:(bt c).2=0):fY c=true:=by
 cases hb:fY c with
 |true=>rfl
 |false=>rw[bt,if_pos hb]at h;cases h
def kc(x:VV):Bool:=decide ((bt {x.ah with off:=false}).2=0)&&decide ((bt {x.ah with off:=false}).1.gen=x.gen)&&decide ((bt {x.ah with off:=false}).1.last=x.last)&&decide ((bt {x.ah with off:=false}).1.at_=x.at_)
theorem P5{w0 w:World}{L:List aj}(h:Mem w0 L w):Mem w0 (fz fx::L) w:=
 z8 (d:=fx) (Mem.freeze (es:=[]) _ ⟨bP.nil _ _ _,fun x hx=>by cases hx⟩ (fun k hk=>by
  rcases hk with⟨cD,_⟩|⟨x,hx,_⟩
  ·
   exact absurd rfl cD
  ·
   cases hx) (H8 (s:=Sv.none) Sv.uK rfl h))
class IC(a:Cp)(b:outParam Cp):Prop where
 h:a=b
instance aT.Y3{w0:World}{L:List aj}{v:bJ}{c:Cp}[e:IC v.ah c][q1:aT w0 L c][q2:aT w0 L v.at_]:aT w0 L v:=
 ⟨fun w hw=>⟨by rw[e.h];exact q1.h w hw,q2.h w hw⟩⟩
def iO(c:CV)(n:Int):List UInt8:=if(cE (bO c (n -1))).2=0 then(cE (bO c (n -1))).1.body else[]
open Go.aB
theorem Dl{c:CV}(h:(bt c).2=0):fY c=true∧ku c=true∧bt c=(⟨c,(bL c).2.1.at_,(bL c).2.1.gen,(bL c).1/c.ae⟩,0):=by
 have hb:=Dk h
 by_cases h1:c.off=true
 ·
  rw[bt,if_neg (by rw[hb];simp),if_pos h1]at h;cases h
 ·
  by_cases h2:(bL c).2.2≠0
  ·
   rw[bt,if_neg (by rw[hb];simp),if_neg h1,if_pos h2]at h;exact absurd h h2
  ·
   cases h3:ku c with
   |false=>rw[bt,if_neg (by rw[hb];simp),if_neg h1,if_neg h2,if_pos h3]at h;cases h
   |true=>exact⟨hb,rfl,by rw[bt,if_neg (by rw[hb];simp),if_neg h1,if_neg h2,if_neg (by rw[h3];simp)]⟩
theorem Ap{x:VV}(h:kc x=true):aW x.ah=true∧pT x.ah x.at_=true∧ ∀y∈x.at_,0≤y∧y≤65535:=by
 simp only[kc,Bool.and_eq_true,decide_eq_true_eq]at h
 obtain⟨⟨⟨h1,h2⟩,h3⟩,h4⟩:=h
 obtain⟨hb,hl,hf⟩:=Dl h1
 rw[hf]at h4
 simp only at h4
 simp only[ku,Bool.and_eq_true,decide_eq_true_eq]at hl
 rw[h4]at hl
 refine⟨(iN.1 hb).1,hl.2,?_⟩
 rw[←h4]
 exact Iz _
theorem ID{x:VV}(h:kc x=true){i:Nat}{y:Int}(hy:x.at_[i]? =some y)(h0:y≠0):1≤y∧y≤1000000∧jv x.ah (y -1)=true:=by
 obtain⟨h1,h2,h3⟩:=Ap h
 have hr:=h3 y (List.mem_of_getElem? hy)
 have hp:=An.1 h2 i (List.getElem?_eq_some_iff.1 hy).1
 rw[oQ,oR hy]at hp
 simp only[Bool.or_eq_true,decide_eq_true_eq,Bool.and_eq_true]at hp
 rcases hp with hp|hp
 ·
  exact absurd hp h0
 ·
  have hn:=hp.2
  rw[lb,Bool.and_eq_true]at hn
  exact⟨by omega,by omega,hn.1⟩
open Go.aB
def oS(l:List Int)(j:Nat):Bool:=decide (l.getD j 0≠0)&& !(l.take j).contains (l.getD j 0)
def nV(ae:Int)(l:List Int)(k i:Nat):Nat:=((List.range k).filter fun j=>oS l j&&decide ((l.getD j 0 -1)/ae=(i:Int)+2)).length
def qN(b:BV)(live:Nat):aD:=⟨live,b.used,b.bp,b.bad⟩
def ji(c:CV)(l:List Int)(k:Nat):List aD:=(List.range (c.blocks.length -2)).map fun i:Nat=>qN (ak c ((i:Int)+2)) (nV c.ae l k i)
def hU(c:CV)(l:List Int):List aD:=ji c l l.length
theorem vi(c:CV)(l:List Int)(k:Nat):(ji c l k).length=c.blocks.length -2:=by simp[ji]
theorem Dm(ae:Int)(l:List Int)(k i:Nat):nV ae l (k+1) i=nV ae l k i+(if oS l k&&decide ((l.getD k 0 -1)/ae=(i:Int)+2)then 1 else 0):=by
 rw[nV,List.range_succ,List.filter_append,List.length_append,nV]
 congr 1
 simp only[List.filter_cons,List.filter_nil]
 split<;>rfl
theorem P6{c:CV}{l:List Int}{k:Nat}(h:oS l k=false):ji c l (k+1)=ji c l k:=by
 refine List.map_congr_left fun i _=> ?_
 rw[Dm,h];simp
theorem P7{l:List Int}{i:Nat}{y:Int}(h:l[i]? =some y)(hy:y≠0∧y∈l.take i):jh l (i+1)=jh l i:=by
 funext x
 unfold jh
 rw[List.take_add_one,h]
 by_cases hx:x=y
 ·
  subst hx;simp[hy.1,hy.2]
 ·
  simp[hx]
theorem P8{c:CV}{l:List Int}{k i:Nat}{x:aD}(h:oS l k=true)(hi:(l.getD k 0 -1)/c.ae=(i:Int)+2)(hx:(ji c l k)[i]? =some x):ji c l (k+1)=(ji c l k).set i {x with live:=x.live+1}:=by
 have eT:i<c.blocks.length -2:=by have:=(List.getElem?_eq_some_iff.1 hx).1;rwa [vi]at this
 have jj:x=qN (ak c ((i:Int)+2)) (nV c.ae l k i):=by
  rw[ji,List.getElem?_map,List.getElem?_range eT]at hx
  exact(Option.some.inj hx).symm
 refine List.ext_getElem? fun j=> ?_
 rw[List.getElem?_set]
 by_cases hj:i=j
 ·
  subst hj
  rw[if_pos rfl,if_pos (by rw[vi];exact eT),ji,List.getElem?_map,List.getElem?_range eT,Option.map_some,Dm,h,hi,jj]
  simp[qN]
 ·
  rw[if_neg hj,ji,ji,List.getElem?_map,List.getElem?_map]
  rcases Nat.lt_or_ge j (c.blocks.length -2)with iG|iG
  ·
   rw[List.getElem?_range iG,Option.map_some,Option.map_some,Dm,h,hi]
   simp only[Bool.true_and]
   rw[decide_eq_false (by omega)];simp
  ·
   rw[List.getElem?_eq_none (by simpa using iG)];rfl
def aw(l:List (Sl Int)):List Int:=(l.map Sl.xs).flatten
theorem IE{l:List (Sl Int)}{i:Nat}{x:Sl Int}(h:l[i]? =some x):aw (l.take (i+1))=aw (l.take i)++x.xs:=by
 rw[aw,List.take_add_one,h];simp[aw]
theorem P9{l:List (Sl Int)}{i j:Nat}{x:Sl Int}{y:Int}(h:l[i]? =some x)(hy:x.xs[j]? =some y):(aw l)[(aw (l.take i)).length+j]? =some y:=by
 have hj:=(List.getElem?_eq_some_iff.1 hy).1
 have e:aw l=aw (l.take (i+1))++aw (l.drop (i+1)):=by
  unfold aw
  rw[←List.flatten_append,←List.map_append,List.take_append_drop]
 rw[e,IE h,List.getElem?_append_left (by rw[List.length_append];omega),List.getElem?_append_right (by omega),Nat.add_sub_cancel_left,hy]
def oT(c:CV)(l:List Int):Prop:=(aW c=true∧l.length≤1000000)∧2≤c.blocks.length∧ ∀n∈l,n=0∨(1≤n∧n≤1000000∧2≤(n -1)/c.ae∧(n -1)/c.ae<(c.blocks.length:Int))
theorem Qa(c:CV)(l:List Int):ji c l 0=(List.range (c.blocks.length -2)).map fun i:Nat=>qN (ak c ((i:Int)+2)) 0:=by
 refine List.map_congr_left fun i _=> ?_
 simp[nV]
theorem IF(ae:Int)(l:List Int)(k i:Nat):nV ae l k i≤k:=by
 rw[nV]
 exact Nat.le_trans (List.length_filter_le _ _) (by simp)
theorem Qb{c:CV}{l:List Int}{k i:Nat}{z:aD}(h:(ji c l k)[i]? =some z):0≤z.live∧z.live≤k:=by
 rw[ji,List.getElem?_map,Option.map_eq_some_iff]at h
 obtain⟨j,_,rfl⟩:=h
 have:=IF c.ae l k j
 simp only[qN];omega
open Go.aB
def rU(a b:Int):Int:=if a<b then -1 else if b<a then 1 else 0
def nW(p:Int)(x:aD):Bool:= !x.bad&&decide (x.used<p)
def nX(x:aD):Bool:= !x.bad&&decide (x.live=0)&&decide (0<x.used)
def xK(p:Int)(x:aD):Bool:=if x.bad=true then decide (0<x.live)else decide (x.used=p)&&decide (0<x.live)&&decide (x.live<p)
def Dn(a b:aD):Int:=rU b.used a.used
def xL(a b:aD):Int:=rU a.bp b.bp
def Dp(a b:aD):Int:=rU a.live b.live
def vj(a b:aD):Int:=if a.bad=b.bad then 0 else if a.bad=true then -1 else 1
def rV(p:Int)(x:aD):Bool:=decide (0≤x.live)&&decide (x.live≤x.used)&&decide (x.used≤p)&&decide (0≤x.bp)&&decide (x.bp≤c8)
theorem rW{p:Int}{x:aD}:rV p x=true↔0≤x.live∧x.live≤x.used∧x.used≤p∧0≤x.bp∧x.bp≤c8:=by
 simp only[rV,Bool.and_eq_true,decide_eq_true_eq,and_assoc]
def lY(l:List aD)(p:Int):Bool:=decide (1≤(l.length:Int))&&decide ((l.length:Int)≤32)&&decide (1≤p)&&decide (p≤16)&&l.all (rV p)
theorem vk{l:List aD}{p:Int}:lY l p=true↔1≤(l.length:Int)∧(l.length:Int)≤32∧1≤p∧p≤16∧ ∀x∈l,rV p x=true:=by
 simp only[lY,Bool.and_eq_true,decide_eq_true_eq,and_assoc,List.all_eq_true]
def oU(a b:aD):List (aD→aD→Int)→Bool
 |[]=>false
 |o::r=>if o a b≠0 then decide (o a b<0)else oU a b r
def vl(l:List aD)(dy:aD→Bool)(os:List (aD→aD→Int))(i:Nat)(s:Int×Bool):Int×Bool:=
 if dy (l.getD i gp)=true∧(s.2=false∨oU (l.getD i gp) (l.getD s.1.toNat gp) os=true)then((i:Int),true)else s
def gq(l:List aD)(dy:aD→Bool)(os:List (aD→aD→Int)):Nat→Int×Bool
 |0=>(0,false)
 |k+1=>vl l dy os k (gq l dy os k)
def fB(l:List aD)(p:Int)(dy:aD→Bool)(os:List (aD→aD→Int)):Int×Bool:=
 if lY l p=true then gq l dy os l.length else(0,false)
def eC(l:List aD)(p:Int):Int×Bool:=fB l p (nW p) [Dn,xL]
def eD(l:List aD)(p:Int):Int×Bool:=fB l p nX [xL]
def qO(l:List aD)(p:Int):Int×Bool:=fB l p (xK p) [vj,Dp,xL]
def ld(p:Int)(x:aD):Int:=if nX x=true then p else if nW p x=true then p -x.used else 0
def lf:List Int→Int
 |[]=>0
 |x::r=>x+lf r
def xM(l:List aD)(p:Int):Int:=if lY l p=true then lf (l.map (ld p))else 0
theorem Qc(a b:List Int):lf (a++b)=lf a+lf b:=by
 induction a with
 |nil=>simp[lf]
 |cons x r ih=>simp only[List.cons_append,lf,ih];omega
theorem Dq(l:List aD)(dy:aD→Bool)(os:List (aD→aD→Int)): ∀k,0≤(gq l dy os k).1∧(gq l dy os k).1≤k∧((gq l dy os k).2=true→(gq l dy os k).1<k∧dy (l.getD (gq l dy os k).1.toNat gp)=true)
 |0=>⟨by simp[gq],by simp[gq],fun h=>by simp[gq]at h⟩
 |k+1=>by
  obtain⟨h1,h2,h3⟩:=Dq l dy os k
  rw[gq,vl]
  split
  ·
   rename_i h
   exact⟨by simp only;omega,by simp only;omega,fun _=>⟨by simp only;omega,by simpa using h.1⟩⟩
  ·
   exact⟨h1,by omega,fun h=>⟨by have:=(h3 h).1;omega,(h3 h).2⟩⟩
theorem IG{l:List aD}{dy:aD→Bool}{os:List (aD→aD→Int)}: ∀{k},(gq l dy os k).2=false→ ∀i,i<k→dy (l.getD i gp)=false
 |0,_,i,hi=>by omega
 |k+1,h,i,hi=>by
  rw[gq,vl]at h
  split at h
  ·
   cases h
  ·
   rename_i hn
   by_cases e:i=k
   ·
    subst e
    cases hr:dy (l.getD i gp)with
    |false=>rfl
    |true=>exact absurd ⟨hr, .inl h⟩ hn
   ·
    exact IG h i (by omega)
theorem xN{l:List aD}{p:Int}{dy:aD→Bool}{os:List (aD→aD→Int)}(h:(fB l p dy os).2=true):lY l p=true∧0≤(fB l p dy os).1∧(fB l p dy os).1<l.length∧dy (l.getD (fB l p dy os).1.toNat gp)=true:=by
 unfold fB at h⊢
 split at h
 ·
  rename_i hw
  rw[if_pos hw]
  obtain⟨h1,h2,h3⟩:=Dq l dy os l.length
  exact⟨hw,h1,(h3 h).1,(h3 h).2⟩
 ·
  cases h
theorem Aq{l:List aD}{p:Int}{dy:aD→Bool}{os:List (aD→aD→Int)}(hw:lY l p=true)(h:(fB l p dy os).2=false): ∀x∈l,dy x=false:=fun x hx=>by
 unfold fB at h
 rw[if_pos hw]at h
 obtain⟨i,hi⟩:=List.getElem?_of_mem hx
 have eT:=(List.getElem?_eq_some_iff.1 hi).1
 have:=IG h i eT
 rwa [show l.getD i gp=x by simp[List.getD,hi]]at this
theorem vm{α:Type}{l:List α}{i:Nat}{e:α}(he:l[i]? =some e):l.drop i=e::l.drop (i+1):=by
 obtain⟨hi,rfl⟩:=List.getElem?_eq_some_iff.1 he
 rw[List.getElem_cons_drop]
theorem Qd{p:Int}{x:aD}(h:rV p x=true)(hp:1≤p):0≤ld p x∧ld p x≤p:=by
 obtain⟨h1,h2,h3,_⟩:=rW.1 h
 rw[ld]
 split
 ·
  omega
 ·
  split<;>omega
theorem IH(p:Int): ∀l:List aD,(∀x∈l,rV p x=true)→1≤p→0≤lf (l.map (ld p))∧lf (l.map (ld p))≤(l.length:Int)*p
 |[],_,_=>by simp[lf]
 |x::r,h,hp=>by
  have h1:=IH p r (fun y hy=>h y (List.mem_cons_of_mem _ hy)) hp
  have h2:=Qd (h x List.mem_cons_self) hp
  rw[List.map_cons,lf,List.length_cons,Int.natCast_add,Int.add_mul]
  omega
theorem room_le{n:Nat}{p:Int}(h:n≤32)(h1:1≤p)(h2:p≤16):(n:Int)*p≤512:=by
 have:(n:Int)*p≤32*16:=Int.mul_le_mul (by omega) h2 (by omega) (by omega)
 omega
open Go.aB
structure dJ(c d:CV):Prop where
 ae:d.ae=c.ae
 size:d.size=c.size
 len:d.blocks.length=c.blocks.length
theorem dJ.db(c:CV):dJ c c:=⟨rfl,rfl,rfl⟩
theorem dJ.trans{c d e:CV}(h:dJ c d)(g:dJ d e):dJ c e:=⟨g.ae.trans h.ae,g.size.trans h.size,g.len.trans h.len⟩
theorem Qe(c:CV)(b g:Int)(p:List UInt8):dJ c (ff c b g p):=by
 rw[ff];split
 ·
  exact⟨rfl,rfl,by simp[hQ]⟩
 ·
  exact .db c
theorem Qf(c:CV)(b:Int):dJ c (gn c b):=by
 rw[gn];split
 ·
  exact⟨rfl,rfl,by simp[k9]⟩
 ·
  exact .db c
theorem Qg(c:CV)(b:Int):dJ c (j8 c b):=by
 rw[j8];split
 ·
  exact⟨rfl,rfl,by simp⟩
 ·
  exact .db c
theorem Dr{c:CV}(h:aW c=true){o:Int}{f:Bool}(h0:0≤o)(h1:o≤c8){i:Nat}{B:BV}(hB:k8 c.ae c.size B=true):aW {c with ops:=o,off:=f,blocks:=c.blocks.set i B}=true:=by
 obtain⟨k1,k2,k3,k4,k5⟩:=eo.1 h
 refine eo.2 ⟨by simpa using k1,h0,h1,k4,fun b hb=> ?_⟩
 rcases List.mem_or_eq_of_mem_set hb with hb|rfl
 ·
  exact k5 b hb
 ·
  exact hB
theorem Ds{c:CV}(h:aW c=true)(b g:Int)(p:List UInt8):aW (ff c b g p)=true:=by
 rw[ff];split
 ·
  rename_i hk
  obtain⟨k1,k2,k3,k4⟩:=hk
  obtain⟨j1,j2,j3,j4,j5⟩:=j7.1 k1
  obtain⟨o1,o2,o3,o4,o5,o6⟩:=ez.1 (nS j1)
  have:=(eo.1 h).2.1
  refine Dr h (by omega) (by omega) (ez.2 ⟨by simpa using o1,by simp only;omega,by simp only;omega,o4,o5,fun x hx=> ?_⟩)
  rcases List.mem_or_eq_of_mem_set hx with hx|rfl
  ·
   exact o6 x hx
  ·
   rw[lS];split
   ·
    simpa[cI]using j4
   ·
    exact j4
 ·
  exact h
theorem Dt{c:CV}(h:aW c=true)(b:Int):aW (gn c b)=true:=by
 rw[gn];split
 ·
  rename_i hk
  obtain⟨k1,k2,k3⟩:=hk
  obtain⟨j1,j2,j3⟩:=oN.1 k1
  obtain⟨o1,o2,o3,o4,o5,o6⟩:=ez.1 (nS j1)
  have:=(eo.1 h).2.1
  have hs:=jg.1 (eo.1 h).1
  have hl:(oO c (ak c b).ae).length=(ak c b).ae.length:=by rw[oO];split<;>simp
  refine Dr h (by omega) (by omega) (ez.2 ⟨by rw[hl];exact o1,?_,?_,by simp only;omega,by simp only;omega,fun x hx=> ?_⟩)
  ·
   simp only;split<;>omega
  ·
   simp only;split<;>omega
  ·
   rw[oO]at hx
   split at hx
   ·
    obtain⟨y,hy,rfl⟩:=List.mem_map.1 hx
    simpa[cI]using o6 y hy
   ·
    obtain⟨y,hy,rfl⟩:=List.mem_map.1 hx
    simp only[fL,List.length_replicate];omega
 ·
  exact h
theorem II{c:CV}(h:aW c=true)(b:Int):aW (j8 c b)=true:=by
 rw[j8];split
 ·
  rename_i hk
  have hh:gG c b=true:=by
   rw[mF]at hk
   split at hk
   ·
    assumption
   ·
    cases hk
  obtain⟨o1,o2,o3,o4,o5,o6⟩:=ez.1 (nS hh)
  have k:=eo.1 h
  exact Dr (o:=c.ops) (f:=c.off) h k.2.1 k.2.2.1 (ez.2 ⟨o1,o2,o3,o4,o5,o6⟩)
 ·
  exact h
def eE(c:CV)(b:Int):Int:=if(ak c b).bad=true then 0 else c.ae -(ak c b).used
def hY(c:CV)(b e:Int):CV:=if e=9 then j8 c b else c
def bM(c:CV)(b:Int)(p:List UInt8):Int:=jt c b (ak c b).used p
def bU(c:CV)(b:Int)(p:List UInt8):CV:=hY (ff c b (ak c b).used p) b (bM c b p)
def dF(c:CV)(b:Int):CV:=hY (gn c b) b (dH c b)
def iP(c:CV):List UInt8:=(dh ⟨1,0,0,[]⟩ c.size).1
def gI:Nat→CV→Int→CV×Int
 |0,c,b=>(dF c b,dH c b)
 |n+1,c,b=>if bM c b (iP c)≠0 then(bU c b (iP c),bM c b (iP c))else gI n (bU c b (iP c)) b
def dD(c:CV)(b:Int):CV×Int:=gI (eE c b).toNat c b
theorem IJ{c:CV}(h:aW c=true)(b e:Int):aW (hY c b e)=true:=by
 rw[hY];split
 ·
  exact II h b
 ·
  exact h
theorem Ar(c:CV)(b e:Int):dJ c (hY c b e):=by
 rw[hY];split
 ·
  exact Qg c b
 ·
  exact .db c
theorem ke{c:CV}(h:aW c=true)(b:Int)(p:List UInt8):aW (bU c b p)=true:=IJ (Ds h _ _ _) _ _
theorem iQ(c:CV)(b:Int)(p:List UInt8):dJ c (bU c b p):=(Qe _ _ _ _).trans (Ar _ _ _)
theorem As{c:CV}(h:aW c=true)(b:Int):aW (dF c b)=true:=IJ (Dt h _) _ _
theorem tK(c:CV)(b:Int):dJ c (dF c b):=(Qf _ _).trans (Ar _ _ _)
theorem IK: ∀(n:Nat) {c:CV} (b:Int),aW c=true→aW (gI n c b).1=true∧dJ c (gI n c b).1
 |0,c,b,h=>⟨As h b,tK c b⟩
 |n+1,c,b,h=>by
  rw[gI];split
  ·
   exact⟨ke h _ _,iQ _ _ _⟩
  ·
   have:=IK n b (ke h b (iP c))
   exact⟨this.1,(iQ _ _ _).trans this.2⟩
theorem xO{c:CV}(b:Int)(h:aW c=true):aW (dD c b).1=true∧dJ c (dD c b).1:=IK _ b h
theorem qP{c:CV}{b:Int}{p:List UInt8}(h:bM c b p=0):lQ c b (ak c b).used p=true∧c.off=false∧(ak c b).bad=false∧(bw c).2=false∧bU c b p=hQ c b (ak c b).used p:=by
 have h0:=h
 rw[bM,jt]at h
 by_cases h1:lQ c b (ak c b).used p=true
 ·
  rw[if_pos h1]at h
  by_cases h2:c.off=true
  ·
   rw[if_pos h2]at h;cases h
  ·
   rw[if_neg h2]at h
   by_cases h3:(ak c b).bad=true∨(ak c b).used≠(ak c b).used
   ·
    rw[if_pos h3]at h;cases h
   ·
    rw[if_neg h3]at h
    have uD:(ak c b).bad=false:=by
     cases hb:(ak c b).bad with
     |false=>rfl
     |true=>exact absurd (.inl hb) h3
    by_cases h4:(bw c).2=true
    ·
     rw[if_pos h4,kr]at h
     split at h<;>cases h
    ·
     refine⟨h1,by simpa using h2,uD,by simpa using h4,?_⟩
     rw[bU,hY,h0,if_neg (by decide),ff,if_pos ⟨h1,by simpa using h2,uD,rfl⟩]
 ·
  rw[if_neg h1]at h;cases h
theorem pU{c:CV}{b:Int}(h:gG c b=true){o:Int}{f:Bool}{B:BV}:ak {c with ops:=o,off:=f,blocks:=c.blocks.set b.toNat B} b=B:=by
 obtain⟨_,h2,h3⟩:=ir.1 h
 simp only[ak,List.getD,List.getElem?_set_self (show b.toNat<c.blocks.length by omega),Option.getD_some]
theorem IL{c:CV}{b:Int}{p:List UInt8}(h:bM c b p=0):eE (bU c b p) b=eE c b -1:=by
 obtain⟨h1,h2,h3,h4,h5⟩:=qP h
 have hh:=(j7.1 h1).1
 rw[h5,eE,eE,hQ,pU hh]
 simp only[h3]
 simp only[Bool.false_eq_true,if_false];omega
theorem Qh{c:CV}{b:Int}(h:0<eE c b):dD c b=if bM c b (iP c)≠0 then(bU c b (iP c),bM c b (iP c))else dD (bU c b (iP c)) b:=by
 obtain⟨n,hn⟩: ∃n,(eE c b).toNat=n+1:=⟨(eE c b).toNat -1,by omega⟩
 rw[dD,hn,gI]
 split
 ·
  rfl
 ·
  rename_i h0
  have qI:bM c b (iP c)=0:=by simpa using h0
  rw[dD,IL qI,show(eE c b -1).toNat=n by omega]
theorem Qi{c:CV}{b:Int}(h: ¬0<eE c b):dD c b=(dF c b,dH c b):=by
 rw[dD,show(eE c b).toNat=0 by omega];rfl
theorem xP(c:CV)(b e:Int):(hY c b e).ops=c.ops:=by
 rw[hY];split
 ·
  rw[j8];split<;>rfl
 ·
  rfl
theorem Qj(c:CV)(b g:Int)(p:List UInt8):c.ops≤(ff c b g p).ops:=by
 rw[ff];split
 ·
  simp only[hQ];omega
 ·
  omega
theorem Qk(c:CV)(b:Int):c.ops≤(gn c b).ops:=by
 rw[gn];split
 ·
  simp only[k9];omega
 ·
  omega
theorem pV{c:CV}{b:Int}{p:List UInt8}(hb:(ak c b).bad=false)(he:bM c b p=9∨bM c b p=0):(bU c b p).ops=c.ops+1:=by
 rw[bU,xP,ff]
 rw[bM,jt]at he
 by_cases h1:lQ c b (ak c b).used p=true
 ·
  rw[if_pos h1]at he
  by_cases h2:c.off=true
  ·
   rw[if_pos h2]at he;omega
  ·
   rw[if_pos ⟨h1,by simpa using h2,hb,rfl⟩];rfl
 ·
  rw[if_neg h1]at he;omega
theorem Ql{c:CV}{b:Int}(hb:(ak c b).bad=false)(he:dH c b=9∨dH c b=0):(dF c b).ops=c.ops+1:=by
 rw[dF,xP,gn]
 rw[dH]at he
 by_cases h1:mE c b=true
 ·
  rw[if_pos h1]at he
  by_cases h2:c.off=true
  ·
   rw[if_pos h2]at he;omega
  ·
   rw[if_pos ⟨h1,by simpa using h2,hb⟩];rfl
 ·
  rw[if_neg h1]at he;omega
theorem Qm{c:CV}{b:Int}{p:List UInt8}(h:bM c b p=0):(ak (bU c b p) b).bad=false:=by
 obtain⟨h1,h2,h3,h4,h5⟩:=qP h
 rw[h5,hQ,pU (j7.1 h1).1];exact h3
theorem tL(c:CV)(b:Int)(p:List UInt8):c.ops≤(bU c b p).ops:=by rw[bU,xP];exact Qj _ _ _ _
theorem IM(c:CV)(b:Int):c.ops≤(dF c b).ops:=by rw[dF,xP];exact Qk _ _
theorem vn: ∀(n:Nat) (c:CV) (b:Int),c.ops≤(gI n c b).1.ops
 |0,c,b=>IM c b
 |n+1,c,b=>by
  rw[gI];split
  ·
   exact tL _ _ _
  ·
   have:=vn n (bU c b (iP c)) b
   have:=tL c b (iP c)
   omega
theorem IN: ∀(n:Nat) {c:CV} {b:Int},(ak c b).bad=false→(gI n c b).2=9∨(gI n c b).2=0→c.ops<(gI n c b).1.ops
 |0,c,b,hb,he=>by have:=Ql hb he;simp only[gI];omega
 |n+1,c,b,hb,he=>by
  rw[gI]at he⊢
  by_cases h0:bM c b (iP c)≠0
  ·
   rw[if_pos h0]at he⊢
   have:=pV hb (p:=iP c) (he.imp id fun h=>h)
   simp only;omega
  ·
   rw[if_neg h0]at he⊢
   have qI:bM c b (iP c)=0:=by simpa using h0
   have:=IN n (Qm qI) he
   have:=tL c b (iP c)
   omega
theorem Au{c:CV}{b:Int}(hb:(ak c b).bad=false)(he:(dD c b).2=9∨(dD c b).2=0):c.ops<(dD c b).1.ops:=IN _ hb he
def bK:aD:=⟨0,0,0,true⟩
def mI(x:aD):aD:=if x.bad=true then bK else x
def aQ(c:CV)(fl:List Int):List aD:=(hU c fl).map mI
def jO(R:aD→Bool)(x:aD):aD:=if x.bad=true∨R x=false then bK else x
def bW(R:aD→Bool)(l:List aD):List aD:=l.map (jO R)
theorem np(c:CV)(fl:List Int):(aQ c fl).length=c.blocks.length -2:=by rw[aQ,List.length_map,hU,vi]
theorem vo(R:aD→Bool)(l:List aD):(bW R l).length=l.length:=by simp[bW]
open Go.aB
structure WV where
 v:VV
 beyond:Bool
 deriving DecidableEq
def WV.on(x:WV)(c:CV):WV:={x with v:={x.v with ah:=c}}
theorem pW{c:Cp}{b:Int}{B:Bk}(h:c.blocks.xs[b.toNat]? =some B):ak (cv c) b=bv B:=by
 rw[←tE];simp[List.getD,h]
def kv(c:CV):Nat:=(c.blocks.filter fun b=>b.bad).length
def jw(p:List UInt8):Nat:=if(bA p).2=0 then(bA p).1.gen else 0
def pX(l:List (List UInt8)):Nat:=l.foldl (fun m p=>max m (jw p)) 0
def jx(c:CV)(b:Int):Nat:=pX (ak c b).ae
theorem Qn{l:List (List UInt8)}{i:Nat}{p:List UInt8}(h:l[i]? =some p):pX (l.take (i+1))=max (pX (l.take i)) (jw p):=by
 rw[pX,List.take_add_one,h];simp[pX]
theorem IP(b:List UInt8):(cE b).1.gen<281474976710656:=by
 have:=Dd b
 rw[cE]
 split
 ·
  simp[iL]
 ·
  split
  ·
   simp[iL]
  ·
   split
   ·
    simp[iL]
   ·
    split
    ·
     simp[iL]
    ·
     split
     ·
      simp[iL]
     ·
      exact this
theorem IQ(p:List UInt8):jw p<281474976710656:=by
 rw[jw];split
 ·
  rw[bA];split
  ·
   simp[fM]
  ·
   split
   ·
    simp[fM]
   ·
    split
    ·
     simp[fM]
    ·
     exact IP p
 ·
  omega
theorem Du(l:List (List UInt8)):pX l<281474976710656:=by
 have: ∀(l:List (List UInt8)) (m:Nat),m<281474976710656→l.foldl (fun m p=>max m (jw p)) m<281474976710656:=by
  intro l
  induction l with
  |nil=>intro m h;exact h
  |cons p r ih=>
   intro m h
   have:=IQ p
   exact ih _ (Nat.max_lt.2 ⟨h,this⟩)
 exact this l 0 (by omega)
def vp(c:CV)(b:Int):Bool:= !(ak c b).bad&&(decide (0<(ak c b).used)||(decide (b<2)&&decide (0<jx c b)))
def fg(c:CV)(b:Int):Nat:=max 1 (jx c (1 -b)+(1 -b).toNat)
def rX(c:CV)(last:Int):Int:=if(ak c (1 -last)).bad=true then eE c last else if(ak c last).bad=true∧0<eE c (1 -last)then eE c (1 -last)else c.ae
def vq(g:Nat):Bool:=decide (281474976710656≤g+2)
def iR(e:Int):Int:=if e=9 then 0 else e
theorem IS{f:aD→aD}{l:List aD}{i:Nat}{x:aD}(h:l[i]? =some x):((l.take i).map f++l.drop i).set i (f x)=(l.take (i+1)).map f++l.drop (i+1):=by
 have hi:=(List.getElem?_eq_some_iff.1 h).1
 have hl:((l.take i).map f).length=i:=by rw[List.length_map,List.length_take];omega
 rw[List.set_append_right _ _ (by omega),hl,Nat.sub_self,vm h,List.set_cons_zero,List.take_add_one,h]
 simp
theorem IT{f:aD→aD}{l:List aD}{i:Nat}{x:aD}(h:l[i]? =some x)(hf:f x=x):(l.take i).map f++l.drop i=(l.take (i+1)).map f++l.drop (i+1):=by
 rw[vm h,List.take_add_one,h]
 simp[hf]
theorem IU{f:aD→aD}{l:List aD}{i:Nat}{x:aD}(h:l[i]? =some x):((l.take i).map f++l.drop i)[i]? =some x:=by
 have hi:=(List.getElem?_eq_some_iff.1 h).1
 have hl:((l.take i).map f).length=i:=by rw[List.length_map,List.length_take];omega
 rw[List.getElem?_append_right (by omega),hl,Nat.sub_self,List.getElem?_drop,Nat.add_zero,h]
theorem Qo{l:List BV}{i:Nat}{x:BV}(h:l[i]? =some x):((l.take (i+1)).filter fun b=>b.bad).length=((l.take i).filter fun b=>b.bad).length+(if x.bad=true then 1 else 0):=by
 rw[List.take_add_one,h,List.filter_append,List.length_append]
 congr 1
 simp only[Option.toList_some,List.filter_cons,List.filter_nil]
 split<;>simp_all
end Go.Kb
