/- Part of a proof. -/
import Derived.Test.YtaipiecplldinaaGreatG1
import Derived.Lib.AppendZerosOnto
import Derived.Lib.Overlaps
import Derived.Lib.AppendZeros
set_option maxRecDepth 20000
set_option linter.unusedSimpArgs false
set_option linter.unusedVariables false
namespace Go.ay
structure mI where
 X:Type
 v:X→Value
 e:X→ak
section
variable {P:Program} {l:List Oper} {Q:Exit→Act→World→Prop} {fs:List Nat} {mk:Nat→mI} {w0:World}
def rT(P:Program)(o:Oper)(ρ:Operand→Value)(m:mI):Prop:= ∀(w0 w:World) (L:List ak),Mem w0 L w→ ∃(x:m.X) (w':World),(execOp ρ o).run P w= .ok (.value (m.v x)) w'∧Mem w0 (m.e x::L) w'
def upon(P:Program)(w:World)(R:Value→World→Prop):Result Next→Prop
 | .ok (.value v) w'=>R v w'
 | .ok .skip w'=>R undef w'
 | .ok (.enter f args) w'=>w'=w∧Calls P f args w fun e nW=> ∃v,e= .returned v∧R v nW
 |_=>False
def p8(P:Program)(l:List Oper)(fs:List Nat)(mk:Nat→mI)(Q:Exit→Act→World→Prop)(w0:World):List Nat→Act→List ak→List ak→Prop
 |[],af,L,_=> ∀w,Mem w0 L w→Q .normal af w
 |k::ord,af,L,Lq=> ∃o,l[k]? =some o∧(if fs.contains k=true then(∀i∈ord,fs.contains (i+2000)=true→ ∃oi,l[i]? =some oi∧oi.guard=none∧rT P oi af.eval (mk i))∧(if fs.contains (k+2000)=true then
  o.guard=none∧rT P o af.eval (mk k)∧ ∀x:(mk k).X,p8 P l fs mk Q w0 ord (af.put o.dst ((mk k).v x)) ((mk k).e x::L) Lq
  else
   Region.wanted o (yielded l.toArray af.tmps)=true∧(∀w,Mem w0 L w→upon P w (fun v w'=> ∃L' gg,Mem w0 L' w'∧(∀w,Mem w0 L' w→Mem w0 gg w)∧(∀w,Mem w0 gg w→Mem w0 Lq w)∧(fs.contains (k+5000)=true→ ∀w,Mem w0 L' w→Mem w0 L w)∧p8 P l fs mk Q w0 ord (af.put o.dst v) L' gg) ((execOp af.eval o).run P w))∧
   (fs.contains (k+4000)=true→ ∀e w,Mem w0 (e::L) w→upon P w (fun v w'=> ∃L' gg,Mem w0 (e::L') w'∧(∀w,Mem w0 L' w→Mem w0 gg w)∧(∀w,Mem w0 gg w→Mem w0 Lq w)∧(fs.contains (k+5000)=true→ ∀w,Mem w0 L' w→Mem w0 L w)∧p8 P l fs mk Q w0 ord (af.put o.dst v) L' gg) ((execOp af.eval o).run P w)))
  else∃v,(Region.wanted o (yielded l.toArray af.tmps)=true→rK P o af (Mem w0 (if fs.contains (k+1000)=true then L else Lq)) v)∧(Region.wanted o (yielded l.toArray af.tmps)=false→v=undef)∧p8 P l fs mk Q w0 ord (af.put o.dst v) L Lq)
def yR(o:Oper):List Nat:=(o.after.toList.filter fun e=>Region.binds .any e).map (·.on)
def Ev(l:List Oper)(fs:List Nat)(A:List (List Nat))(prev seen:List Nat)(k:Nat)(o:Oper):Bool:=
 (!fs.contains k||fs.contains (k+2000)||fs.contains (k+5000)||(prev.all fun j=> !fs.contains (j+1000)||(A.getD k []).contains j))&&
 (match o.op with| .select .. =>false|_=>true)&&
 ((yR o).all fun j=>decide (j<k))&&
 (fs.contains (k+2000)||seen.all fun f=>(A.getD k []).contains f)&&
 ((A.getD k []).all fun f=>(yR o).any fun j=>j==f||(A.getD j []).contains f)&&
 ((List.range l.length).all fun j=>match dH l j with
  |none=>true
  |some d=>(!(o.looksAt l.toArray).contains d||(prev.contains j&&(yR o).contains j&&(!fs.contains (k+2000)|| !fs.contains j)))&&(j==k||o.dst !=some d))
def rU(l:List Oper)(fs:List Nat)(A:List (List Nat)):List Nat→List Nat→List Nat→Bool
 |_,_,[]=>true
 |prev,seen,k::ord=>(match l[k]?with|none=>false|some o=>Ev l fs A prev seen k o)&&(!fs.contains k||fs.contains (k+2000)||(ord.all fun j=> !fs.contains (j+2000))||(fs.contains (k+4000)&&decide ((ord.filter fun j=>fs.contains (j+2000)).length≤1)))&&rU l fs A (k::prev) (if fs.contains k then k::seen else seen) ord
def Bc(l:List Oper)(fs:List Nat)(A:List (List Nat))(ord:List Nat):Bool:=
 ((List.range l.length).all fun j=>ord.contains j)&&decide ord.Nodup&&(ord.all fun j=>decide (j<l.length))&&(fs.all fun j=>decide (j<2000))&&rU l fs A [] [] ord
def Bd(l:List Oper)(fs:List Nat)(A:List (List Nat))(ord:List Nat):Bool:=
 ((List.range l.length).all fun j=>ord.contains j)&&decide ord.Nodup&&(ord.all fun j=>decide (j<l.length))&&rU l fs A [] [] ord
structure Ew(l:List Oper)(fs:List Nat)(A:List (List Nat))(prev seen:List Nat)(k:Nat)(o:Oper):Prop where
 tmp:fs.contains k=true→fs.contains (k+2000)=false→fs.contains (k+5000)=false→ ∀j∈prev,fs.contains (j+1000)=true→j∈A.getD k []
 sP: ∀cs b,o.op≠ .select cs b
 back: ∀e∈o.after,Region.binds .any e=true→e.on<k
 Rh:fs.contains (k+2000)=false→ ∀f∈seen,f∈A.getD k []
 cert: ∀f∈A.getD k [],∃e∈o.after,Region.binds .any e=true∧(e.on=f∨f∈A.getD e.on [])
 reads: ∀j d,j<l.length→dH l j=some d→d∈o.looksAt l.toArray→j∈prev∧ ∃e∈o.after,Region.binds .any e=true∧e.on=j
 one: ∀j d,j<l.length→dH l j=some d→j≠k→o.dst≠some d
 Ri:fs.contains (k+2000)=true→ ∀j d,j<l.length→dH l j=some d→d∈o.looksAt l.toArray→fs.contains j=false
theorem Ey{o:Oper}{j:Nat}:j∈yR o↔ ∃e∈o.after,Region.binds .any e=true∧e.on=j:=by
 unfold yR
 simp only[List.mem_map,List.mem_filter]
 constructor
 ·
  rintro⟨e,⟨h1,h2⟩,h3⟩;exact⟨e,by simpa using h1,h2,h3⟩
 ·
  rintro⟨e,h1,h2,h3⟩;exact⟨e,⟨by simpa using h1,h2⟩,h3⟩
theorem Rj{A:List (List Nat)}{prev seen:List Nat}{k:Nat}{o:Oper}(h:Ev l fs A prev seen k o=true):Ew l fs A prev seen k o:=by
 simp only[Ev,Bool.and_eq_true]at h
 obtain⟨⟨⟨⟨⟨h0,h1⟩,h2⟩,h3⟩,h4⟩,h5⟩:=h
 refine⟨fun hk n8 Rk j hj ht=>by
  rw[hk,n8,Rk,Bool.not_true,Bool.false_or,Bool.false_or,Bool.false_or]at h0
  have:=List.all_eq_true.1 h0 j hj
  rw[ht]at this
  simpa using this,fun cs b e=>by rw[e]at h1;simp at h1,fun e he hb=> ?_,fun fG f hf=> ?_,fun f hf=> ?_,fun j d hj hd hl=> ?_,fun j d hj hd cH=> ?_,fun hk j d hj hd hl=> ?_⟩
 ·
  have:=List.all_eq_true.1 h2 e.on (Ey.2 ⟨e,he,hb,rfl⟩)
  simpa using this
 ·
  rw[fG,Bool.false_or]at h3
  have:=List.all_eq_true.1 h3 f hf
  simpa using this
 ·
  have:=List.all_eq_true.1 h4 f hf
  obtain⟨j,hj,dO⟩:=List.any_eq_true.1 this
  obtain⟨e,he,hb,rfl⟩:=Ey.1 hj
  exact⟨e,he,hb,by simpa using dO⟩
 ·
  have:=List.all_eq_true.1 h5 j (List.mem_range.2 hj)
  rw[hd]at this
  simp only[Bool.and_eq_true,Bool.or_eq_true,Bool.not_eq_true']at this
  rcases this.1 with h6|h6
  ·
   exact absurd hl (by simpa using h6)
  ·
   exact⟨by simpa using h6.1.1,Ey.1 (by simpa using h6.1.2)⟩
 ·
  have:=List.all_eq_true.1 h5 j (List.mem_range.2 hj)
  rw[hd]at this
  simp only[Bool.and_eq_true,Bool.or_eq_true,beq_iff_eq]at this
  rcases this.2 with h6|h6
  ·
   exact absurd h6 cH
  ·
   simpa using h6
 ·
  have:=List.all_eq_true.1 h5 j (List.mem_range.2 hj)
  rw[hd]at this
  simp only[Bool.and_eq_true,Bool.or_eq_true,Bool.not_eq_true']at this
  rcases this.1 with h6|h6
  ·
   exact absurd hl (by simpa using h6)
  ·
   rcases h6.2 with h7|h7
   ·
    rw[hk]at h7;cases h7
   ·
    exact h7
theorem tk{A:List (List Nat)}: ∀(ord prev seen:List Nat),rU l fs A prev seen ord=true→ ∀(x:List Nat) (k:Nat) (y:List Nat),ord=x++k::y→
  ∃o,l[k]? =some o∧Ew l fs A (x.reverse++prev) ((x.filter fun j=>fs.contains j).reverse++seen) k o∧(fs.contains k=true→fs.contains (k+2000)=false→(∀j∈y,fs.contains (j+2000)=false)∨(fs.contains (k+4000)=true∧(y.filter fun j=>fs.contains (j+2000)).length≤1))
 |[],_,_,_,x,k,y,e=>by simp at e
 |k0::ord,prev,seen,h,x,k,y,e=>by
  simp only[rU,Bool.and_eq_true]at h
  cases x with
  |nil=>
   simp only[List.nil_append,List.cons.injEq]at e
   obtain⟨rfl,rfl⟩:=e
   cases ho:l[k0]?with
   |none=>rw[ho]at h;simp at h
   |some o=>
    rw[ho]at h
    refine⟨o,rfl,by simpa using Rj h.1.1,fun h1 h2=> ?_⟩
    have h3:=h.1.2
    rw[h1,h2]at h3
    simp only[Bool.not_true,Bool.false_or,Bool.or_eq_true,Bool.and_eq_true,decide_eq_true_eq]at h3
    refine h3.imp (fun h4 j hj=> ?_) id
    have:=List.all_eq_true.1 h4 j hj
    simpa using this
  |cons x0 x=>
   simp only[List.cons_append,List.cons.injEq]at e
   obtain⟨rfl,rfl⟩:=e
   obtain⟨o,ho,hk,hy⟩:=tk _ _ _ h.2 x k y rfl
   refine⟨o,ho,?_,hy⟩
   have e1:(k0::x).reverse++prev=x.reverse++(k0::prev):=by simp
   have e2:(((k0::x).filter fun j=>fs.contains j).reverse++seen)=(x.filter fun j=>fs.contains j).reverse++(if fs.contains k0 then k0::seen else seen):=by
    cases hc:fs.contains k0 with
    |true=>
     rw[List.filter_cons,if_pos hc,List.reverse_cons,List.append_assoc];rfl
    |false=>
     rw[List.filter_cons,if_neg (by rw[hc];exact Bool.false_ne_true)];rfl
   rw[e1,e2];exact hk
def nw(N0 d:Nat)(v:Value)(a:Act):Prop:=a.tmps[d]? =if d<N0 then some v else none
theorem wE{N0 d:Nat}{v:Value}{a:Act}(h:a.tmps.size=N0):nw N0 d v (a.put (some d) v):=by
 subst h
 unfold nw
 simp[Act.put,Array.getElem?_setIfInBounds]
def Ez(P:Program)(l:List Oper)(w0:World)(N0 k:Nat)(af:Act)(Lq:List ak):Prop:=
 ∃o v,l[k]? =some o∧(∀d,o.dst=some d→nw N0 d v af)∧(Region.wanted o (yielded l.toArray af.tmps)=true→rK P o af (Mem w0 Lq) v)∧(Region.wanted o (yielded l.toArray af.tmps)=false→v=undef)
def Early(l:List Oper)(fs:List Nat)(mk:Nat→mI)(N0:Nat)(gL:List Nat)(bk:Array Bool)(a:Act)(e:Nat×ak):Prop:=
 e.1∈gL∧bk.getD e.1 true=true∧fs.contains e.1=true∧fs.contains (e.1+2000)=true∧ ∃o,∃x:(mk e.1).X,l[e.1]? =some o∧e.2=(mk e.1).e x∧ ∀d,o.dst=some d→nw N0 d ((mk e.1).v x) a
structure Core(P:Program)(l:List Oper)(fs:List Nat)(mk:Nat→mI)(Q:Exit→Act→World→Prop)(w0:World)(ord:List Nat)(a0:Act)(pre gL:List Nat)(af:Act)(L Lq:List ak)(E:List (Nat×ak))(bk:Array Bool)(a:Act)(w:World):Prop where
 ord:ord=pre++gL
 inv:HeadInv .any l.toArray l.length bk
 mem:Mem w0 (E.map (·.2)++L) w
 oh: ∀e∈E,Early l fs mk a0.tmps.size gL bk a e
 keys:(E.map (·.1)).Nodup
 wF: ∀w,Mem w0 L w→Mem w0 Lq w
 uV:p8 P l fs mk Q w0 gL af L Lq
 size:a.tmps.size=a0.tmps.size
 oS:af.tmps.size=a0.tmps.size
 defers:a.defers=a0.defers
 qL:af.defers=a0.defers
 sub: ∀j,j<l.length→bk.getD j true=true→j∈pre∨j∈E.map (·.1)
 fresh: ∀j∈pre,fs.contains j=true→bk.getD j true=true
 tl: ∀j∈pre,bk.getD j true=false→Ez P l w0 a0.tmps.size j af (if fs.contains (j+1000)=true then L else Lq)
 done: ∀j d,j<l.length→bk.getD j true=true→j∈pre→dH l j=some d→a.tmps[d]? =af.tmps[d]?
 rest: ∀d,(∀j,j<l.length→bk.getD j true=true→dH l j≠some d)→a.tmps[d]? =a0.tmps[d]?
 full: ∀d,(∀j∈pre,dH l j≠some d)→af.tmps[d]? =a0.tmps[d]?
variable {A:List (List Nat)} {ord:List Nat} {a0:Act}
theorem yS{o:Oper}(hn: ∀cs b,o.op≠ .select cs b){a b:Act}(h: ∀t∈o.looksAt l.toArray,a.tmps[t]? =b.tmps[t]?):
  execOp a.eval o=execOp b.eval o∧Region.wanted o (yielded l.toArray a.tmps)=Region.wanted o (yielded l.toArray b.tmps):=
 ⟨execOp_congr o hn (DY h),IC h⟩
theorem Jy{o:Oper}{a b:Act}{C D:World→Prop}{v:Value}(e:execOp a.eval o=execOp b.eval o)(hD: ∀w,D w→C w)(h:rK P o a C v):rK P o b D v:=fun w hw=>by
 have:=h w (hD w hw)
 unfold Oper.quietAt at this⊢
 rw[←e];exact this
theorem wG{pre gL:List Nat}{i k N0:Nat}{af:Act}{Lq gg:List ak}{oi:Oper}{u:Value}(hB:rU l fs A [] [] ord=true)(cB:ord.Nodup)(bx: ∀j∈ord,j<l.length)(ho:ord=pre++i::gL)(uw:l[i]? =some oi)(hk:k∈pre)(hq: ∀w,Mem w0 gg w→Mem w0 Lq w)
  (h:Ez P l w0 N0 k af Lq):Ez P l w0 N0 k (af.put oi.dst u) gg:=by
 obtain⟨o,v,h1,h2,h3,h4⟩:=h
 obtain⟨x,y,rfl⟩:=List.append_of_mem hk
 have nr:ord=x++k::(y++i::gL):=by rw[ho];simp
 obtain⟨o',ld,bR,-⟩:=tk ord [] [] hB x k _ nr
 have:o'=o:=by rw[h1]at ld;exact(Option.some.inj ld).symm
 subst this
 have fC:i<l.length:=(List.getElem?_eq_some_iff.1 uw).1
 have kt:dH l i=oi.dst:=by simp[dH,uw]
 have nx:i≠k:=fun e=>by
  subst e
  rw[nr]at cB
  have:=(List.nodup_append.1 cB).2.1
  exact(List.nodup_cons.1 this).1 (by simp)
 have Jz:i∉x:=fun hx=>by
  rw[nr]at cB
  exact(List.nodup_append.1 cB).2.2 i hx i (by simp) rfl
 have EA: ∀t∈o'.looksAt l.toArray,af.tmps[t]? =(af.put oi.dst u).tmps[t]? :=fun t ht=>by
  refine(jr _ _ _ _ fun e=> ?_).symm
  obtain⟨hp,_⟩:=bR.reads i t fC (by rw[kt];exact e) ht
  rw[List.append_nil,List.mem_reverse]at hp
  exact Jz hp
 obtain⟨e1,e2⟩:=yS bR.sP EA
 refine⟨o',v,h1,fun d hd=> ?_,fun hw=>Jy e1 hq (h3 (by rw[e2];exact hw)),fun hw=>h4 (by rw[e2];exact hw)⟩
 have:=h2 d hd
 unfold nw at this⊢
 rw[jr _ _ _ _ fun e=> ?_]
 ·
  exact this
 ·
  exact bR.one i d fC (by rw[kt];exact e) nx hd
theorem Rl{E:List (Nat×ak)}{k:Nat}(h:k∈E.map (·.1)): ∃E1 x E2,E=E1++(k,x)::E2:=by
 obtain⟨e,he,rfl⟩:=List.mem_map.1 h
 obtain⟨E1,E2,rfl⟩:=List.append_of_mem he
 exact⟨E1,e.2,E2,rfl⟩
theorem Be(hB:rU l fs A [] [] ord=true)(cB:ord.Nodup)(bx: ∀j∈ord,j<l.length): ∀(gL pre:List Nat) (af:Act) {L Lq:List ak} {E:List (Nat×ak)} {bk:Array Bool} {a:Act} {w:World},Core P l fs mk Q w0 ord a0 pre gL af L Lq E bk a w→
  ∃Rn EB Ro L' E',Core P l fs mk Q w0 ord a0 Rn EB Ro L' Lq E' bk a w∧(EB=[]∨ ∃f r,EB=f::r∧fs.contains f=true∧f∉E'.map (·.1))
 |[],pre,af,L,_,E,_,_,_,H=>⟨pre,[],af,L,E,H, .inl rfl⟩
 |k::gL,pre,af,L,Lq,E,bk,a,w,H=>by
  have pd:k∉pre:=fun h=>by
   have ny:=cB
   rw[H.ord]at ny
   exact(List.nodup_append.1 ny).2.2 k h k (by simp) rfl
  have hO: ∀j,j∈pre→j≠k:=fun j hj e=>pd (e▸hj)
  have hks:k∉gL:=fun h=>by
   have ny:=cB
   rw[H.ord]at ny
   exact(List.nodup_cons.1 (List.nodup_append.1 ny).2.1).1 h
  obtain⟨o',qa,bR,-⟩:=tk ord [] [] hB pre k gL H.ord
  have yT:k<l.length:=(List.getElem?_eq_some_iff.1 qa).1
  have Bf:dH l k=o'.dst:=by simp[dH,qa]
  cases hf:fs.contains k with
  |true=>
   by_cases hE:k∈E.map (·.1)
   ·
    obtain⟨E1,x,E2,rfl⟩:=Rl hE
    obtain⟨_,di,_,fG,oe,b,JA,hx,nz⟩:=H.oh (k,x) (by simp)
    simp only at di fG JA hx nz
    have e0:oe=o':=by rw[JA]at qa;exact Option.some.inj qa
    subst e0
    obtain⟨o,ld,hl⟩:=H.uV
    rw[if_pos hf,if_pos fG]at hl
    have e1:o=oe:=by rw[ld]at qa;exact Option.some.inj qa
    subst e1
    obtain⟨_,_,_,wH⟩:=hl
    have Rp:(((E1++(k,x)::E2).map (·.2))++L).Perm (((E1++E2).map (·.2))++x::L):=by
     simp only[List.map_append,List.map_cons,List.append_assoc,List.cons_append]
     exact List.Perm.append_left _ (List.perm_middle.symm)
    have EC:=H.keys
    simp only[List.map_append,List.map_cons]at EC
    have Rq: ∀e∈E1++E2,e.1≠k:=fun e he e2=>by
     obtain⟨n1,n2,n3⟩:=List.nodup_append.1 EC
     rcases List.mem_append.1 he with h|h
     ·
      exact n3 e.1 (List.mem_map_of_mem h) k (by simp) e2
     ·
      exact(List.nodup_cons.1 n2).1 (e2▸List.mem_map_of_mem h)
    refine Be hB cB bx gL (pre++[k]) (af.put o.dst ((mk k).v b)) (L:=x::L) (E:=E1++E2) ⟨by rw[H.ord];simp,H.inv,H.mem.perm Rp,fun e he=> ?_,?_,fun w hw=>H.wF w (hw.sub (List.sublist_cons_self _ _)),by rw[hx];exact wH b,H.size,by rw[qI];exact H.oS,H.defers,by rw[qJ];exact H.qL,fun j hj hl=> ?_,fun j hj pR=> ?_,fun j hj hl=> ?_,fun j d hj hl qV hd=> ?_,H.rest,fun d hd=> ?_⟩
    ·
     have hm:e∈E1++(k,x)::E2:=by
      rcases List.mem_append.1 he with h|h
      ·
       exact List.mem_append_left _ h
      ·
       exact List.mem_append_right _ (List.mem_cons_of_mem _ h)
     obtain⟨g1,g2⟩:=H.oh e hm
     exact⟨(List.mem_cons.1 g1).resolve_left (Rq e he),g2⟩
    ·
     rw[List.map_append]
     exact EC.sublist (List.Sublist.append_left (List.sublist_cons_self _ _) _)
    ·
     rcases H.sub j hj hl with h|h
     ·
      exact .inl (List.mem_append_left _ h)
     ·
      simp only[List.map_append,List.map_cons,List.mem_append,List.mem_cons]at h
      rcases h with h|h|h
      ·
       exact .inr (by simp only[List.map_append,List.mem_append];exact .inl h)
      ·
       exact .inl (by rw[h];simp)
      ·
       exact .inr (by simp only[List.map_append,List.mem_append];exact .inr h)
    ·
     rcases List.mem_append.1 hj with h|h
     ·
      exact H.fresh j h pR
     ·
      obtain rfl:=List.mem_singleton.1 h;exact di
    ·
     rcases List.mem_append.1 hj with h|h
     ·
      have hp:=H.tl j h hl
      cases uW:fs.contains (j+1000)with
      |true=>
       rw[uW]at hp
       simp only[if_true]at hp⊢
       exact wG hB cB bx H.ord ld h (fun w hw=>hw.sub (List.sublist_cons_self _ _)) hp
      |false=>
       rw[uW]at hp
       simp only[Bool.false_eq_true,if_false]at hp⊢
       exact wG hB cB bx H.ord ld h (fun _ h=>h) hp
     ·
      obtain rfl:=List.mem_singleton.1 h
      rw[di]at hl;cases hl
    ·
     rcases List.mem_append.1 qV with h|h
     ·
      rw[jr _ _ _ _ (bR.one j d hj hd (hO j h))]
      exact H.done j d hj hl h hd
     ·
      obtain rfl:=List.mem_singleton.1 h
      rw[Bf]at hd
      have h3:=nz d hd
      rw[hd]
      have h4:nw a0.tmps.size d ((mk j).v b) (af.put (some d) ((mk j).v b)):=wE H.oS
      unfold nw at h3 h4
      rw[h3,h4]
    ·
     rw[jr _ _ _ _ (by have:=hd k (by simp);rwa [Bf]at this)]
     exact H.full d fun j hj=>hd j (List.mem_append_left _ hj)
   ·
    exact⟨pre,k::gL,af,L,E,H, .inr ⟨k,gL,rfl,hf,hE⟩⟩
  |false=>
   obtain⟨o,ld,hl⟩:=H.uV
   rw[if_neg (by rw[hf];exact Bool.false_ne_true)]at hl
   obtain⟨v,h1,h2,h3⟩:=hl
   have:o'=o:=by rw[ld]at qa;exact(Option.some.inj qa).symm
   subst this
   have EA: ∀t∈o'.looksAt l.toArray,af.tmps[t]? =(af.put o'.dst v).tmps[t]? :=fun t ht=>by
    refine(jr _ _ _ _ fun e=> ?_).symm
    obtain⟨hp,_⟩:=bR.reads k t yT (by rw[Bf];exact e) ht
    rw[List.append_nil,List.mem_reverse]at hp
    exact pd hp
   obtain⟨e1,e2⟩:=yS bR.sP EA
   refine Be hB cB bx gL (pre++[k]) (af.put o'.dst v) ⟨by rw[H.ord];simp,H.inv,H.mem,fun e he=> ?_,H.keys,H.wF,h3,H.size,by rw[qI];exact H.oS,H.defers,by rw[qJ];exact H.qL,fun j hj hl=>(H.sub j hj hl).imp_left fun h=>List.mem_append_left _ h,fun j hj pR=> ?_,fun j hj hl=> ?_,fun j d hj hl qV hd=> ?_,H.rest,fun d hd=> ?_⟩
   ·
    obtain⟨g1,g2,g3,g4⟩:=H.oh e he
    exact⟨(List.mem_cons.1 g1).resolve_left (fun e2=>by rw[e2,hf]at g3;cases g3),g2,g3,g4⟩
   ·
    rcases List.mem_append.1 hj with h|h
    ·
     exact H.fresh j h pR
    ·
     obtain rfl:=List.mem_singleton.1 h
     rw[hf]at pR;cases pR
   ·
    rcases List.mem_append.1 hj with h|h
    ·
     exact wG hB cB bx H.ord ld h (fun _ h=>h) (H.tl j h hl)
    ·
     obtain rfl:=List.mem_singleton.1 h
     refine⟨o',v,ld,fun d hd=>by rw[hd];exact wE H.oS,fun hw=>Jy e1 (fun _ h=>h) (h1 (by rw[e2];exact hw)),fun hw=>h2 (by rw[e2];exact hw)⟩
   ·
    rcases List.mem_append.1 qV with h|h
    ·
     rw[jr _ _ _ _ (bR.one j d hj hd (hO j h))]
     exact H.done j d hj hl h hd
    ·
     obtain rfl:=List.mem_singleton.1 h
     rcases H.sub j hj hl with h5|h5
     ·
      exact absurd h5 pd
     ·
      obtain⟨e,he,Rr⟩:=List.mem_map.1 h5
      obtain⟨_,_,g3,_⟩:=H.oh e he
      rw[Rr,hf]at g3;cases g3
   ·
    rw[jr _ _ _ _ (by have:=hd k (by simp);rwa [Bf]at this)]
    exact H.full d fun j hj=>hd j (List.mem_append_left _ hj)
theorem JB{x p1 y y':List Nat}{i:Nat}(hn:(p1++i::y').Nodup)(h:x++i::y=p1++i::y'):x=p1:=by
 induction x generalizing p1 with
 |nil=>
  cases p1 with
  |nil=>rfl
  |cons q p1=>
   simp only[List.nil_append,List.cons_append,List.cons.injEq]at h
   obtain⟨rfl,_⟩:=h
   exact absurd (by simp) (List.nodup_cons.1 hn).1
 |cons c x ih=>
  cases p1 with
  |nil=>
   simp only[List.nil_append,List.cons_append,List.cons.injEq]at h
   obtain⟨rfl,h2⟩:=h
   rw[←h2]at hn
   exact absurd (by simp) (List.nodup_cons.1 hn).1
  |cons q p1=>
   simp only[List.cons_append,List.cons.injEq]at h
   obtain⟨rfl,h2⟩:=h
   rw[ih (List.nodup_cons.1 hn).2 h2]
theorem JC{bk:Array Bool}(hB:rU l fs A [] [] ord=true)(gU: ∀j,j<l.length→j∈ord)(inv:HeadInv .any l.toArray l.length bk): ∀(k:Nat) (o:Oper),l[k]? =some o→(∀e∈o.after,Region.binds .any e=true→bk.getD e.on false=true)→
  ∀f∈A.getD k [],bk.getD f false=true:=by
 intro k
 induction k using Nat.strongRecOn with
 |_ k ih=>
  intro o ld hd f hf
  obtain⟨x,y,hx⟩:=List.append_of_mem (gU k (List.getElem?_eq_some_iff.1 ld).1)
  obtain⟨o',qa,bR,-⟩:=tk ord [] [] hB x k y hx
  have:o'=o:=by rw[ld]at qa;exact(Option.some.inj qa).symm
  subst this
  obtain⟨e,he,hb,h⟩:=bR.cert f hf
  have hl:=hd e he hb
  rcases h with rfl|h
  ·
   exact hl
  ·
   have bx:=bR.back e he hb
   have Bg:e.on<l.length:=by have:=(List.getElem?_eq_some_iff.1 ld).1;omega
   exact ih e.on bx l[e.on] (by simp[Bg]) (inv.closed e.on _ (by simp[Bg]) hl) f h
theorem Bh{bk:Array Bool}{i:Nat}(hi:i<bk.size)(h:bk.getD i false=true):bk.getD i true=true:=by
 simp[hi]at h⊢;exact h
theorem Bi(hB:rU l fs A [] [] ord=true)(cB:ord.Nodup)(bx: ∀j∈ord,j<l.length)(gU: ∀j,j<l.length→j∈ord)(wI: ∀k,k<l.length→fs.contains k=false→fs.contains (k+2000)=false):
  ∀(m:Nat) (pre gL:List Nat) (af:Act) (L Lq:List ak) (E:List (Nat×ak)) (bk:Array Bool) (a:Act) (w:World),left l.length bk=m→Core P l fs mk Q w0 ord a0 pre gL af L Lq E bk a w→wpAny P .any l.toArray Q m bk a w
 |0,ED,EE,EF,L0,Lq,E0,bk,a,w,hm,H0=>by
  obtain⟨pre,gL,af,L,E,H,EG⟩:=Be hB cB bx EE ED EF H0
  have hQ: ∀j,j<l.length→bk.getD j true=true:=fun j hj=>by
   cases h:bk.getD j true with
   |true=>rfl
   |false=>
    have:j∈(List.range l.length).filter fun i=> !bk.getD i true:=List.mem_filter.2 ⟨List.mem_range.2 hj,by rw[h];rfl⟩
    rw[List.length_eq_zero_iff.1 hm]at this
    cases this
  have hr:Region.ready .any l.toArray bk=[]:=by
   refine List.eq_nil_iff_forall_not_mem.2 fun i hi=> ?_
   obtain⟨h1,o,h2,_⟩:=mem_ready.1 hi
   rw[hQ i (by have:=(Array.getElem?_eq_some_iff.1 h2).1;simpa using this)]at h1;cases h1
  have EH:gL=[]:=by
   rcases EG with h|⟨k,r,hs,_,hE⟩
   ·
    exact h
   ·
    exfalso
    have hk:k∈ord:=by rw[H.ord,hs];simp
    rcases H.sub k (bx k hk) (hQ k (bx k hk))with this|this
    ·
     have ny:=cB
     rw[H.ord,hs]at ny
     exact absurd rfl ((List.nodup_append.1 ny).2.2 k this k (by simp))
    ·
     exact hE this
  have hE:E=[]:=List.eq_nil_iff_forall_not_mem.2 fun e he=>by
   have:=(H.oh e he).1
   rw[EH]at this;cases this
  have wH:=H.uV
  rw[EH]at wH
  have EI:=H.ord
  rw[EH,List.append_nil]at EI
  have e1:a=af:=by
   have:a.tmps=af.tmps:=by
    apply Array.ext_getElem?
    intro d
    by_cases hw: ∃j,j<l.length∧dH l j=some d
    ·
     obtain⟨j,hj,hd⟩:=hw
     exact H.done j d hj (hQ j hj) (by rw[←EI];exact gU j hj) hd
    ·
     have h1: ∀j,j<l.length→dH l j≠some d:=fun j hj hd=>hw ⟨j,hj,hd⟩
     rw[H.rest d fun j hj _=>h1 j hj,H.full d fun j hj=>h1 j (bx j (by rw[EI];exact hj))]
   have h2:a.defers=af.defers:=by rw[H.defers,H.qL]
   cases a;cases af
   simp_all
  subst e1
  have lf:=H.mem
  rw[hE]at lf
  exact⟨hr,wH w (by simpa using lf)⟩
 |m+1,ED,EE,EF,L0,Lq,E0,bk,a,w,hm,H0=>by
  obtain⟨pre,gL,af,L,E,H,EG⟩:=Be hB cB bx EE ED EF H0
  have JD:Mem w0 L w:=H.mem.sub (List.sublist_append_right _ _)
  obtain⟨i0,yq,AJ,yr⟩: ∃i,i<l.length∧bk.getD i true=false∧ ∀j,j<i→bk.getD j true=true:=by
   have cH: ∃i,i<l.length∧bk.getD i true=false:=by
    cases hf:(List.range l.length).filter fun i=> !bk.getD i true with
    |nil=>rw[left,hf]at hm;cases hm
    |cons i r=>
     have:i∈(List.range l.length).filter fun i=> !bk.getD i true:=by rw[hf];simp
     obtain⟨h1,h2⟩:=List.mem_filter.1 this
     exact⟨i,List.mem_range.1 h1,by simpa using h2⟩
   obtain⟨i,h1,h2⟩:=cH
   induction i using Nat.strongRecOn with
   |_ i ih=>
    by_cases h: ∃j,j<i∧bk.getD j true=false
    ·
     obtain⟨j,hj,dO⟩:=h
     exact ih j hj (by omega) dO
    ·
     refine⟨i,h1,h2,fun j hj=> ?_⟩
     cases hh:bk.getD j true with
     |true=>rfl
     |false=>exact absurd ⟨j,hj,hh⟩ h
  have fc:bk.size=l.length:=by simpa using H.inv.size
  have ok: ∀k,k<l.length→ ∃x y o,ord=x++k::y∧l[k]? =some o∧Ew l fs A (x.reverse++[]) ((x.filter fun j=>fs.contains j).reverse++[]) k o:=fun k hk=>by
   obtain⟨x,y,hx⟩:=List.append_of_mem (gU k hk)
   obtain⟨o,ho,bR,-⟩:=tk ord [] [] hB x k y hx
   exact⟨x,y,o,hx,ho,bR⟩
  have yt:i0∈Region.ready .any l.toArray bk:=by
   obtain⟨x,y,o,_,ho,bR⟩:=ok i0 yq
   refine mem_ready.2 ⟨AJ,o,by simpa using ho,fun e he hb=> ?_⟩
   have h1:=bR.back e he hb
   have h2:=yr e.on h1
   have h3:e.on<bk.size:=by omega
   simp[h3]at h2⊢;exact h2
  refine⟨fun h=>(by rw[h]at yt;cases yt),fun i hi=> ?_⟩
  obtain⟨hO,o',nr,oT⟩:=mem_ready.1 hi
  have rV:i<l.length:=by have:=(Array.getElem?_eq_some_iff.1 nr).1;simpa using this
  obtain⟨x,y,o,hx,ho,bR⟩:=ok i rV
  have:o'=o:=by simpa[ho]using nr.symm
  subst this
  have qM:left l.length (bk.setIfInBounds i true)=m:=by have:=IE rV hO;omega
  have kt:dH l i=o'.dst:=by simp[dH,ho]
  have gM: ∀j,j≠i→(bk.setIfInBounds i true).getD j true=bk.getD j true:=fun j cD=>getD_set_ne true (Ne.symm cD)
  have nY:(bk.setIfInBounds i true).getD i true=true:=by simp[show i<bk.size by omega]
  have qW: ∀j d,j<l.length→dH l j=some d→j≠i→o'.dst≠some d:=bR.one
  have JE:(∀j∈x,j∈pre)→ ∀t∈o'.looksAt l.toArray,a.tmps[t]? =af.tmps[t]? :=fun j6 t ht=>by
   by_cases hw: ∃j,j<l.length∧dH l j=some t
   ·
    obtain⟨j,hj,hd⟩:=hw
    obtain⟨oR,e,he,hb,dW⟩:=bR.reads j t hj hd ht
    have hl:=oT e he hb
    rw[dW]at hl
    rw[List.append_nil,List.mem_reverse]at oR
    exact H.done j t hj (Bh (by omega) hl) (j6 j oR) hd
   ·
    have h1: ∀j,j<l.length→dH l j≠some t:=fun j hj hd=>hw ⟨j,hj,hd⟩
    rw[H.rest t fun j hj _=>h1 j hj,H.full t fun j hj=>h1 j (bx j (by rw[H.ord];exact List.mem_append_left _ hj))]
  by_cases qb:i∈pre
  ·
   have j6: ∀j∈x,j∈pre:=fun j hj=>by
    obtain⟨p1,p2,hp⟩:=List.append_of_mem qb
    have h1:=H.ord
    rw[hp,hx,List.append_assoc,List.cons_append]at h1
    have yU:=cB
    rw[hx]at yU
    have h2:x=p1:=JB (h1▸yU) h1
    rw[hp,←h2];exact List.mem_append_left _ hj
   obtain⟨ee,ew⟩:=yS bR.sP (JE j6)
   obtain⟨op,v,dP,yV,wJ,Rs⟩:=H.tl i qb hO
   have:op=o':=by rw[ho]at dP;exact(Option.some.inj dP).symm
   subst this
   have ju:fs.contains i=false:=by
    cases h:fs.contains i with
    |false=>rfl
    |true=>have:=H.fresh i qb h;rw[hO]at this;cases this
   have next: ∀w',Mem w [] w'→wpAny P .any l.toArray Q m (bk.setIfInBounds i true) (a.put op.dst v) w':=fun w' gK=>by
    refine Bi hB cB bx gU wI m pre gL af L Lq E _ _ w' qM ⟨H.ord,H.inv.set hi rV,by simpa using H.mem.call gK,fun e he=> ?_,H.keys,H.wF,H.uV,by rw[qI];exact H.size,H.oS,by rw[qJ];exact H.defers,H.qL,fun j hj hl=> ?_,fun j hj hf=> ?_,fun j hj hl=> ?_,fun j d hj hl qV hd=> ?_,fun d hd=> ?_,H.full⟩
    ·
     obtain⟨g1,g2,g3,g4,oe,b,g5,g7,g8⟩:=H.oh e he
     have yW:e.1≠i:=fun e2=>by
      have ny:=cB
      rw[H.ord]at ny
      exact(List.nodup_append.1 ny).2.2 i qb e.1 g1 e2.symm
     refine⟨g1,by rw[gM _ yW];exact g2,g3,g4,oe,b,g5,g7,fun d hd=> ?_⟩
     have:=g8 d hd
     unfold nw at this⊢
     rw[jr _ _ _ _ (qW e.1 d (List.getElem?_eq_some_iff.1 g5).1 (by simp[dH,g5,hd]) yW)]
     exact this
    ·
     by_cases cD:j=i
     ·
      subst cD;exact .inl qb
     ·
      exact H.sub j hj (by rw[←gM j cD];exact hl)
    ·
     rw[gM j (fun e=>by subst e;rw[ju]at hf;cases hf)];exact H.fresh j hj hf
    ·
     exact H.tl j hj (by rw[←gM j (fun e=>by subst e;rw[nY]at hl;cases hl)];exact hl)
    ·
     by_cases cD:j=i
     ·
      subst cD
      rw[kt]at hd
      have h2:=yV d hd
      rw[hd]
      have h3:nw a0.tmps.size d v (a.put (some d) v):=wE H.size
      unfold nw at h2 h3
      rw[h2,h3]
     ·
      rw[gM j cD]at hl
      rw[jr _ _ _ _ (qW j d hj hd cD)]
      exact H.done j d hj hl qV hd
    ·
     have h1:op.dst≠some d:=by
      have:=hd i rV nY
      rwa [kt]at this
     rw[jr _ _ _ _ h1]
     refine H.rest d fun j hj hl=> ?_
     by_cases cD:j=i
     ·
      subst cD;rw[kt];exact h1
     ·
      exact hd j hj (by rw[gM j cD];exact hl)
   unfold wpOp
   simp only[nr]
   rw[ew]
   split
   ·
    rename_i nZ
    have h1:=wJ nZ w (by
     split
     ·
      exact JD
     ·
      exact H.wF w JD)
    refine .inl ?_
    unfold Oper.wp
    rw[ee]
    unfold Oper.quietAt at h1
    generalize(execOp af.eval op).run P w=r at h1
    unfold Oper.quietUpon at h1
    split at h1
    ·
     obtain⟨rfl,rfl⟩:=h1;exact next _ (Mem.init _)
    ·
     obtain⟨rfl,e⟩:=h1;rw[e]at next;exact next _ (Mem.init _)
    ·
     obtain⟨rfl,rM⟩:=h1
     exact rM.mono fun e nW ⟨he,hm⟩=>by subst he;exact next _ hm
    ·
     exact h1.elim
   ·
    rename_i nZ
    have:=Rs (by simpa using nZ)
    rw[this]at next
    exact next w (Mem.init _)
  ·
   have EJ:i∈gL:=by
    have:=gU i rV
    rw[H.ord]at this
    exact(List.mem_append.1 this).resolve_left qb
   rcases EG with rfl|⟨f,r,rfl,yX,yY⟩
   ·
    cases EJ
   have Ru: ∀(v:Value) (j d:Nat),j<l.length→(bk.setIfInBounds i true).getD j true=true→j∈pre→dH l j=some d→(a.put o'.dst v).tmps[d]? =af.tmps[d]? :=fun v j d hj hl qV hd=>by
    have cD:j≠i:=fun e=>qb (e▸qV)
    rw[gM j cD]at hl
    rw[jr _ _ _ _ (qW j d hj hd cD)]
    exact H.done j d hj hl qV hd
   have Bj: ∀(v:Value) (d:Nat),(∀j,j<l.length→(bk.setIfInBounds i true).getD j true=true→dH l j≠some d)→(a.put o'.dst v).tmps[d]? =a0.tmps[d]? :=fun v d hd=>by
    have h1:o'.dst≠some d:=by
     have:=hd i rV nY
     rwa [kt]at this
    rw[jr _ _ _ _ h1]
    refine H.rest d fun j hj hl=> ?_
    by_cases cD:j=i
    ·
     subst cD;rw[kt];exact h1
    ·
     exact hd j hj (by rw[gM j cD];exact hl)
   have EK:i∉E.map (·.1):=fun h=>by
    obtain⟨e,he,rfl⟩:=List.mem_map.1 h
    have:=(H.oh e he).2.1
    rw[hO]at this;cases this
   have JF: ∀(v:Value),∀e∈E,Early l fs mk a0.tmps.size (f::r) (bk.setIfInBounds i true) (a.put o'.dst v) e:=fun v e he=>by
    obtain⟨g1,g2,g3,g4,oe,b,g5,g7,g8⟩:=H.oh e he
    have yW:e.1≠i:=fun e2=>EK (e2▸List.mem_map_of_mem he)
    refine⟨g1,by rw[gM _ yW];exact g2,g3,g4,oe,b,g5,g7,fun d hd=> ?_⟩
    have:=g8 d hd
    unfold nw at this⊢
    rw[jr _ _ _ _ (qW e.1 d (List.getElem?_eq_some_iff.1 g5).1 (by simp[dH,g5,hd]) yW)]
    exact this
   by_cases JG:i=f
   ·
    subst JG
    have j6: ∀j∈x,j∈pre:=fun j hj=>by
     have h1:=H.ord
     rw[hx]at h1
     have yU:=cB
     rw[hx]at yU
     have h2:x=pre:=JB (h1▸yU) h1
     rw[←h2];exact hj
    obtain⟨ee,ew⟩:=yS bR.sP (JE j6)
    obtain⟨of,oU,hl⟩:=H.uV
    have:of=o':=by rw[ho]at oU;exact(Option.some.inj oU).symm
    subst this
    rw[if_pos yX]at hl
    replace hl:=hl.2
    have next: ∀v w' E' L' gg,E'=E→(∀e∈E,e.1∈r)→Mem w0 (E'.map (·.2)++L') w'→(∀w,Mem w0 L' w→Mem w0 gg w)→(∀w,Mem w0 gg w→Mem w0 Lq w)→(fs.contains (i+2000)=true∨fs.contains (i+5000)=true→ ∀w,Mem w0 L' w→Mem w0 L w)→p8 P l fs mk Q w0 r (af.put of.dst v) L' gg→wpAny P .any l.toArray Q m (bk.setIfInBounds i true) (a.put of.dst v) w':=fun v w' E' L' gg uX uY g1 g2 g3 JH g4=>by
     subst uX
     refine Bi hB cB bx gU wI m (pre++[i]) r (af.put of.dst v) L' gg E' _ _ w' qM ⟨by rw[H.ord];simp,H.inv.set hi rV,g1,fun e he=> ?_,H.keys,g2,g4,by rw[qI];exact H.size,by rw[qI];exact H.oS,by rw[qJ];exact H.defers,by rw[qJ];exact H.qL,fun j hj l5=> ?_,fun j hj hf=> ?_,fun j hj l5=> ?_,fun j d hj l5 qV hd=> ?_,Bj v,fun d hd=> ?_⟩
     ·
      obtain⟨g1',Rv⟩:=JF v e he
      exact⟨uY e he,Rv⟩
     ·
      by_cases cD:j=i
      ·
       subst cD;exact .inl (by simp)
      ·
       exact(H.sub j hj (by rw[←gM j cD];exact l5)).imp_left fun h=>List.mem_append_left _ h
     ·
      rcases List.mem_append.1 hj with h|h
      ·
       by_cases cD:j=i
       ·
        subst cD;exact nY
       ·
        rw[gM j cD];exact H.fresh j h hf
      ·
       obtain rfl:=List.mem_singleton.1 h;exact nY
     ·
      rcases List.mem_append.1 hj with h|h
      ·
       have cD:j≠i:=fun e=>qb (e▸h)
       cases uW:fs.contains (j+1000)with
       |true=>
        cases om:fs.contains (i+2000)with
        |true=>
         have hp:=H.tl j h (by rw[←gM j cD];exact l5)
         rw[uW]at hp
         simp only[if_true]at hp⊢
         exact wG hB cB bx H.ord ho h (JH (.inl om)) hp
        |false=>
         cases h5:fs.contains (i+5000)with
         |true=>
          have hp:=H.tl j h (by rw[←gM j cD];exact l5)
          rw[uW]at hp
          simp only[if_true]at hp⊢
          exact wG hB cB bx H.ord ho h (JH (.inr h5)) hp
         |false=>
          exfalso
          obtain⟨oi,sR,Bm,-⟩:=tk ord [] [] hB pre i r H.ord
          have e1:oi=of:=by rw[ho]at sR;exact(Option.some.inj sR).symm
          subst e1
          have Rx:=Bm.tmp yX om h5 j (by rw[List.append_nil,List.mem_reverse];exact h) uW
          have iZ:=JC hB gU H.inv i oi ho oT j Rx
          have Rz:j∈ord:=by rw[H.ord];exact List.mem_append_left _ h
          have:=Bh (by have:=bx j Rz;omega) iZ
          rw[gM j cD]at l5
          rw[this]at l5;cases l5
       |false=>
        have hp:=H.tl j h (by rw[←gM j cD];exact l5)
        rw[uW]at hp
        simp only[Bool.false_eq_true,if_false]at hp⊢
        exact wG hB cB bx H.ord ho h g3 hp
      ·
       obtain rfl:=List.mem_singleton.1 h
       rw[nY]at l5;cases l5
     ·
      rcases List.mem_append.1 qV with h|h
      ·
       have cD:j≠i:=fun e=>qb (e▸h)
       rw[jr _ _ _ _ (qW j d hj hd cD),jr _ _ _ _ (qW j d hj hd cD)]
       rw[gM j cD]at l5
       exact H.done j d hj l5 h hd
      ·
       obtain rfl:=List.mem_singleton.1 h
       rw[kt]at hd
       rw[hd]
       have h3:nw a0.tmps.size d v (a.put (some d) v):=wE H.size
       have h4:nw a0.tmps.size d v (af.put (some d) v):=wE H.oS
       unfold nw at h3 h4
       rw[h3,h4]
     ·
      have h1:of.dst≠some d:=by
       have:=hd i (by simp)
       rwa [kt]at this
      rw[jr _ _ _ _ h1]
      exact H.full d fun j hj=>hd j (List.mem_append_left _ hj)
    have uY: ∀e∈E,e.1∈r:=fun e he=>by
     have:=(H.oh e he).1
     exact(List.mem_cons.1 this).resolve_left fun e2=>EK (e2▸List.mem_map_of_mem he)
    cases om:fs.contains (i+2000)with
    |true=>
     rw[if_pos om]at hl
     obtain⟨hg,EL,wH⟩:=hl
     obtain⟨mx,w',fX,EM⟩:=EL w0 w (E.map (·.2)++L) H.mem
     unfold wpOp
     simp only[nr]
     rw[if_pos (by simp[Region.wanted,hg])]
     refine .inl ?_
     unfold Oper.wp
     rw[ee,fX]
     refine next _ _ E ((mk i).e mx::L) Lq rfl uY ?_ (fun w hw=>H.wF w (hw.sub (List.sublist_cons_self _ _))) (fun _ h=>h) (fun _ w hw=>hw.sub (List.sublist_cons_self _ _)) (wH _)
     exact EM.perm (List.perm_middle.symm)
    |false=>
     rw[if_neg (by rw[om];exact Bool.false_ne_true)]at hl
     obtain⟨hg,fX,RA⟩:=hl
     have Bn:E=[]∨ ∃x,E=[x]∧fs.contains (i+4000)=true:=by
      obtain⟨oi,sR,Bm,RB⟩:=tk ord [] [] hB pre i r H.ord
      rcases RB yX om with h|⟨h4,h5⟩
      ·
       refine .inl (List.eq_nil_iff_forall_not_mem.2 fun e he=> ?_)
       have h1:=h e.1 (uY e he)
       rw[(H.oh e he).2.2.2.1]at h1;cases h1
      ·
       rcases uX:E with _|⟨x,_|⟨y,E'⟩⟩
       ·
        exact .inl rfl
       ·
        exact .inr ⟨x,rfl,h4⟩
       ·
        exfalso
        have m1:x.1∈r.filter fun j=>fs.contains (j+2000):=List.mem_filter.2 ⟨uY x (by rw[uX];simp),(H.oh x (by rw[uX];simp)).2.2.2.1⟩
        have m2:y.1∈r.filter fun j=>fs.contains (j+2000):=List.mem_filter.2 ⟨uY y (by rw[uX];simp),(H.oh y (by rw[uX];simp)).2.2.2.1⟩
        have JI:=H.keys
        rw[uX]at JI
        have cH:x.1≠y.1:=fun e=>(List.nodup_cons.1 JI).1 (by simp[e])
        rcases eG:(r.filter fun j=>fs.contains (j+2000))with _|⟨z,_|⟨z2,fl⟩⟩
        ·
         rw[eG]at m1;cases m1
        ·
         rw[eG,List.mem_singleton]at m1 m2
         exact cH (m1.trans m2.symm)
        ·
         rw[eG]at h5;simp at h5
     have h1:upon P w (fun v w'=> ∃L' gg,Mem w0 (E.map (·.2)++L') w'∧(∀w,Mem w0 L' w→Mem w0 gg w)∧(∀w,Mem w0 gg w→Mem w0 Lq w)∧(fs.contains (i+5000)=true→ ∀w,Mem w0 L' w→Mem w0 L w)∧p8 P l fs mk Q w0 r (af.put of.dst v) L' gg) ((execOp af.eval of).run P w):=by
      have pe:=H.mem
      rcases Bn with hE|⟨x,hE,h4⟩
      ·
       rw[hE]at pe⊢
       exact fX w (by simpa using pe)
      ·
       rw[hE]at pe⊢
       exact RA h4 x.2 w (by simpa using pe)
     have EN: ∀v w',(∃L' gg,Mem w0 (E.map (·.2)++L') w'∧(∀w,Mem w0 L' w→Mem w0 gg w)∧(∀w,Mem w0 gg w→Mem w0 Lq w)∧(fs.contains (i+5000)=true→ ∀w,Mem w0 L' w→Mem w0 L w)∧p8 P l fs mk Q w0 r (af.put of.dst v) L' gg)→wpAny P .any l.toArray Q m (bk.setIfInBounds i true) (a.put of.dst v) w':=fun v w' ⟨L',gg,g1,g2,g3,g5,g4⟩=>
      next v w' E L' gg rfl uY g1 g2 g3 (fun h=>h.elim (fun h=>by rw[om]at h;cases h) g5) g4
     unfold wpOp
     simp only[nr]
     rw[if_pos (by rw[ew];exact hg)]
     refine .inl ?_
     unfold Oper.wp
     rw[ee]
     generalize(execOp af.eval of).run P w=r' at h1
     unfold upon at h1
     split at h1
     ·
      exact EN _ _ h1
     ·
      exact EN _ _ h1
     ·
      obtain⟨rfl,rM⟩:=h1
      exact rM.mono fun e nW ⟨u,he,hR⟩=>by subst he;exact EN u _ hR
     ·
      exact h1.elim
   ·
    have yu:i∈r:=(List.mem_cons.1 EJ).resolve_left JG
    cases om:fs.contains (i+2000)with
    |false=>
     exfalso
     obtain⟨r1,r2,rfl⟩:=List.append_of_mem yu
     have yZ:ord=(pre++f::r1)++i::r2:=by rw[H.ord];simp
     obtain⟨oi,sR,Bm,-⟩:=tk ord [] [] hB _ i r2 yZ
     have e1:oi=o':=by rw[ho]at sR;exact(Option.some.inj sR).symm
     subst e1
     have y0:=Bm.Rh om f (by
      rw[List.append_nil,List.mem_reverse,List.mem_filter]
      exact⟨by simp,yX⟩)
     have eG:=JC hB gU H.inv i oi ho oT f y0
     have pR:f∈ord:=by rw[H.ord];simp
     rcases H.sub f (bx f pR) (Bh (by have:=bx f pR;omega) eG)with uq|uq
     ·
      have ny:=cB
      rw[H.ord]at ny
      exact(List.nodup_append.1 ny).2.2 f uq f (by simp) rfl
     ·
      exact yY uq
    |true=>
     obtain⟨of,oU,hl⟩:=H.uV
     rw[if_pos yX]at hl
     obtain⟨oa,JJ,RC,EL⟩:=hl.1 i yu om
     have e1:oa=o':=by rw[ho]at JJ;exact(Option.some.inj JJ).symm
     subst e1
     have RD: ∀t∈oa.looksAt l.toArray,a.tmps[t]? =af.tmps[t]? :=fun t ht=>by
      by_cases hw: ∃j,j<l.length∧dH l j=some t
      ·
       obtain⟨j,hj,hd⟩:=hw
       obtain⟨_,e,he,hb,dW⟩:=bR.reads j t hj hd ht
       have l5:=oT e he hb
       rw[dW]at l5
       have JK:=Bh (by omega) l5
       rcases H.sub j hj JK with hp|hp
       ·
        exact H.done j t hj JK hp hd
       ·
        obtain⟨e2,y4,rfl⟩:=List.mem_map.1 hp
        have g3:=(H.oh e2 y4).2.2.1
        rw[bR.Ri om e2.1 t hj hd ht]at g3;cases g3
      ·
       have h1: ∀j,j<l.length→dH l j≠some t:=fun j hj hd=>hw ⟨j,hj,hd⟩
       rw[H.rest t fun j hj _=>h1 j hj,H.full t fun j hj=>h1 j (bx j (by rw[H.ord];exact List.mem_append_left _ hj))]
     obtain⟨ee,_⟩:=yS bR.sP RD
     obtain⟨mx,w',fX,EM⟩:=EL w0 w (E.map (·.2)++L) H.mem
     have ju:fs.contains i=true:=by
      cases ju:fs.contains i with
      |true=>rfl
      |false=>
       exfalso
       obtain⟨r1,r2,rfl⟩:=List.append_of_mem yu
       exact absurd om (by rw[wI i rV ju];exact Bool.false_ne_true)
     unfold wpOp
     simp only[nr]
     rw[if_pos (by simp[Region.wanted,RC])]
     refine .inl ?_
     unfold Oper.wp
     rw[ee,fX]
     refine Bi hB cB bx gU wI m pre (f::r) af L Lq ((i,(mk i).e mx)::E) _ _ _ qM ⟨H.ord,H.inv.set hi rV,EM,fun e he=> ?_,List.nodup_cons.2 ⟨EK,H.keys⟩,H.wF,H.uV,by rw[qI];exact H.size,H.oS,by rw[qJ];exact H.defers,H.qL,fun j hj hl=> ?_,fun j hj hf=> ?_,fun j hj hl=> ?_,Ru _,Bj _,H.full⟩
     ·
      rcases List.mem_cons.1 he with rfl|he
      ·
       exact⟨EJ,nY,ju,om,oa,mx,ho,rfl,fun d hd=>by rw[hd];exact wE H.size⟩
      ·
       exact JF _ e he
     ·
      by_cases cD:j=i
      ·
       subst cD;exact .inr (by simp)
      ·
       exact(H.sub j hj (by rw[←gM j cD];exact hl)).imp_right fun h=>List.mem_cons_of_mem _ h
     ·
      have cD:j≠i:=fun e=>qb (e▸hj)
      rw[gM j cD];exact H.fresh j hj hf
     ·
      have cD:j≠i:=fun e=>qb (e▸hj)
      exact H.tl j hj (by rw[←gM j cD];exact hl)
theorem JL{id:Nat}{ro:Option Nat}[jZ Q]{a:Act}{w:World}{L Lq:List ak}(A:List (List Nat))(ord:List Nat)(cB:nV l=true)(hm:P.follows .mixedOrders=true)(hB:Bd l fs A ord=true)(hC:Mem w0 L {w with drawn:=w.drawn+1})(lB: ∀w,Mem w0 L w→Mem w0 Lq w)
  (wI: ∀k,k<l.length→fs.contains k=false→fs.contains (k+2000)=false)
  (h:p8 P l fs mk Q w0 ord a L Lq):(Code.region id l.toArray true).wpIn (k8 ro) 0 P Q a w:=by
 simp only[Bd,Bool.and_eq_true,decide_eq_true_eq]at hB
 obtain⟨⟨⟨h1,h2⟩,h3⟩,h4⟩:=hB
 have gU: ∀j,j<l.length→j∈ord:=fun j hj=>by have:=List.all_eq_true.1 h1 j (List.mem_range.2 hj);simpa using this
 have bx: ∀j∈ord,j<l.length:=fun j hj=>by have:=List.all_eq_true.1 h3 j hj;simpa using this
 refine DU cB hm ?_
 have D1:HeadInv .any l.toArray l.length (Array.replicate l.toArray.size false):=
  ⟨by simp,fun j oj _ hl=>(by rw[getD_replicate_false]at hl;cases hl),fun t h1 h2=>by simp at h2;omega⟩
 have hO: ∀j,j<l.length→(Array.replicate l.toArray.size false).getD j true=false:=fun j hj=>by simp[hj]
 have qM:left l.length (Array.replicate l.toArray.size false)=l.length:=by
  unfold left
  rw[List.filter_eq_self.2 (fun j hj=> ?_),List.length_range]
  rw[hO j (List.mem_range.1 hj)];rfl
 have:=Bi (P:=P) (Q:=Q) (w0:=w0) (a0:=a) h4 h2 bx gU wI l.length [] ord a L Lq [] (Array.replicate l.toArray.size false) a _ qM
  ⟨rfl,D1,hC,fun e he=>(by cases he),List.nodup_nil,lB,h,rfl,rfl,rfl,rfl,fun j hj hl=>(by rw[hO j hj]at hl;cases hl),fun j hj=>(by cases hj),fun j hj=>(by cases hj),fun j d hj hl=>(by rw[hO j hj]at hl;cases hl),fun _ _=>rfl,fun _ _=>rfl⟩
 simpa using this
theorem RE{id:Nat}{ro:Option Nat}[jZ Q]{a:Act}{w:World}{L Lq:List ak}(A:List (List Nat))(ord:List Nat)(cB:nV l=true)(hm:P.follows .mixedOrders=true)(hB:Bc l fs A ord=true)(hC:Mem w0 L {w with drawn:=w.drawn+1})(lB: ∀w,Mem w0 L w→Mem w0 Lq w)
  (h:p8 P l fs mk Q w0 ord a L Lq):(Code.region id l.toArray true).wpIn (k8 ro) 0 P Q a w:=by
 have h5: ∀k,fs.contains (k+2000)=false:=fun k=>by
  simp only[Bc,Bool.and_eq_true]at hB
  cases hk:fs.contains (k+2000)with
  |false=>rfl
  |true=>
   have:=List.all_eq_true.1 hB.1.2 (k+2000) (by simpa using hk)
   have:=of_decide_eq_true this
   omega
 refine JL A ord cB hm ?_ hC lB (fun k _ _=>h5 k) h
 simp only[Bc,Bd,Bool.and_eq_true]at hB⊢
 exact⟨hB.1.1,hB.2⟩
end
open Go.RowKit
section
variable {P:Program} {N:cE} {w0:World} {env:Env} {L R R1 R2:List ak} {Q:Exit→Act→World→Prop} {d:Option Tmp} {ty:TypeId} {ps:String} {af:Array Edge} {gd:Option (Nat×Bool)} {K:Value→List ak→Prop}
def ic(P:Program)(N:cE)(w0:World)(env:Env)(L:List ak)(o:Oper)(K:Value→List ak→Prop):Prop:=
 ∀a w,db N env a→Mem w0 L w→upon P w (fun v w'=> ∃L',Mem w0 L' w'∧K v L') ((execOp a.eval o).run P w)
theorem tm{o:Oper}(h: ∀a w,db N env a→Mem w0 L w→ ∃v w' L',(execOp a.eval o).run P w= .ok (.value v) w'∧Mem w0 L' w'∧K v L'):ic P N w0 env L o K:=fun a w ha hw=>by
 obtain⟨v,w',L',h1,h2,h3⟩:=h a w ha hw
 rw[h1];exact⟨L',h2,h3⟩
theorem EO{o:Oper}(h: ∀a w,db N env a→Mem w0 L w→ ∃w' L',(execOp a.eval o).run P w= .ok .skip w'∧Mem w0 L' w'∧K undef L'):ic P N w0 env L o K:=fun a w ha hw=>by
 obtain⟨w',L',h1,h2,h3⟩:=h a w ha hw
 rw[h1];exact⟨L',h2,h3⟩
theorem y5{w:World}{R R':Value→World→Prop}(h: ∀v w,R v w→R' v w){r:Result Next}(hr:upon P w R r):upon P w R' r:=by
 unfold upon at hr⊢
 split at hr
 ·
  exact h _ _ hr
 ·
  exact h _ _ hr
 ·
  exact⟨hr.1,hr.2.mono fun e nW ⟨v,he,hv⟩=>⟨v,he,h _ _ hv⟩⟩
 ·
  exact hr.elim
theorem JM{o:Oper}{K':Value→List ak→Prop}(h:ic P N w0 env L o K')(hk: ∀v L',K' v L'→ ∃Bp,(∀w,Mem w0 L' w→Mem w0 Bp w)∧K v Bp):ic P N w0 env L o K:=fun a w ha hw=>
 y5 (fun v _ ⟨L',h1,h2⟩=>by obtain⟨Bp,h3,h4⟩:=hk v L' h2;exact⟨Bp,h3 _ h1,h4⟩) (h a w ha hw)
theorem nA{X:Type}{val:X→Value}{L':X→List ak}{pr:X→Prop}{pre:Prop}{f:FuncId}{xs:List Operand}{ts:Array TypeId}{vs:List Value}[hf:aR P f](hx:hU env xs=some vs)
  [hc:cw P f w0 L vs X val L' pr pre] (hp:pre) (hk: ∀x,pr x→K (val x) (L' x)):
  ic P N w0 env L ⟨d, .call {callee:= .value (.func f),args:=xs.toArray,argTypes:=ts},ty,ps,af,gd⟩ K:=fun a w ha hw=>by
 rw[AP hf w rfl,ha.hU hx]
 exact⟨rfl,(hc.h hp w hw).mono fun e w' ⟨x,he,j6,hm⟩=>⟨val x,he,L' x,hm,hk x j6⟩⟩
section
variable {α:Type} {enc:α→Array Value} {c:Nat} {s:Sv} {xs ys:List α}
theorem RF{t:TypeId}{z:Value}[hz:fo P t z](hk: ∀b,K ((.pointer (some ⟨b,0,none⟩))) ((ar b z.cells t::L))):
  ic P N w0 env L ⟨d, .alloc t,ty,ps,af,none⟩ K:=
 tm fun a w ha hw=>⟨_,_,_,by simp only[execOp,Instr.alloc,newVar,newRow,Sem.run_bind,AN w hz,newObj,Sem.run,Result.andThen,Sem.run_pure];rfl,hw.alloc z.cells t,hk _⟩
theorem RG{t:TypeId}{cs:Array Value}[hz:fo P t (.agg cs)](hk: ∀b,K ((.pointer (some ⟨b,0,none⟩))) ((ar b cs t::L))):
  ic P N w0 env L ⟨d, .alloc t,ty,ps,af,none⟩ K:=RF (z:= .agg cs) hk
theorem wK{t:TypeId}{x y:Operand}{i b o:Nat}{cs:Array Value}{T:TypeId}{v:Value}(hx:ev env x=some (.pointer (some ⟨b,o,none⟩)))(hy:ev env y=some v)[ht:gV P t][hh:Has L b cs T i](ho:o<cs.size)(hv:v.oneCell'=true){cs':Array Value}{L':List ak}(gO:cs.setIfInBounds o v=cs')[hu:fE L i (ar b cs' T) L'](hk:K undef (L')):
  ic P N w0 env L ⟨none, .store t x y,ty,ps,af,none⟩ K:=
 EO fun a w ha hw=>by
  have hi:=hh.h
  have hb:=hw.block hi
  have hc:w.cell? ⟨b,o,none⟩=some cs[o]:=by rw[hw.cell hi];simp[ho]
  have hf:w.frozen? ⟨b,o,none⟩=false:=frozen_of_row w b o cs T hb
  subst gO
  refine⟨w.setCell ⟨b,o,none⟩ v,_,?_,?_,hk⟩
  ·
   have h1:(storeCells ⟨b,o,none⟩ [v]).run P w= .ok () (w.setCell ⟨b,o,none⟩ v):=by
    have:=run_storeCells_at (P:=P) b o T [v] 0 cs w hb (by simp;omega) (by simpa using hv)
    rw[this,setCell_eq_setRow w b o cs T (0,0) v hb]
    congr 2
    apply Array.ext'
    simp[List.set_eq_take_append_cons_drop,ho]
   have gO:v.cells= #[v]:=by cases v<;>simp_all[Value.oneCell',Value.cells]
   simp only[execOp,ha.ev hx,ha.ev hy,Instr.storeAt,Instr.sureAddr,storeVar,Sem.run_bind,Sem.run_pure,Result.andThen,kK w ht.size,gO]
   simp[h1]
  ·
   rw[setCell_eq_setRow w b o cs T (0,0) v hb]
   rw[←hu.h]
   exact hw.setRow hi _
theorem JN{t:TypeId}{x y:Operand}{i b o n:Nat}{cs vs:Array Value}{T:TypeId}(hx:ev env x=some (.pointer (some ⟨b,o,none⟩)))(hy:ev env y=some (.agg vs))[ht:fY P t n][hh:Has L b cs T i][hs:gq vs n](ho:o+n≤cs.size){cs':Array Value}{L':List ak}(gO:cT cs o vs=cs')[hu:fE L i (ar b cs' T) L'](hk:K undef (L')):
  ic P N w0 env L ⟨none, .store t x y,ty,ps,af,none⟩ K:=
 EO fun a w ha hw=>by
  have hi:=hh.h
  have hn:=hs.h
  have hv:=hs.one
  have hb:=hw.block hi
  subst gO
  refine⟨_,_,?_,by rw[←hu.h];exact hw.setRow hi _,hk⟩
  have h1:=run_storeCells_at (P:=P) b o T vs.toList 0 cs w hb (by simp;omega) (fun v kM=>(Array.all_eq_true_iff_forall_mem.1 hv) v (by simpa using kM))
  simp only[execOp,ha.ev hx,ha.ev hy,Instr.storeAt,Instr.sureAddr,storeVar,Value.cells,Sem.run_bind,Sem.run_pure,Result.andThen,kK w ht.size,hn]
  simp[h1,cT]
theorem mJ{t:TypeId}{x y:Operand}{i b n:Nat}{cs vs:Array Value}{T:TypeId}(hx:ev env x=some (.pointer (some ⟨b,0,none⟩)))(hy:ev env y=some (.agg vs))[ht:fY P t n][hh:Has L b cs T i][hs:gq vs n][hc:gq cs n]{L':List ak}[hu:fE L i (ar b vs T) L'](hk:K undef (L')):
  ic P N w0 env L ⟨none, .store t x y,ty,ps,af,none⟩ K:=by
 have hn:=hs.h
 have Qn:=hc.h
 refine JN hx hy (by omega) (?_:cT cs 0 vs=vs) hk
 apply Array.ext'
 simp[cT];omega
theorem RH{x y:Operand}{tx fZ e:TypeId}{i b o dl dc sl sc:Nat}{a:Addr}{cs vs:Array Value}{T:TypeId}(hx:ev env x=some (.slice (some ⟨b,o,none⟩) dl dc))(hy:ev env y=some (.slice (some a) sl sc))
  [ht:fe P tx e 1] [hh:Has L b cs T i] (hn:vs.size=Nat.min sl dl) (lD: ∀w,Mem w0 L w→ ∀j,j<vs.size→w.cell? (a.add j)=vs[j]?) (hv:vs.all (·.oneCell')=true) (ho:o+vs.size≤cs.size)
  {cs':Array Value} {L':List ak} (gO:cT cs o vs=cs') [hu:fE L i (ar b cs' T) L'] (hk:K ((.int .i64 vs.size)) (L')):
  ic P N w0 env L ⟨d, .call {callee:= .builtin .copy,args:= #[x,y],argTypes:= #[tx,fZ]},ty,ps,af,none⟩ K:=
 tm fun aa w ha hw=>by
  have hi:=hh.h
  have hb:=hw.block hi
  subst gO
  have fX:=run_copy_row (P:=P) w tx fZ ty e b o dl dc a sl sc cs T vs.toList ht.eE ht.size hb (by simpa using hn)
   (fun j v kM=>by
    have hj:j<vs.size:=by simpa using(List.getElem?_eq_some_iff.1 kM).1
    rw[lD w hw j hj];simpa using kM) (by simpa using ho) (fun v kM=>(Array.all_eq_true_iff_forall_mem.1 hv) v (by simpa using kM))
  refine⟨_,w.setRow b (cT cs o vs),_,?_,by rw[←hu.h];exact hw.setRow hi _,hk⟩
  simp[execOp,ha.ev hx,ha.ev hy,resolve,invoke,builtin,fX,Result.andThen,goInt,cT]
theorem RI{t tx e:TypeId}{x y:Operand}{yv:Value}{cI i:Nat}[ht:ft P t e c cI][he:bp enc c](hx:ev env x=some s.val)(hy:ev env y=some yv)[q:fL L s enc c xs i](hc:0<c)
  (hs: ∀w,Mem w0 L w→Src P c tx yv ys.length (aJ enc ys) w) (hb:(xs.length+ys.length)*cI≤140737488355328) (ja:xs.length+ys.length≤140737488355328) {L':Sv→List ak} [hu: ∀s',fE L i (own enc c s' (xs++ys)) (L' s')]
  (hk: ∀s':Sv,s'.Ok→s'.len=(xs++ys).length→K (s'.val) ((L' s'))):
  ic P N w0 env L ⟨d, .call {callee:= .builtin .append,args:= #[x,y],argTypes:= #[t,tx]},ty,ps,af,none⟩ K:=
 tm fun a w ha hw=>by
  obtain⟨s',w',h1,h2,h3,h4⟩:=Ei (ty:=ty) ht hc hw q.h (hs w hw) hb ja
  refine⟨s'.val,w',L' s',?_,by rw[←(hu s').h];exact h4,hk s' h2 h3⟩
  simp[execOp,ha.ev hx,ha.ev hy,resolve,invoke,builtin,h1,Result.andThen]
theorem JO{t e:TypeId}{cI n:Nat}[ht:ft P t e c cI][he:bp enc c]{ops:List (Nat×Operand)}{vals:List Value}(xs:List α)(hx:kL env ops=some (idx vals 0))(hv:vals.map Value.cells=xs.map enc)(hn:xs.length=n)(hc:0<n*c)(rR:n*c≤16777216)
  (hk: ∀b,K ((Sv.val ⟨false,b,0,n,n,none⟩)) ((own enc c ⟨false,b,0,n,n,none⟩ xs::L))):
  ic P N w0 env L ⟨d, .buildSlice t n ops.toArray,ty,ps,af,none⟩ K:=
 tm fun a w ha hw=>by
  subst hn
  have e1:(ops.toArray.map fun(p:Nat×Operand)=>match p with|(i,x)=>(i,a.eval x))=(idx vals 0).toArray:=by
   rw[←ha.kL hx];simp
  refine⟨_,_,_,?_,hw.call (wy (enc:=enc) (c:=c) (xs:=xs) (cs:=(aJ enc xs).toArray) (e:=e) rfl xs.length xs.length rfl (Nat.le_refl _) (Ej hc rR) (by simp[gX]) fun i x hx j hj=>by rw[←mF (enc:=enc) xs i x hx j hj];simp),hk _⟩
  simp only[execOp,e1,Sem.run_bind,Ek ht hv hc rR w,Result.andThen,Sem.run_pure];rfl
theorem JP{t e:TypeId}{cI n cap:Nat}{z:Value}{x y:Operand}{k k':IntKind}{ix iy:Int}[ht:ft P t e c cI][hz:fo P e z](x0:α)(h0:enc x0=z.cells)(hx:ev env x=some (.int k ix))(hy:ev env y=some (.int k' iy))(ex:ix=(n:Int))(ey:iy=(cap:Int))(hle:n≤cap)(hb:cI*cap≤281474976710656)(ja:cap≤140737488355328)
  (hk: ∀b,K ((Sv.val ⟨false,b,0,n,cap,none⟩)) ((own enc c ⟨false,b,0,n,cap,none⟩ (List.replicate n x0)::L))):
  ic P N w0 env L ⟨d, .makeSlice t x y,ty,ps,af,none⟩ K:=
 tm fun a w ha hw=>by
  subst ex ey
  obtain⟨w',h1,h2⟩:=El ht hz (k:=k) (k':=k') (n:=n) x0 h0 hle hb ja w
  exact⟨_,w',_,by simp only[execOp,ha.ev hx,ha.ev hy,Sem.run_bind,h1,Result.andThen,Sem.run_pure],hw.call h2,hk _⟩
theorem uZ{t:TypeId}{x y:Operand}{i k j n p:Nat}{a a':α}{v:Value}(sz:(P.info? t).map (·.size)=some n)[he:bp enc c](hx:ev env x=some (.pointer (some ⟨s.b,p,none⟩)))(hy:ev env y=some v)[q:fL L s enc c xs i](gW:p=s.o+k*c+j)
  (ha:xs[k]? =some a) (hv:v.cells.all (·.oneCell')=true) (hn:v.cells.size=n) (hj:j+n≤c) (pW:cT (enc a) j v.cells=enc a') {L':List ak} [hu:fE L i (own enc c s (xs.set k a')) L'] (hk:K undef (L')):
  ic P N w0 env L ⟨none, .store t x y,ty,ps,af,none⟩ K:=
 EO fun aa w yH hw=>by
  subst gW hn
  obtain⟨w',h1,h2⟩:=I1 (P:=P) hw q ha hv hj pW hu
  refine⟨w',_,?_,h2,hk⟩
  simp only[execOp,yH.ev hx,yH.ev hy,Instr.storeAt,Instr.sureAddr,storeVar,Sem.run_bind,Sem.run_pure,Result.andThen,kK w sz]
  simp[h1]
theorem RJ{P:Program}{N:cE}{w0:World}{env:Env}{L:List ak}{ty:TypeId}{ps:String}{af:Array Edge}{τ:Type}{t:TypeId}{x y:Operand}{i k p:Nat}{s:Sv}{xs:List (Sl τ)}{a:Sl τ}(a':Sl τ)
  (sz:(P.info? t).map (·.size)=some 1) (hx:ev env x=some (.pointer (some ⟨s.b,p,none⟩))) (hy:ev env y=some a'.sv.val) [q:fL L s (cd (τ:=τ)) 1 xs i] (gW:p=s.o+k*1) (ha:xs[k]? =some a) {L':List ak} [hu:fE L i (own cd 1 s (xs.set k a')) L'] (hk:K undef (L')):
  ic P N w0 env L ⟨none, .store t x y,ty,ps,af,none⟩ K:=
 uZ (j:=0) (a':=a') sz hx hy (q:=q) gW ha (by rw[Sv.jc];simp[Sv.one]) (by rw[Sv.jc];rfl) (by decide) (by rw[Sv.jc];rfl) hk
theorem RK{α:Type}{enc:α→Array Value}{x y:Operand}{tx fZ e:TypeId}{i b o dl dc:Nat}{sv:Sv}{ys:List α}{cs:Array Value}{T:TypeId}(hx:ev env x=some (.slice (some ⟨b,o,none⟩) dl dc))(hy:ev env y=some sv.val)
  [ht:fe P tx e 1] [hh:Has L b cs T i] [q:Hd w0 L sv enc 1 ys] [he:bp enc 1] (h0:0<ys.length) (hl:ys.length≤dl) (ho:o+ys.length≤cs.size)
  {cs':Array Value} {L':List ak} (gO:cT cs o (aJ enc ys).toArray=cs') [hu:fE L i (ar b cs' T) L'] (hk:K ((.int .i64 (ys.length:Nat))) (L')):
  ic P N w0 env L ⟨d, .call {callee:= .builtin .copy,args:= #[x,y],argTypes:= #[tx,fZ]},ty,ps,af,none⟩ K:=fun a w ha hw=>by
 have r:=q.h w hw
 have hn:=r.some (i:=0) h0
 have hlen:=r.len
 rw[Sv.hY hn,r.ok.sp (by have:=r.ok.le;omega)]at hy
 have hs:(aJ enc ys).toArray.size=ys.length:=by rw[List.size_toArray,gX,Nat.mul_one]
 have jN:=hk
 rw[←hs]at jN
 refine RH (vs:=(aJ enc ys).toArray) hx hy ?_ (fun w hw j hj=> ?_) ?_ (by rw[hs];exact ho) gO jN a w ha hw
 ·
  rw[hs];simp only[Nat.min_def];split<;>omega
 ·
  rw[hs]at hj
  have:=mF (enc:=enc) ys j ys[j] (by simp[hj]) 0 (by decide)
  have r2:=(q.h w hw).row j ys[j] (by simp[hj]) 0 (by decide)
  simp only[Nat.mul_one,Nat.add_zero]at this r2
  rw[Addr.gB,qP,r2,←this];simp
 ·
  rw[Array.all_eq_true_iff_forall_mem];intro v hv;exact ta (enc:=enc) ys v (by simpa using hv)
end
section
variable {τ:Type} [dp:Deep τ] {enc:τ→Array Value} {c:Nat}
end
theorem JQ{l:List Oper}{rest:List Oper}{o:Oper}(hg:o.guard=none)(hd:dn N o.dst=true)(h:ic P N w0 env L o (fun v L'=>Sq P N w0 l Q rest (cy env o.dst v) L')):Sq P N w0 l Q (o::rest) env L:=fun a w ha hw=>by
 unfold wpList
 rw[if_pos (pU hg)]
 refine .inl ?_
 have h1:=h a w ha hw
 unfold Oper.wp
 generalize(execOp a.eval o).run P w=r at h1
 unfold upon at h1
 split at h1
 ·
  obtain⟨L',h2,h3⟩:=h1;exact h3 _ _ (ha.put hd _) h2
 ·
  obtain⟨L',h2,h3⟩:=h1;exact h3 _ _ (ha.put hd _) h2
 ·
  obtain⟨rfl,hc⟩:=h1
  exact hc.mono fun e nW ⟨v,he,L',h2,h3⟩=>by subst he;exact h3 _ _ (ha.put hd _) h2
 ·
  exact h1.elim
end
section
variable {P:Program} {N:cE} {w0:World} {env:Env} {L Lq:List ak} {l:List Oper} {fs ord:List Nat} {mk:Nat→mI} {Q:Exit→Act→World→Prop} {k:Nat} {o:Oper}
def Ln(P:Program)(N:cE)(w0:World)(l:List Oper)(fs:List Nat)(mk:Nat→mI)(Q:Exit→Act→World→Prop)(ord:List Nat)(env:Env)(L Lq:List ak):Prop:= ∀a,db N env a→p8 P l fs mk Q w0 ord a L Lq
def Cert(P:Program)(N:cE)(env:Env)(l:List Oper)(fs:List Nat)(mk:Nat→mI)(ord:List Nat):Prop:=
 ∀i∈ord,fs.contains (i+2000)=true→ ∃oi,l[i]? =some oi∧oi.guard=none∧ ∀a,db N env a→rT P oi a.eval (mk i)
theorem Cert.none(h:(ord.all fun i=> !fs.contains (i+2000))=true):Cert P N env l fs mk ord:=fun i hi hf=>by
 have:=List.all_eq_true.1 h i hi
 rw[hf]at this;cases this
theorem Cert.one{i:Nat}{m:mI}(ho:l[i]? =some o)(hg:o.guard=Option.none)(hm:mk i=m)(h: ∀a,db N env a→rT P o a.eval m)(hr:Cert P N env l fs mk (ord.filter fun j=> !(j==i))):Cert P N env l fs mk ord:=fun j hj hf=>by
 by_cases e:j=i
 ·
  subst e
  exact⟨o,ho,hg,by rw[hm];exact h⟩
 ·
  exact hr j (List.mem_filter.2 ⟨hj,by simpa using e⟩) hf
theorem Cert.at(h:Cert P N env l fs mk ord){a:Act}(ha:db N env a): ∀i∈ord,fs.contains (i+2000)=true→ ∃oi,l[i]? =some oi∧oi.guard=Option.none∧rT P oi a.eval (mk i):=fun i hi hf=>by
 obtain⟨oi,h1,h2,h3⟩:=h i hi hf
 exact⟨oi,h1,h2,h3 a ha⟩
theorem Bq(h:Ex N w0 Q .normal env L):Ln P N w0 l fs mk Q [] env L Lq:=fun a ha w hw=>h a w ha hw
theorem JR{v:Value}(ho:l[k]? =some o)(hf:fs.contains k=false)(hd:dn N o.dst=true)(h1: ∀a,db N env a→Region.wanted o (yielded l.toArray a.tmps)=true→rK P o a (Mem w0 Lq) v)(h2: ∀a,db N env a→Region.wanted o (yielded l.toArray a.tmps)=false→v=undef)
  (hk:Ln P N w0 l fs mk Q ord (cy env o.dst v) L Lq) (j7:fs.contains (k+1000)=false:=by rfl):Ln P N w0 l fs mk Q (k::ord) env L Lq:=fun a ha=>
 ⟨o,ho,by
  rw[if_neg (by rw[hf];exact Bool.false_ne_true)]
  exact⟨v,by rw[if_neg (by rw[j7];exact Bool.false_ne_true)];exact h1 a ha,h2 a ha,hk _ (ha.put hd v)⟩⟩
theorem RL{v:Value}(ho:l[k]? =some o)(h:Yl P N w0 env L o v)(hk:Ln P N w0 l fs mk Q ord (cy env o.dst v) L Lq)(hg:o.guard=none:=by rfl)(hd:dn N o.dst=true:=by rfl)(hf:fs.contains k=false:=by rfl)(j7:fs.contains (k+1000)=true:=by rfl):Ln P N w0 l fs mk Q (k::ord) env L Lq:=fun a ha=>
 ⟨o,ho,by
  rw[if_neg (by rw[hf];exact Bool.false_ne_true)]
  exact⟨v,fun _=>by rw[if_pos j7];exact h a ha,(fun hw=>by rw[pU hg]at hw;cases hw),hk _ (ha.put hd v)⟩⟩
theorem j8{v:Value}(ho:l[k]? =some o)(h:Ry P N w0 env L o v)(hk:Ln P N w0 l fs mk Q ord (cy env o.dst v) L Lq)(hg:o.guard=none:=by rfl)(hd:dn N o.dst=true:=by rfl)(hf:fs.contains k=false:=by rfl)(j7:fs.contains (k+1000)=true:=by rfl):Ln P N w0 l fs mk Q (k::ord) env L Lq:=RL ho h.yl hk hg hd hf j7
theorem u4{v:Value}(ho:l[k]? =some o)(h:Yl P N w0 env Lq o v)(hk:Ln P N w0 l fs mk Q ord (cy env o.dst v) L Lq)(hg:o.guard=none:=by rfl)(hd:dn N o.dst=true:=by rfl)(hf:fs.contains k=false:=by rfl)(j7:fs.contains (k+1000)=false:=by rfl):Ln P N w0 l fs mk Q (k::ord) env L Lq:=
 JR (j7:=j7) ho hf hd (fun a ha _=>h a ha) (fun a ha hw=>by rw[pU hg]at hw;cases hw) hk
theorem al{v:Value}(ho:l[k]? =some o)(h:Ry P N w0 env Lq o v)(hk:Ln P N w0 l fs mk Q ord (cy env o.dst v) L Lq)(hg:o.guard=none:=by rfl)(hd:dn N o.dst=true:=by rfl)(hf:fs.contains k=false:=by rfl)(j7:fs.contains (k+1000)=false:=by rfl):Ln P N w0 l fs mk Q (k::ord) env L Lq:=u4 ho h.yl hk hg hd hf j7
theorem JS{v:Value}{j t:Nat}{g:Bool}(ho:l[k]? =some o)(hg:o.guard=some (j,false))(hj:(l[j]?).bind (·.dst)=some t)(hv:look env t=some (.bool g))(h:(!g)=true→Yl P N w0 env Lq o v)
  (hk:Ln P N w0 l fs mk Q ord (cy env o.dst (if(!g)=true then v else undef)) L Lq) (hd:dn N o.dst=true:=by rfl) (hf:fs.contains k=false:=by rfl) (j7:fs.contains (k+1000)=false:=by rfl):Ln P N w0 l fs mk Q (k::ord) env L Lq:=
 JR (j7:=j7) ho hf hd (fun a ha hw=>by
  rw[uG ha hg hj hv]at hw
  cases g
  ·
   exact h rfl a ha
  ·
   cases hw) (fun a ha hw=>by
  rw[uG ha hg hj hv]at hw
  cases g
  ·
   cases hw
  ·
   rfl) hk
theorem RM(ho:l[k]? =some o)(h:ic P N w0 env L o fun v L'=> ∃gg,(∀w,Mem w0 L' w→Mem w0 gg w)∧(∀w,Mem w0 gg w→Mem w0 Lq w)∧Ln P N w0 l fs mk Q ord (cy env o.dst v) L' gg)(hg:o.guard=none:=by rfl)(hd:dn N o.dst=true:=by rfl)(hf:fs.contains k=true:=by rfl)(qX:fs.contains (k+2000)=false:=by rfl)(wL:fs.contains (k+4000)=false:=by rfl)(rW:fs.contains (k+5000)=false:=by rfl)(hC:Cert P N env l fs mk ord:=by exact Cert.none rfl):Ln P N w0 l fs mk Q (k::ord) env L Lq:=fun a ha=>
 ⟨o,ho,by
  rw[if_pos hf,if_neg (by rw[qX];exact Bool.false_ne_true)]
  exact⟨hC.at ha,pU hg,fun w hw=>y5 (fun v w' ⟨L',h1,gg,h2,h3,h4⟩=>⟨L',gg,h1,h2,h3,(fun h=>by rw[rW]at h;cases h),h4 _ (ha.put hd v)⟩) (h a w ha hw),fun h=>by rw[wL]at h;cases h⟩⟩
theorem JT(ho:l[k]? =some o)(h:ic P N w0 env L o fun v L'=>(∀w,Mem w0 L' w→Mem w0 Lq w)∧(∀w,Mem w0 L' w→Mem w0 L w)∧Ln P N w0 l fs mk Q ord (cy env o.dst v) L' Lq)(hg:o.guard=none:=by rfl)(hd:dn N o.dst=true:=by rfl)(hf:fs.contains k=true:=by rfl)(qX:fs.contains (k+2000)=false:=by rfl)(wL:fs.contains (k+4000)=false:=by rfl)(hC:Cert P N env l fs mk ord:=by exact Cert.none rfl):Ln P N w0 l fs mk Q (k::ord) env L Lq:=fun a ha=>
 ⟨o,ho,by
  rw[if_pos hf,if_neg (by rw[qX];exact Bool.false_ne_true)]
  exact⟨hC.at ha,pU hg,fun w hw=>y5 (fun v w' ⟨L',h1,h2,h3,h4⟩=>⟨L',Lq,h1,h2,fun _ h=>h,(fun _=>h3),h4 _ (ha.put hd v)⟩) (h a w ha hw),fun h=>by rw[wL]at h;cases h⟩⟩
theorem RN(K:Value→List ak→Prop)(ho:l[k]? =some o)(h:ic P N w0 env L o K)(hF: ∀e,ic P N w0 env (e::L) o fun v L'=> ∃L1,(∀w,Mem w0 L' w→Mem w0 (e::L1) w)∧K v L1)(hk: ∀v L',K v L'→(∀w,Mem w0 L' w→Mem w0 Lq w)∧Ln P N w0 l fs mk Q ord (cy env o.dst v) L' Lq)(hC:Cert P N env l fs mk ord)(hg:o.guard=none:=by rfl)(hd:dn N o.dst=true:=by rfl)(hf:fs.contains k=true:=by rfl)(qX:fs.contains (k+2000)=false:=by rfl)(rW:fs.contains (k+5000)=false:=by rfl):Ln P N w0 l fs mk Q (k::ord) env L Lq:=fun a ha=>
 ⟨o,ho,by
  rw[if_pos hf,if_neg (by rw[qX];exact Bool.false_ne_true)]
  exact⟨hC.at ha,pU hg,fun w hw=>y5 (fun v w' ⟨L',h1,h2⟩=>⟨L',Lq,h1,(hk v L' h2).1,fun _ h=>h,(fun h=>by rw[rW]at h;cases h),(hk v L' h2).2 _ (ha.put hd v)⟩) (h a w ha hw),fun _ e w hw=>y5 (fun v w' ⟨L',h1,L1,h2,h3⟩=>⟨L1,Lq,h2 _ h1,(hk v L1 h3).1,fun _ h=>h,(fun h=>by rw[rW]at h;cases h),(hk v L1 h3).2 _ (ha.put hd v)⟩) (hF e a w ha hw)⟩⟩
theorem qY{X:Type}{val:X→Value}{L':X→List ak}{L2:ak→X→List ak}{pr:X→Prop}{pre:Prop}{f:FuncId}{xs:List Operand}{ts:Array TypeId}{vs:List Value}{d:Option Tmp}{ty:TypeId}{ps:String}{af:Array Edge}[hf:aR P f](ho:l[k]? =some ⟨d, .call {callee:= .value (.func f),args:=xs.toArray,argTypes:=ts},ty,ps,af,none⟩)(hx:hU env xs=some vs)
  [hc:cw P f w0 L vs X val L' pr pre] [EP: ∀e,cw P f w0 (e::L) vs X val (L2 e) pr pre] (hp:pre) (hP: ∀e x w,Mem w0 (L2 e x) w→Mem w0 (e::L' x) w) (hC:Cert P N env l fs mk ord) (hk: ∀x,pr x→(∀w,Mem w0 (L' x) w→Mem w0 Lq w)∧Ln P N w0 l fs mk Q ord (cy env d (val x)) (L' x) Lq)
  (hd:dn N d=true:=by rfl) (tn:fs.contains k=true:=by rfl) (qX:fs.contains (k+2000)=false:=by rfl) (rW:fs.contains (k+5000)=false:=by rfl):Ln P N w0 l fs mk Q (k::ord) env L Lq:=
 RN (fun v L1=> ∃x,v=val x∧L1=L' x∧pr x) ho (nA hx hp fun x j6=>⟨x,rfl,rfl,j6⟩) (fun e=>JM (nA (K:=fun v L1=> ∃x,v=val x∧L1=L2 e x∧pr x) hx hp fun x j6=>⟨x,rfl,rfl,j6⟩) fun v L1 ⟨x,h1,h2,h3⟩=>⟨L1,fun _ h=>h,L' x,fun w hw=>hP e x w (by rw[←h2];exact hw),x,h1,rfl,h3⟩)
  (fun v L1 ⟨x,h1,h2,h3⟩=>by subst h1;subst h2;exact hk x h3) hC rfl hd tn qX rW
theorem nB{m:mI}(ho:l[k]? =some o)(hm:mk k=m)(h: ∀a,db N env a→rT P o a.eval m)(hC:Cert P N env l fs mk ord)(hk: ∀x:m.X,Ln P N w0 l fs mk Q ord (cy env o.dst (m.v x)) (m.e x::L) Lq)(hg:o.guard=none:=by rfl)(hd:dn N o.dst=true:=by rfl)(hf:fs.contains k=true:=by rfl)(j7:fs.contains (k+2000)=true:=by rfl):Ln P N w0 l fs mk Q (k::ord) env L Lq:=fun a ha=>by
 subst hm
 refine⟨o,ho,?_⟩
 rw[if_pos hf,if_pos j7]
 exact⟨hC.at ha,hg,h a ha,fun x=>hk x _ (ha.put hd _)⟩
theorem dC(ho:l[k]? =some o)(h:ic P N w0 env L o fun v L'=>(∀w,Mem w0 L' w→Mem w0 Lq w)∧Ln P N w0 l fs mk Q ord (cy env o.dst v) L' Lq)(hg:o.guard=none:=by rfl)(hd:dn N o.dst=true:=by rfl)(hf:fs.contains k=true:=by rfl)(qX:fs.contains (k+2000)=false:=by rfl)(wL:fs.contains (k+4000)=false:=by rfl)(rW:fs.contains (k+5000)=false:=by rfl)(hC:Cert P N env l fs mk ord:=by exact Cert.none rfl):Ln P N w0 l fs mk Q (k::ord) env L Lq:=
 RM (qX:=qX) (wL:=wL) (rW:=rW) (hC:=hC) ho (JM h fun v L' ⟨h1,h2⟩=>⟨L',fun _ h=>h,Lq,h1,fun _ h=>h,h2⟩) hg hd hf
def ER:List (Nat×mI)→Nat→mI
 |[],_=>⟨Unit,fun _=>undef,fun _=> .emp⟩
 |(i,m)::r,k=>match Nat.beq i k with
  |true=>m
  |false=>ER r k
@[reducible] def j9 (P:Program)(t:TypeId){z:Value}[_hz:fo P t z]:mI:=⟨Nat,fun b=> .pointer (some ⟨b,0,none⟩),fun b=>ar b z.cells t⟩
theorem jy{t:TypeId}{z:Value}[hz:fo P t z]{d:Option Tmp}{ty:TypeId}{ps:String}{af:Array Edge}{gd:Option (Nat×Bool)}: ∀a,db N env a→rT P ⟨d, .alloc t,ty,ps,af,gd⟩ a.eval (j9 P t):=fun a _ w0 w L hw=>by
 refine⟨w.heap.size,w.alloc (.cells z.cells t),?_,hw.alloc z.cells t⟩
 simp only[execOp,Instr.alloc,newVar,newRow,Sem.run_bind,AN w hz,newObj,Sem.run,Result.andThen,Sem.run_pure];rfl
@[reducible] def qZ {α:Type}(enc:α→Array Value)(c n:Nat)(xs:List α):mI:=⟨Nat,fun b=>Sv.val ⟨false,b,0,n,n,none⟩,fun b=>own enc c ⟨false,b,0,n,n,none⟩ xs⟩
theorem ES{α:Type}{enc:α→Array Value}{c:Nat}{t e:TypeId}{cI n:Nat}{d:Option Tmp}{ty:TypeId}{ps:String}{af:Array Edge}{gd:Option (Nat×Bool)}[ht:ft P t e c cI][he:bp enc c]{ops:List (Nat×Operand)}{vals:List Value}(xs:List α)(hx:kL env ops=some (idx vals 0))(hv:vals.map Value.cells=xs.map enc)(hn:xs.length=n)(hc:0<n*c)(rR:n*c≤16777216):
  ∀a,db N env a→rT P ⟨d, .buildSlice t n ops.toArray,ty,ps,af,gd⟩ a.eval (qZ enc c n xs):=fun a ha w0 w L hw=>by
 subst hn
 have e1:(ops.toArray.map fun(p:Nat×Operand)=>match p with|(i,x)=>(i,a.eval x))=(idx vals 0).toArray:=by
  rw[←ha.kL hx];simp
 refine⟨w.heap.size,_,?_,hw.call (wy (enc:=enc) (c:=c) (xs:=xs) (cs:=(aJ enc xs).toArray) (e:=e) rfl xs.length xs.length rfl (Nat.le_refl _) (Ej hc rR) (by simp[gX]) fun i x hx j hj=>by rw[←mF (enc:=enc) xs i x hx j hj];simp)⟩
 simp only[execOp,e1,Sem.run_bind,Ek ht hv hc rR w,Result.andThen,Sem.run_pure];rfl
theorem pf{id:Nat}[jZ Q](fs:List Nat)(A:List (List Nat))(ord:List Nat)(Lq:List ak)(mk:List (Nat×mI))(RO:(fs.all fun j=>decide (j<2000)||decide (4000≤j)||fs.contains (j -2000))=true)(lB: ∀w,Mem w0 L w→Mem w0 Lq w)(hm:P.follows .mixedOrders=true)(hB:Bd l fs A ord=true)(h:Ln P N w0 l fs (ER mk) Q ord env L Lq)(bx:l.length≤1000:=by decide)(cB:nV l=true:=by kernel_rfl):Cw P N w0 Q (.region id l.toArray true) env L:=fun a _ ha hw=>by
 refine JL A ord cB hm hB hw.Ay lB (fun k yT hk=> ?_) (h a ha)
 cases h2:fs.contains (k+2000)with
 |false=>rfl
 |true=>
  have:=List.all_eq_true.1 RO (k+2000) (by simpa using h2)
  rw[Bool.or_eq_true,Bool.or_eq_true,decide_eq_true_eq,decide_eq_true_eq]at this
  rcases this with(h|h)|h
  ·
   omega
  ·
   omega
  ·
   rw[Nat.add_sub_cancel,hk]at h;cases h
theorem jd{id:Nat}[jZ Q](fs:List Nat)(A:List (List Nat))(ord:List Nat)(Lq:List ak)(lB: ∀w,Mem w0 L w→Mem w0 Lq w)(hm:P.follows .mixedOrders=true)(hB:Bc l fs A ord=true)(h:Ln P N w0 l fs (ER []) Q ord env L Lq)(cB:nV l=true:=by kernel_rfl):Cw P N w0 Q (.region id l.toArray true) env L:=fun a _ ha hw=>
 RE A ord cB hm hB hw.Ay lB (h a ha)
end
open Go.RowKit
theorem Ry.n{P:Program}{N:cE}{w0:World}{env:Env}{L:List ak}{d:Option Tmp}{ty:TypeId}{ps:String}{af:Array Edge}{gd:Option (Nat×Bool)}{s:TypeId}{x:Operand}{fi off b o o':Nat}[hf:dJ P s fi off](hx:ev env x=some (.pointer (some ⟨b,o,none⟩)))(ho:Nat.add o off=o':=by(simp only[Nat.add_eq,Nat.reduceAdd];exact rfl)):
  Ry P N w0 env L ⟨d, .fieldAddr s x fi,ty,ps,af,gd⟩ (.pointer (some ⟨b,o',none⟩)):=aI hx ho
theorem tS{P:Program}{N:cE}{w0:World}{l:List Oper}{Q:Exit→Act→World→Prop}{rest:List Oper}{env:Env}{L:List ak}{d:Option Tmp}{ty:TypeId}{ps:String}{af:Array Edge}(op:Op)(gd:Option (Nat×Bool))(h:Sq P N w0 l Q (⟨d,op,ty,ps,af,gd⟩::rest) env L):Sq P N w0 l Q (⟨d,op,ty,ps,af,gd⟩::rest) env L:=h
theorem tQ{P:Program}{N:cE}{w0:World}{l:List Oper}{fs:List Nat}{F:Act→Prop}{k:Nat}{rest:List Oper}{env:Env}{L:List ak}{d:Option Tmp}{ty:TypeId}{ps:String}{af:Array Edge}(op:Op)(gd:Option (Nat×Bool))(h:Qt P N w0 l fs F k (⟨d,op,ty,ps,af,gd⟩::rest) env L):Qt P N w0 l fs F k (⟨d,op,ty,ps,af,gd⟩::rest) env L:=h
theorem Gs{G G':Prop}(k:G')(h:G'→G:=by
 intro k
 first
 |(with_reducible refine tS (.move _) none ?_);exact ah (aE rfl) k
 |(with_reducible refine tS (.assign _) none ?_);exact ah (bn rfl) k
 |(with_reducible refine tS (.fieldAddr _ _ _) none ?_);exact ah (Ry.n rfl) k
 |(with_reducible refine tS (.load _ _) none ?_);exact ah (bJ rfl) k
 |(with_reducible refine tS (.load _ _) none ?_);exact ah (gu rfl) k
 |(with_reducible refine tS (.binOp .add _ _ _ _) none ?_);exact ah (pS rfl rfl (by omega)) k
 |(with_reducible refine tS (.binOp .sub _ _ _ _) none ?_);exact ah (yx rfl rfl (by omega)) k
 |(with_reducible refine tS (.pick _ _ _) none ?_);exact ah (lU rfl rfl rfl) k
 |(with_reducible refine tS (.pick _ _ _) none ?_);exact ah (uz rfl rfl rfl) k
 |(with_reducible refine tS (.unOp _ _ _) none ?_);exact ah (iD rfl) k
 |(with_reducible refine tS (.binOp _ _ _ _ _) none ?_);exact ah (cz rfl rfl rfl) k
 |(with_reducible refine tS (.nilCheck _) none ?_);exact ah (jO rfl) k
 |(with_reducible refine tS (.call _) none ?_);exact ah (lb rfl) k
 |(with_reducible refine tS (.store _ _ _) none ?_);exact qN rfl rfl k
 |(with_reducible refine tS (.call _) none ?_);exact fF (cJ rfl trivial) k):G:=h k
theorem Gq{G G':Prop}(k:G')(h:G'→G:=by
 intro k
 first
 |(with_reducible refine tQ (.move _) none ?_);exact bA (aE rfl) k
 |(with_reducible refine tQ (.assign _) none ?_);exact bA (bn rfl) k
 |(with_reducible refine tQ (.fieldAddr _ _ _) none ?_);exact bA (Ry.n rfl) k
 |(with_reducible refine tQ (.load _ _) none ?_);exact bA (bJ rfl) k
 |(with_reducible refine tQ (.load _ _) none ?_);exact bA (gu rfl) k
 |(with_reducible refine tQ (.binOp .add _ _ _ _) none ?_);exact bA (pS rfl rfl (by omega)) k
 |(with_reducible refine tQ (.binOp .sub _ _ _ _) none ?_);exact bA (yx rfl rfl (by omega)) k
 |(with_reducible refine tQ (.pick _ _ _) none ?_);exact bA (lU rfl rfl rfl) k
 |(with_reducible refine tQ (.pick _ _ _) none ?_);exact bA (uz rfl rfl rfl) k
 |(with_reducible refine tQ (.unOp _ _ _) none ?_);exact bA (iD rfl) k
 |(with_reducible refine tQ (.binOp _ _ _ _ _) none ?_);exact bA (cz rfl rfl rfl) k
 |(with_reducible refine tQ (.nilCheck _) none ?_);exact bA (jO rfl) k
 |(with_reducible refine tQ (.call _) none ?_);exact bA (lb rfl) k):G:=h k
theorem Gg{G G':Prop}(k:G')(h:G'→G:=by
 intro k
 first
 |(with_reducible refine tS (.move _) (some (_,false)) ?_);exact bS rfl rfl rfl (fun hg=>Ry.yl (aE rfl)) k
 |(with_reducible refine tS (.fieldAddr _ _ _) (some (_,false)) ?_);exact bS rfl rfl rfl (fun hg=>Ry.yl (Ry.n rfl)) k
 |(with_reducible refine tS (.load _ _) (some (_,false)) ?_);exact bS rfl rfl rfl (fun hg=>Ry.yl (bJ (aG hg rfl))) k
 |(with_reducible refine tS (.binOp _ _ _ _ _) (some (_,false)) ?_);exact bS rfl rfl rfl (fun hg=>Ry.yl (cz (aG hg rfl) rfl rfl)) k
 |(with_reducible refine tS (.binOp _ _ _ _ _) (some (_,false)) ?_);exact bS rfl rfl rfl (fun hg=>Ry.yl (cz (aG hg rfl) (aG hg rfl) rfl)) k
 |(with_reducible refine tS (.call _) (some (_,false)) ?_);exact bS rfl rfl rfl (fun hg=>Ry.yl (lb (aG hg rfl))) k
 |(with_reducible refine tS (.move _) (some (_,true)) ?_);exact gv rfl rfl rfl (fun hg=>Ry.yl (aE rfl)) k
 |(with_reducible refine tS (.fieldAddr _ _ _) (some (_,true)) ?_);exact gv rfl rfl rfl (fun hg=>Ry.yl (Ry.n rfl)) k
 |(with_reducible refine tS (.load _ _) (some (_,true)) ?_);exact gv rfl rfl rfl (fun hg=>Ry.yl (bJ (aG hg rfl))) k
 |(with_reducible refine tS (.binOp _ _ _ _ _) (some (_,true)) ?_);exact gv rfl rfl rfl (fun hg=>Ry.yl (cz (aG hg rfl) rfl rfl)) k
 |(with_reducible refine tS (.binOp _ _ _ _ _) (some (_,true)) ?_);exact gv rfl rfl rfl (fun hg=>Ry.yl (cz (aG hg rfl) (aG hg rfl) rfl)) k
 |(with_reducible refine tS (.call _) (some (_,true)) ?_);exact gv rfl rfl rfl (fun hg=>Ry.yl (lb (aG hg rfl))) k):G:=h k
theorem Gh{G G':Prop}(k:G')(h:G'→G:=by
 intro k
 first
 |(with_reducible refine tQ (.move _) (some (_,false)) ?_);exact iM rfl rfl rfl (fun hg=>Ry.yl (aE rfl)) k
 |(with_reducible refine tQ (.fieldAddr _ _ _) (some (_,false)) ?_);exact iM rfl rfl rfl (fun hg=>Ry.yl (Ry.n rfl)) k
 |(with_reducible refine tQ (.load _ _) (some (_,false)) ?_);exact iM rfl rfl rfl (fun hg=>Ry.yl (bJ (aG hg rfl))) k
 |(with_reducible refine tQ (.binOp _ _ _ _ _) (some (_,false)) ?_);exact iM rfl rfl rfl (fun hg=>Ry.yl (cz (aG hg rfl) rfl rfl)) k
 |(with_reducible refine tQ (.binOp _ _ _ _ _) (some (_,false)) ?_);exact iM rfl rfl rfl (fun hg=>Ry.yl (cz (aG hg rfl) (aG hg rfl) rfl)) k
 |(with_reducible refine tQ (.call _) (some (_,false)) ?_);exact iM rfl rfl rfl (fun hg=>Ry.yl (lb (aG hg rfl))) k
 |(with_reducible refine tQ (.move _) (some (_,true)) ?_);exact fK rfl rfl rfl (fun hg=>Ry.yl (aE rfl)) k
 |(with_reducible refine tQ (.fieldAddr _ _ _) (some (_,true)) ?_);exact fK rfl rfl rfl (fun hg=>Ry.yl (Ry.n rfl)) k
 |(with_reducible refine tQ (.load _ _) (some (_,true)) ?_);exact fK rfl rfl rfl (fun hg=>Ry.yl (bJ (aG hg rfl))) k
 |(with_reducible refine tQ (.binOp _ _ _ _ _) (some (_,true)) ?_);exact fK rfl rfl rfl (fun hg=>Ry.yl (cz (aG hg rfl) rfl rfl)) k
 |(with_reducible refine tQ (.binOp _ _ _ _ _) (some (_,true)) ?_);exact fK rfl rfl rfl (fun hg=>Ry.yl (cz (aG hg rfl) (aG hg rfl) rfl)) k
 |(with_reducible refine tQ (.call _) (some (_,true)) ?_);exact fK rfl rfl rfl (fun hg=>Ry.yl (lb (aG hg rfl))) k):G:=h k
theorem tR{P:Program}{N:cE}{w0:World}{Q:Exit→Act→World→Prop}{env:Env}{L:List ak}{id:Nat}{l:Array Oper}(h:Cw P N w0 Q (.region id l false) env L):Cw P N w0 Q (.region id l false) env L:=h
theorem Gc{G G':Prop}(k:G')(h:G'→G:=by
 intro k
 repeat (first
  |(with_reducible refine aO ?_)
  |(with_reducible refine aN ?_)
  |(with_reducible refine aY ?_)
  |(with_reducible refine gf ?_)
  |(with_reducible refine eF ?_)
  |(with_reducible refine fq ?_)
  |(with_reducible refine lX ?_)
  |(with_reducible refine lE ?_)
  |(with_reducible refine mB ?_)
  |(with_reducible refine rQ ?_)
  |(with_reducible refine oZ ?_)
  |(with_reducible refine rP ?_)
  |(with_reducible refine Bq ?_)
  |(with_reducible refine wi ?_)
  |(with_reducible refine tR ?_);refine ba ?_)
 exact k):G:=h k
theorem Gi{G G':Prop}(k:G')(h:G'→G:=by
 intro k
 first
  |(with_reducible refine aO ?_)
  |(with_reducible refine aN ?_)
  |(with_reducible refine aY ?_)
  |(with_reducible refine gf ?_)
  |(with_reducible refine eF ?_)
  |(with_reducible refine fq ?_)
  |(with_reducible refine lX ?_)
  |(with_reducible refine lE ?_)
  |(with_reducible refine mB ?_)
  |(with_reducible refine rQ ?_)
  |(with_reducible refine oZ ?_)
  |(with_reducible refine rP ?_)
  |(with_reducible refine Bq ?_)
  |(with_reducible refine wi ?_)
  |(with_reducible refine tR ?_);refine ba ?_
 exact k):G:=h k
theorem bz{p q:Prop}(h:p)(e:p=q:=by(try simp only[Z0,Z1,Z2,Z3,Z4,Z5,Z6,Z7,Z8,Z9]);exact rfl):q:=e▸h
open Go.RowKit
theorem wM{A X V:List Value}{o:Nat}(h:o=A.length):cT (A++X).toArray o V.toArray=(A++(V++X.drop V.length)).toArray:=by
 subst h
 unfold cT
 simp only[List.size_toArray,List.append_assoc]
 rw[List.take_left,List.drop_append]
 simp
section
variable {α:Type} {enc:α→Array Value} {c:Nat} {s:Sv} {xs:List α}
theorem u5(xs ys:List α):aJ enc (xs++ys)=aJ enc xs++aJ enc ys:=by simp[aJ]
theorem RP[he:bp enc c](hc:0<c){cs:Array Value}{o:Nat}(fc:o+xs.length*c≤cs.size)(hr: ∀i x,xs[i]? =some x→ ∀j,j<c→cs[o+i*c+j]? =(enc x)[j]?):
  cs=(cs.toList.take o++(aJ enc xs++cs.toList.drop (o+xs.length*c))).toArray:=by
 have key:(cs.toList.drop o).take (xs.length*c)=aJ enc xs:=by
  refine List.ext_getElem? fun k=> ?_
  rcases Nat.lt_or_ge k (xs.length*c)with hk|hk
  ·
   rw[List.getElem?_take_of_lt hk,List.getElem?_drop,Array.getElem?_toList]
   have hd:k/c<xs.length:=Nat.div_lt_of_lt_mul (by rwa [Nat.mul_comm])
   have hm:=Nat.mod_lt k hc
   have e:k/c*c+k%c=k:=by rw[Nat.mul_comm];exact Nat.div_add_mod k c
   have h1:=hr (k/c) xs[k/c] (by simp[hd]) (k%c) hm
   have h2:=mF (enc:=enc) xs (k/c) xs[k/c] (by simp[hd]) (k%c) hm
   rw[e]at h2
   rw[h2,←h1];congr 1;omega
  ·
   rw[List.getElem?_eq_none (by simp;omega),List.getElem?_eq_none (by rw[gX];omega)]
 apply Array.ext'
 simp only
 rw[←key,←List.append_assoc,show o+xs.length*c=o+xs.length*c from rfl,←List.drop_drop,List.append_assoc,List.take_append_drop,List.take_append_drop]
theorem ET{a b:Nat}(h:a≤b):a=Nat.min a b:=(Nat.min_eq_left h).symm
theorem RQ{a b:Nat}(h:b≤a):b=Nat.min a b:=(Nat.min_eq_right h).symm
theorem RR[he:bp enc c](hc:1<c){w0 w:World}{L:List ak}{i:Nat}(hw:Mem w0 L w)(hi:L[i]? =some (own enc c s xs))(hn:s.nil=false):
  ∃pre mid T,pre.length=s.o∧s.o+s.cap*c≤pre.length+(xs.length*c+mid.length)∧s.sp=none∧s.Ok∧s.len=xs.length∧Mem w0 (L.set i (ar s.b (pre++(aJ enc xs++mid)).toArray T)) w:=by
 obtain⟨r,mG⟩:=hw.get hi
 obtain⟨gC,cs,T,fz,ei,fc,lG,la⟩:=mG hn
 obtain rfl:=la hc
 have hle:=r.ok.le
 have hlen:=r.len
 have hm:xs.length*c≤s.cap*c:=Nat.mul_le_mul_right _ (by omega)
 have e:=RP (enc:=enc) (c:=c) (xs:=xs) (cs:=cs) (o:=s.o) (by omega) (by omega) fun i x hx j hj=>by
  rw[←r.row i x hx j hj];unfold mC;rw[ei]
 refine⟨cs.toList.take s.o,cs.toList.drop (s.o+xs.length*c),T,by simp;omega,by simp;omega,gC,r.ok,hlen,?_⟩
 rw[←e]
 exact hw.change hi (fun k (hk:k=s.b)=>⟨hn,hk⟩) (fun _ _=>rfl) rfl ⟨rfl,rfl,rfl⟩ ei
theorem EU[he:bp enc c]{w0 w:World}{L:List ak}{i b:Nat}{pre mid:List Value}{T:TypeId}(hw:Mem w0 L w)(hi:L[i]? =some (ar b (pre++(aJ enc xs++mid)).toArray T))(s':Sv)(bR:s'.Ok)(hn:s'.nil=false)(hb:s'.b=b)(gC:s'.sp=none)(ho:s'.o=pre.length)(hl:s'.len=xs.length)
  (uL:s'.o+s'.cap*c≤pre.length+(xs.length*c+mid.length)):Mem w0 (L.set i (own enc c s' xs)) w:=by
 subst hb
 have ei:hp w s'.b=some (.cells (pre++(aJ enc xs++mid)).toArray T (0,0)):=hw.block hi
 refine hw.change hi (fun k hk=>hk.2) (fun _ _=>rfl) rfl ⟨rfl,rfl,rfl⟩ ⟨td bR hl ei fun k y hy j hj=> ?_,fun _=>⟨gC,_,_,_,ei,by simp[gX];omega,Ef _,fun _=>rfl⟩⟩
 have bx:k*c+j<(aJ enc xs).length:=by
  rw[gX]
  have h1:=(List.getElem?_eq_some_iff.1 hy).1
  calc k*c+j<k*c+c:=by omega
   _=(k+1)*c:=by rw[Nat.add_mul];omega
   _≤_:=Nat.mul_le_mul_right _ h1
 rw[List.getElem?_toArray,List.getElem?_append_right (by omega),List.getElem?_append_left (by omega),←mF (enc:=enc) xs k y hy j hj]
 congr 1;omega
theorem Sv.tp{lo hi:Nat}(h:lo<s.cap):(s.sub c lo hi).o=s.o+lo*c:=by simp only[Sv.sub];rw[if_neg (by omega)]
theorem Sv.y6{hi:Nat}:(s.sub c 0 hi).o=s.o:=by simp only[Sv.sub];split<;>simp
theorem Sv.sub_eq{hi:Nat}(hn:s.nil=false)(gC:s.sp= .none):s.sub c 0 hi=⟨false,s.b,s.o,hi,s.cap, .none⟩:=by
 have h0:=Sv.y6 (s:=s) (c:=c) (hi:=hi)
 obtain⟨sn,sb,so,sl,sc,ss⟩:=s
 simp only[Sv.sub]at h0 hn gC⊢
 subst hn gC
 rw[h0];rfl
end
section
variable {P:Program} {N:cE} {w0:World} {env:Env} {L:List ak} {Q:Exit→Act→World→Prop} {l rest:List Oper} {d:Option Tmp} {ty:TypeId} {ps:String} {af:Array Edge} {gd:Option (Nat×Bool)} {K:Value→List ak→Prop}
variable {α:Type} {enc:α→Array Value} {c:Nat} {s:Sv} {xs:List α}
theorem RS{w:World}{pre A mid:List Value}{T:TypeId}{b o:Nat}{L':List ak}(hw:Mem w0 (ar b (pre++(A++mid)).toArray T::L') w)(ho:pre.length=o){j:Nat}{u:Value}(hj:A[j]? =some u):w.cell? ⟨b,o+j,none⟩=some u:=by
 have iZ:=(List.getElem?_eq_some_iff.1 hj).1
 have h0:(ar b (pre++(A++mid)).toArray T::L')[0]? =some (ar b (pre++(A++mid)).toArray T):=rfl
 rw[hw.cell h0,List.getElem?_toArray,List.getElem?_append_right (by omega),List.getElem?_append_left (by omega),←hj]
 congr 1;omega
theorem JU{code:Code}[he:bp enc c]{i:Nat}(q:fL L s enc c xs i)(hc:1<c)(hn:0<xs.length){L':List Value→List Value→TypeId→List ak}[hu: ∀pre mid T,fE L i (ar s.b (pre++(aJ enc xs++mid)).toArray T) (L' pre mid T)]
  (h: ∀pre mid T,pre.length=s.o→s.o+s.cap*c≤pre.length+(xs.length*c+mid.length)→s.nil=false→s.sp=none→s.Ok→s.len=xs.length→Cw P N w0 Q code env (L' pre mid T)):Cw P N w0 Q code env L:=fun a w ha hw=>by
 have mK:=(hw.get q.h).1.some hn
 obtain⟨pre,mid,T,h1,h2,h3,h4,h5,h6⟩:=RR hc hw q.h mK
 rw[(hu pre mid T).h]at h6
 exact h pre mid T h1 h2 mK h3 h4 h5 a w ha h6
theorem Br{code:Code}{i:Nat}(q:fL L s enc c xs i)(hn:0<xs.length)(h:s.nil=false→s.sp=none→s.Ok→s.len=xs.length→Cw P N w0 Q code env L):Cw P N w0 Q code env L:=fun a w ha hw=>by
 obtain⟨r,mG⟩:=hw.get q.h
 have mK:=r.some hn
 exact h mK (mG mK).1 r.ok r.len a w ha hw
theorem JV[he:bp enc c](hc:0<c){i:Nat}(q:fL L s enc c xs i){w:World}(hw:Mem w0 L w){j:Nat}{v:Value}(hj:(aJ enc xs)[j]? =some v):w.cell? ⟨s.b,s.o+j,none⟩=some v:=by
 obtain⟨x,hx,hv⟩:=AZ hc hj
 have r:=(hw.get q.h).1
 rw[qP,←hv,←r.row _ x hx (j%c) (Nat.mod_lt _ hc)]
 congr 1
 have:=Nat.div_add_mod j c
 rw[Nat.mul_comm]at this;omega
theorem RT(w:World)(dT sT ty elem:TypeId)(b o JW RU:Nat)(a:Addr)(JX RW n:Nat)(cur:Array Value)(t:TypeId)(vs:List Value)
  (hu:P.underlying dT=some (.slice elem)) (hs:(P.info? elem).map (·.size)=some c) (hg:w.heap[b]? =some (.cells cur t (0,0))) (hn:n=Nat.min JX JW) (hv:vs.length=n*c)
  (lD: ∀j v,vs[j]? =some v→w.cell? (a.add j)=some v) (iN:o+vs.length≤cur.size) (h1: ∀v∈vs,v.oneCell'=true):
  (Builtin.copy_ #[dT,sT] ty #[.slice (some ⟨b,o,none⟩) JW RU, .slice (some a) JX RW]).run P w= .ok (goInt n) (w.setRow b (cT cur o vs.toArray)):=by
 have hl:=run_loadCells_list (P:=P) w a vs lD
 have bH:=run_storeCells_at P b o t vs 0 cur w hg (by simpa using iN) h1
 rw[hv]at hl
 cases hq:P.info? elem with
 |none=>simp[hq]at hs
 |some i=>
  have hi:i.size=c:=by simpa[hq]using hs
  simp[Builtin.copy_,run_underlying hu,Builtin.lenOf,Builtin.firstCells,sizeOf,typeInfo,hq,hi,←hn,hl,bH,cT]
theorem Bs{D S:Sv}{x y:Operand}{tx fZ e:TypeId}{i b o n:Nat}{cs:Array Value}{T:TypeId}{vs:List Value}(hx:ev env x=some D.val)(hy:ev env y=some S.val)
  (lJ:D.nil=false) (mL:D.sp=none) (oo:D.b=b) (qc:D.o=o) (y7:S.nil=false) (y8:S.sp=none) [ht:fe P tx e c] [hh:Has L b cs T i] (hn:n=Nat.min S.len D.len) (hv:vs.length=n*c)
  (lD: ∀w,Mem w0 L w→ ∀j v,vs[j]? =some v→w.cell? ⟨S.b,S.o+j,none⟩=some v) (h1: ∀v∈vs,v.oneCell'=true) (ho:o+vs.length≤cs.size) {cs':Array Value} {L':List ak} (gO:cT cs o vs.toArray=cs') [hu:fE L i (ar b cs' T) L']
  (hk:Sq P N w0 l Q rest (cy env d (.int .i64 n)) L') (hd:dn N d=true:=by rfl):
  Sq P N w0 l Q (⟨d, .call {callee:= .builtin .copy,args:= #[x,y],argTypes:= #[tx,fZ]},ty,ps,af,none⟩::rest) env L:=
 mA rfl hd fun aa w ha hw=>by
  rw[Sv.hY lJ,mL,oo,qc]at hx
  rw[Sv.hY y7,y8]at hy
  have hb:=hw.block hh.h
  have fX:=RT (P:=P) w tx fZ ty e b o D.len D.cap ⟨S.b,S.o,none⟩ S.len S.cap n cs T vs ht.eE ht.size hb hn hv (fun j v hj=>by rw[Addr.gB];exact lD w hw j v hj) ho h1
  refine⟨_,_,_,?_,by rw[←hu.h,←gO];exact hw.setRow hh.h _,hk⟩
  simp[execOp,ha.ev hx,ha.ev hy,resolve,invoke,builtin,fX,Result.andThen,goInt]
theorem RX{D S:Sv}{x y:Operand}{tx fZ e e':TypeId}{cI i b o n:Nat}{cs:Array Value}{T:TypeId}{vs:List Value}(hx:ev env x=some D.val)(hy:ev env y=some S.val)
  (lJ:D.nil=false) (mL:D.sp=none) (oo:D.b=b) (qc:D.o+D.len*c=o) (y7:S.nil=false) (y8:S.sp=none) [ht:ft P tx e c cI] (EV:P.underlying fZ=some (.slice e')) [hh:Has L b cs T i] (hn:S.len=n) (hv:vs.length=n*c) (nt:D.len+n≤D.cap)
  (lD: ∀w,Mem w0 L w→ ∀j v,vs[j]? =some v→w.cell? ⟨S.b,S.o+j,none⟩=some v) (h1: ∀v∈vs,v.oneCell'=true) (ho:o+vs.length≤cs.size) {cs':Array Value} {L':List ak} (gO:cT cs o vs.toArray=cs') [hu:fE L i (ar b cs' T) L']
  {R:Sv} (hR:R=⟨false,b,D.o,D.len+n,D.cap,none⟩) (hk:Sq P N w0 l Q rest (cy env d R.val) L') (hd:dn N d=true:=by rfl):
  Sq P N w0 l Q (⟨d, .call {callee:= .builtin .append,args:= #[x,y],argTypes:= #[tx,fZ]},ty,ps,af,none⟩::rest) env L:=
 mA rfl hd fun aa w ha hw=>by
  subst hR qc oo
  rw[Sv.hY lJ,mL]at hx
  rw[Sv.hY y7,y8,hn]at hy
  have hb:=hw.block hh.h
  obtain⟨i',z,bl,aH,bB,c6,lY⟩:=ht.info
  have hs:=Src.ofSlice (P:=P) (size:=c) w EV ⟨S.b,S.o,none⟩ n S.cap vs hv (fun j v hj=>by rw[Addr.gB];exact lD w hw j v hj) h1
  have bH:=run_storeCells_at P D.b (D.o+D.len*c) T vs 0 cs w hb (by simpa using ho) h1
  have fX:(Builtin.append_ #[tx,fZ] ty #[.slice (some ⟨D.b,D.o,none⟩) D.len D.cap, .slice (some ⟨S.b,S.o,none⟩) n S.cap]).run P w= .ok (.slice (some ⟨D.b,D.o,none⟩) (D.len+n) D.cap) (w.setRow D.b (cT cs (D.o+D.len*c) vs.toArray)):=by
   subst bB
   rcases hs.kind with⟨e',hk⟩|hk<;>simp[Builtin.append_,run_underlying ht.eE,run_underlying hk,sizeOf,typeInfo,bl,hs.len,nt,hs.cells,Addr.gB,bH,cT]
  refine⟨_,_,_,?_,by rw[←hu.h,←gO];exact hw.setRow hh.h _,hk⟩
  simp[execOp,ha.ev hx,ha.ev hy,resolve,invoke,builtin,fX,Result.andThen,Sv.val]
theorem RY{D:Sv}{x y:Operand}{tx fZ e:TypeId}{cI k:Nat}{z:Value}{olds:List Value}{kn kq:IntKind}{iy:Int}{p m:Nat}(hp:D.len=p)(hm:p+k=m)(hx:ev env x=some D.val)(hy:ev env y=some (.int kq iy))(rX:iy=(k:Int))(h0:0<k)
  (lJ:D.nil=false) (mL:D.sp=none) [ht:ft P tx e c cI] (hc:0<c) [hz:fo P e z] (EW:P.underlying fZ=some (.int kn)) (holds:olds.length=D.len*c) (lD: ∀w,Mem w0 L w→ ∀j v,olds[j]? =some v→w.cell? ⟨D.b,D.o+j,none⟩=some v)
  (hg:D.cap<D.len+k) (hb:(D.len+k)*cI≤140737488355328) (ja:D.len+k≤140737488355328)
  (hk: ∀(b C:Nat) (Z:List Value),m≤C→p*c+Z.length=C*c→Sq P N w0 l Q rest (cy env d (Sv.val ⟨false,b,0,m,C,none⟩)) (ar b (olds++Z).toArray e::L)) (hd:dn N d=true:=by rfl):
  Sq P N w0 l Q (⟨d, .call {callee:= .builtin .append,args:= #[x,y],argTypes:= #[tx,fZ]},ty,ps,af,none⟩::rest) env L:=
 mA rfl hd fun aa w ha hw=>by
  subst rX hp hm
  rw[Sv.hY lJ,mL]at hx
  obtain⟨i',z',bl,aH,bB,c6,lY⟩:=ht.info
  subst bB c6
  have uL:=nextslicecap_le hg
  have iN:Builtin.nextslicecap (D.len+k) D.cap*i'.bytes≤281474976710656:=by
   have h2:Builtin.nextslicecap (D.len+k) D.cap*i'.bytes≤2*(D.len+k)*i'.bytes:=Nat.mul_le_mul_right _ uL
   rw[Nat.mul_assoc]at h2
   omega
  have EX:k*i'.bytes≤281474976710656:=by
   have:k*i'.bytes≤(D.len+k)*i'.bytes:=Nat.mul_le_mul_right _ (by omega)
   omega
  have hold:=run_firstCells_some (P:=P) w.drew i'.size D.len ⟨D.b,D.o,none⟩ D.len D.cap olds holds (fun j v hj=>by rw[Addr.gB];exact lD w hw j v hj)
  have fX:=Lib.run_append_grow_zeros (P:=P) w tx fZ ty e i' z' kq kn ht.eE EW bl aH (some ⟨D.b,D.o,none⟩) D.len D.cap olds hold k h0 hc hg (by omega) EX iN
  have qR:=grownCap_ge w (D.len+k) D.cap e
  generalize grownCap w (D.len+k) D.cap e=C at fX qR
  have y9:=size_zeroCells z'.cells k
  have Bt:=size_zeroCells z'.cells (C -(D.len+k))
  rw[lY]at y9 Bt
  have hZ:D.len*i'.size+(Builtin.zeroCells z'.cells k++Builtin.zeroCells z'.cells (C -(D.len+k))).toList.length=C*i'.size:=by
   rw[Array.length_toList,Array.size_append,y9,Bt,←Nat.add_mul,←Nat.add_mul];congr 1;omega
  have e1:olds.toArray++Builtin.zeroCells z'.cells k++Builtin.zeroCells z'.cells (C -(D.len+k))=(olds++(Builtin.zeroCells z'.cells k++Builtin.zeroCells z'.cells (C -(D.len+k))).toList).toArray:=by apply Array.ext';simp
  rw[e1]at fX
  refine⟨_,_,_,?_,hw.drew.alloc _ e,hk w.heap.size C _ qR hZ⟩
  simp[execOp,ha.ev hx,ha.ev hy,resolve,invoke,builtin,fX,Result.andThen,Sv.val]
theorem RZ{D:Sv}{x:Operand}{tx e:TypeId}{cI i b o n:Nat}{z:Value}{cs:Array Value}{T:TypeId}(hx:ev env x=some D.val)(lJ:D.nil=false)(mL:D.sp=none)(oo:D.b=b)(qc:D.o=o)(hn:D.len=n)(h0:0<n)[ht:ft P tx e c cI][hz:fo P e z](h1:z.cells.all (·.oneCell')=true)[hh:Has L b cs T i](ho:o+n*c≤cs.size)
  {L':List Value→List ak} [hu: ∀Z,fE L i (ar b (cT cs o Z.toArray) T) (L' Z)] (hk: ∀Z:List Value,Z.length=n*c→Sq P N w0 l Q rest env (L' Z)):
  Sq P N w0 l Q (⟨none, .call {callee:= .builtin .clear,args:= #[x],argTypes:= #[tx]},ty,ps,af,none⟩::rest) env L:=
 mA rfl rfl fun aa w ha hw=>by
  rw[Sv.hY lJ,mL,oo,qc,hn]at hx
  have hb:=hw.block hh.h
  obtain⟨i',z',bl,aH,bB,c6,lY⟩:=ht.info
  obtain rfl:z'=z:=by
   have:=hz.zero
   rw[bl,Option.map_some,aH]at this;exact Option.some.inj (Option.some.inj this)
  subst bB
  have hZ:=size_zeroCells z'.cells n
  rw[lY]at hZ
  have qW: ∀v∈(Builtin.zeroCells z'.cells n).toList,v.oneCell'=true:=fun v hv=>by
   simp only[Builtin.zeroCells,Array.toList_map,List.mem_map]at hv
   obtain⟨j,hj,rfl⟩:=hv
   have nC:0<z'.cells.size:=by
    rcases Nat.eq_zero_or_pos z'.cells.size with h|h
    ·
     rw[h]at hj;simp at hj
    ·
     exact h
   rw[getElem!_pos z'.cells _ (Nat.mod_lt _ nC)]
   exact(Array.all_eq_true_iff_forall_mem.1 h1) _ (Array.getElem_mem _)
  have bH:=run_storeCells_at P b o T (Builtin.zeroCells z'.cells n).toList 0 cs w hb (by simp[hZ];omega) qW
  have fX:(Builtin.clear_ #[tx] ty #[.slice (some ⟨b,o,none⟩) n D.cap]).run P w= .ok (.tuple #[]) (w.setRow b (cT cs o (Builtin.zeroCells z'.cells n))):=by
   obtain⟨m,rfl⟩: ∃m,n=m+1:=⟨n -1,by omega⟩
   simp[Builtin.clear_,run_underlying ht.eE,zeroValue,typeInfo,bl,aH,bH,cT]
  refine⟨.tuple #[],w.setRow b (cT cs o (Builtin.zeroCells z'.cells n)),L' (Builtin.zeroCells z'.cells n).toList,?_,?_,hk _ (by rw[Array.length_toList,hZ])⟩
  ·
   simp[execOp,ha.ev hx,resolve,invoke,builtin,fX,Result.andThen]
  ·
   have h9:=hw.setRow hh.h (cT cs o (Builtin.zeroCells z'.cells n))
   rw[←(hu _).h]
   simpa using h9
def Sv.top(s:Sv)(m:Nat):Sv:=⟨s.nil,s.b,s.o,s.len,m,s.sp⟩
theorem JY{t e:TypeId}{x lo hi mx:Operand}{l h m:Nat}{k k' JZ:IntKind}{il ih im:Int}[ht:fe P t e c](hx:ev env x=some s.val)[q:Hd w0 L s enc c xs](hl:ev env lo=some (.int k il))(hh:ev env hi=some (.int k' ih))(hm:ev env mx=some (.int JZ im))(el:il=(l:Int))(eh:ih=(h:Int))(em:im=(m:Int))(h1:l≤h)(h2:h≤m)(h3:m≤xs.length):
  Ry P N w0 env L ⟨d, .slice t x (some lo) (some hi) (some mx),ty,ps,af,gd⟩ ((s.top m).sub c l h).val:=fun a w ha hw=>by
 subst el eh em
 have r:=q.h w hw
 have hs:=r.ok
 have hlen:=r.len
 have hle:=hs.le
 have ee:=wu ht.eE
 have hu:P.underlying t=some (.slice (P.elem t)):=by rw[ee];exact ht.eE
 obtain⟨ad,len,cap,mD⟩:=s.ex
 have e3:len=s.len∧cap=s.cap∧sliced ad l h m c=((s.top m).sub c l h).val:=by
  cases hn:s.nil with
  |true=>
   rw[Sv.qO hn]at mD
   obtain⟨rfl,rfl,rfl⟩:=by simpa using mD
   have:=hs.nil hn
   have e2:((s.top m).sub c l h).nil=true:=hn
   rw[Sv.qO e2]
   have:l=0:=by omega
   have:h=0:=by omega
   have:m=0:=by omega
   subst l h m
   exact⟨by omega,by omega,by simp[sliced]⟩
  |false=>
   rw[Sv.hY hn]at mD
   obtain⟨rfl,rfl,rfl⟩:=by simpa using mD
   have e2:((s.top m).sub c l h).nil=false:=hn
   rw[Sv.hY e2]
   refine⟨rfl,rfl,?_⟩
   simp only[sliced,Sv.sub,Sv.top]
   by_cases hc:m=l
   ·
    simp[hc]
   ·
    have gC:=hs.sp (by omega)
    simp[hc,gC,Addr.gB]
 obtain⟨e1,e2,e3⟩:=e3
 have hr:=run_slice_lhm (P:=P) (w:=w) t ad len cap hu k k' JZ (l:Int) (h:Int) (m:Int) (by omega) (by omega) (by omega) (by omega)
 rw[ee,kK w ht.size]at hr
 simp only[Result.andThen,Int.toNat_natCast,e3]at hr
 simp only[execOp,ha.ev hx,ha.ev hl,ha.ev hh,ha.ev hm,mD,Option.map_some,run_sliceAt_slice (h:=hu),hr,Sem.run_bind,Result.andThen,Sem.run_pure]
theorem R0{t e:TypeId}{x:Operand}{m n:Nat}[ht:fe P t e m](hx:ev env x=some s.val)(mK:s.nil=false)(hn:s.cap=n):
  Ry P N w0 env L ⟨d, .call {callee:= .builtin .cap,args:= #[x],argTypes:= #[t]},ty,ps,af,gd⟩ (.int .i64 n):=fun a w ha _=>by
 subst hn
 rw[Sv.hY mK]at hx
 have hu:P.underlying t=some (.slice (P.elem t)):=by rw[wu ht.eE];exact ht.eE
 have:=run_cap_slice (P:=P) (w:=w) t ty (some ⟨s.b,s.o,s.sp⟩) s.len s.cap hu
 simp[execOp,ha.ev hx,resolve,invoke,builtin,this,Result.andThen,goInt]
class J0(P:Program)(f:FuncId)(tS tR:outParam TypeId):Prop where
 fn: ∃fn,P.funcs[f]? =some fn∧(fn.name== "runtime.NumGoroutine")=false∧fn.body.isNone=true∧Extern.findNext fn=none∧Extern.find fn=some (Extern.SlicesOverlaps.overlaps #[tS,tS] #[tR])
theorem Mem.apart{w:World}{i j k:Nat}{e e':ak}(h:Mem w0 L w)(hi:L[i]? =some e)(hj:L[j]? =some e')(nX:i≠j)(hk:e.fp k): ¬e'.fp k:=by
 obtain⟨gi,rfl⟩:=List.getElem?_eq_some_iff.1 hi
 obtain⟨gj,rfl⟩:=List.getElem?_eq_some_iff.1 hj
 have hd:=List.pairwise_iff_getElem.1 h.np
 rcases Nat.lt_or_gt_of_ne nX with h1|h1
 ·
  exact hd i j gi gj h1 k hk
 ·
  exact fun h2=>hd j i gj gi h1 k h2 hk
theorem R5{V D:Sv}{x y:Operand}{f:FuncId}{ts:Array TypeId}{tS tR e T:TypeId}{i j b:Nat}{cs:Array Value}(hx:ev env x=some V.val)(hy:ev env y=some D.val)[hf:J0 P f tS tR][ht:fe P tS e c](hc:1<c)[q:fL L V enc c xs i](hv:0<xs.length)[hh:Has L b cs T j](lJ:D.nil=false)(mL:D.sp=none)(oo:D.b=b)(gO:0<cs.size)(nX:i≠j:=by decide):
  Ry P N w0 env L ⟨d, .call {callee:= .value (.func f),args:= #[x,y],argTypes:=ts},ty,ps,af,gd⟩ (.bool false):=fun a w ha hw=>by
 obtain⟨r,mG⟩:=hw.get q.h
 have EY:=r.some hv
 obtain⟨R6,cv,Tv,fz,ei,fc,lG,la⟩:=mG EY
 obtain rfl:=la hc
 have hb:=hw.block hh.h
 have cH:V.b≠b:=fun e0=>hw.apart q.h hh.h nX (k:=V.b) ⟨EY,rfl⟩ e0
 subst oo
 rw[Sv.hY EY,R6]at hx
 rw[Sv.hY lJ,mL]at hy
 obtain⟨fn,h1,h2,h3,h4,h5⟩:=hf.fn
 have fX:=Lib.run_overlaps_apart (P:=P) w tS tR e ht.eE c (fun w=>kK w ht.size) ⟨V.b,V.o,none⟩ ⟨D.b,D.o,none⟩ V.len V.cap D.len D.cap cH Tv T cv.size cs.size (by simp[World.shape?,ei]) (by simp[World.shape?,hb]) (by omega) (by simp[World.frozen?,ei]) (by simp[World.frozen?,ei])
 have J1:=run_callFunc_extern (P:=P) h1 h2 h3 h4 h5 #[.slice (some ⟨V.b,V.o,none⟩) V.len V.cap, .slice (some ⟨D.b,D.o,none⟩) D.len D.cap] w
 rw[fX]at J1
 have e1:a.eval (.func f)= .func (.func f) #[] #[]:=rfl
 simp[execOp,ha.ev hx,ha.ev hy,resolve,e1,Deferred.ofValue,invoke,J1,Result.andThen]
end
end Go.ay
namespace Go.Kb
def R7:Nat:=3988292384
def EZ(n:Nat):Nat:=(n/2)^^^(if n%2=1 then R7 else 0)
theorem R8{n:Nat}(h:n<2^32):EZ n<2^32:=by
 refine Nat.xor_lt_two_pow (by omega) ?_
 split
 ·
  decide
 ·
  decide
def mM(n:Nat):Nat→Nat
 |0=>n
 |k+1=>EZ (mM n k)
theorem E3{n:Nat}(h:n<2^32): ∀k,mM n k<2^32
 |0=>h
 |k+1=>R8 (E3 h k)
def E4(n:Nat)(b:UInt8):Nat:=mM (n^^^b.toNat) 8
theorem R9{n:Nat}{b:UInt8}(h:n<2^32):E4 n b<2^32:=E3 (Nat.xor_lt_two_pow h (by have:=b.toNat_lt;omega)) 8
def ka(n:Nat)(l:List UInt8):Nat:=l.foldl E4 n
theorem Bu{n:Nat}(h:n<2^32): ∀l,ka n l<2^32
 |[]=>h
 |b::l=>Bu (R9 h) l
theorem Sa{n:Nat}{l:List UInt8}{i:Nat}{b:UInt8}(h:l[i]? =some b):ka n (l.take (i+1))=E4 (ka n (l.take i)) b:=by
 rw[List.take_add_one,h,ka,ka,List.foldl_append];rfl
def l6(l:List UInt8):Nat:=4294967295 -ka 4294967295 l
theorem E5(l:List UInt8):l6 l<2^32:=by unfold l6;omega
end Go.Kb
namespace Go.ay
open Go.RowKit
section
variable {α:Type} {enc:α→Array Value} {c:Nat} {s:Sv} {xs:List α}
theorem Mem.J2{w0 w:World}{L:List ak}{i k:Nat}(hw:Mem w0 L w)(hi:L[i]? =some (own enc c s xs))(hk:k≤xs.length):Mem w0 (L.set i (own enc c (s.sub c 0 k) (xs.take k))) w:=by
 obtain⟨r,mG⟩:=hw.get hi
 have r2:=r.sub (lo:=0) (hi:=k) (Nat.zero_le _) hk
 rw[List.drop_zero,Nat.sub_zero]at r2
 refine hw.change hi (fun k hk=>hk) (fun _ _=>rfl) rfl ⟨rfl,rfl,rfl⟩ ⟨r2,fun hn=> ?_⟩
 obtain⟨h1,cs,T,fz,h2,h3,h4,h5⟩:=mG hn
 refine⟨h1,cs,T,fz,h2,?_,h4,h5⟩
 rw[Sv.y6];exact h3
end
section
variable {P:Program} {N:cE} {w0:World} {env:Env} {L:List ak} {Q:Exit→Act→World→Prop} {l rest:List Oper} {d:Option Tmp} {ty:TypeId} {ps:String} {af:Array Edge} {gd:Option (Nat×Bool)}
variable {α:Type} {enc:α→Array Value} {c:Nat} {xs:List α}
theorem J3{x y:Operand}{tx fZ e:TypeId}{cI k:Nat}{z:Value}{kn kq:IntKind}{iy:Int}(x0:α)(hx:ev env x=some (.slice none 0 0))(hy:ev env y=some (.int kq iy))(rX:iy=(k:Int))(h0:0<k)
  [ht:ft P tx e c cI] [he:bp enc c] (hc:0<c) [hz:fo P e z] (J4:enc x0=z.cells) (EW:P.underlying fZ=some (.int kn)) (hb:k*cI≤140737488355328) (ja:k≤140737488355328)
  (hk: ∀b C:Nat,k≤C→Sq P N w0 l Q rest (cy env d (Sv.val ⟨false,b,0,k,C,none⟩)) (own enc c ⟨false,b,0,k,C,none⟩ (List.replicate k x0)::L)) (hd:dn N d=true:=by rfl):
  Sq P N w0 l Q (⟨d, .call {callee:= .builtin .append,args:= #[x,y],argTypes:= #[tx,fZ]},ty,ps,af,none⟩::rest) env L:=
 mA rfl hd fun aa w ha hw=>by
  subst rX
  obtain⟨i',z',bl,aH,bB,c6,lY⟩:=ht.info
  obtain rfl:z'=z:=by
   have:=hz.zero
   rw[bl,Option.map_some,aH]at this;exact Option.some.inj (Option.some.inj this)
  subst bB c6
  have fX:=Lib.run_append_nil_zeros (P:=P) w tx fZ ty e i' z' kq kn ht.eE EW bl aH k h0 hc (by omega) (by omega)
  have qR:=grownCap_ge w k 0 e
  generalize grownCap w k 0 e=C at fX qR
  have y9:=size_zeroCells z'.cells k
  have Bt:=size_zeroCells z'.cells (C -k)
  have Sc: ∀m i j,i<m→j<i'.size→(Builtin.zeroCells z'.cells m)[i*i'.size+j]? =z'.cells[j]? :=fun m i j hi hj=>by
   have bx:i*i'.size+j<m*z'.cells.size:=by
    rw[lY]
    have:(i+1)*i'.size≤m*i'.size:=Nat.mul_le_mul_right _ hi
    rw[Nat.add_mul]at this;omega
   have e1:(i*i'.size+j)%z'.cells.size=j:=by rw[lY,Nat.mul_comm,Nat.mul_add_mod];exact Nat.mod_eq_of_lt hj
   have za:j<z'.cells.size:=by omega
   simp[Builtin.zeroCells,bx,e1,za]
  refine⟨_,_,_,?_,hw.drew.call (wy (enc:=enc) (c:=i'.size) (xs:=List.replicate k x0) (cs:=Builtin.zeroCells z'.cells k++Builtin.zeroCells z'.cells (C -k)) (e:=e) rfl k C (by simp) qR ja ?_ fun i x hx j hj=> ?_),hk _ C qR⟩
  ·
   simp[execOp,ha.ev hx,ha.ev hy,resolve,invoke,builtin,fX,Result.andThen,Sv.val]
  ·
   rw[Array.size_append,y9,Bt,lY,←Nat.add_mul];exact Nat.mul_le_mul_right _ (by omega)
  ·
   have hi:i<k:=by
    have:=(List.getElem?_eq_some_iff.1 hx).1
    simpa using this
   obtain rfl:x0=x:=by rw[List.getElem?_replicate,if_pos hi]at hx;exact Option.some.inj hx
   rw[J4,←Sc k i j hi hj,Array.getElem?_append_left]
   rw[y9,lY]
   have:(i+1)*i'.size≤k*i'.size:=Nat.mul_le_mul_right _ hi
   rw[Nat.add_mul]at this;omega
theorem Bv{t e:TypeId}{x:Operand}{m:Nat}[ht:fe P t e m](hx:ev env x=some (.slice none 0 0)):
  Ry P N w0 env L ⟨d, .call {callee:= .builtin .cap,args:= #[x],argTypes:= #[t]},ty,ps,af,gd⟩ (.int .i64 (0:Nat)):=fun a w ha _=>by
 have hu:P.underlying t=some (.slice (P.elem t)):=by rw[wu ht.eE];exact ht.eE
 have:=run_cap_slice (P:=P) (w:=w) t ty none 0 0 hu
 simp[execOp,ha.ev hx,resolve,invoke,builtin,this,Result.andThen,goInt]
class tq(w0:World)(L:List ak){τ:Type}[Deep τ](xs:List τ):Prop where
 h: ∀w,Mem w0 L w→ ∀x∈xs,Deep.aZ (hp w) x
instance tq.nil{τ:Type}[Deep τ]:tq w0 L ([]:List τ):=⟨fun _ _ _ h=>by cases h⟩
instance tq.cons{τ:Type}[Deep τ]{x:τ}{xs:List τ}[a:aW w0 L x][b:tq w0 L xs]:tq w0 L (x::xs):=⟨fun w hw y hy=>by
 rcases List.mem_cons.1 hy with rfl|hy
 ·
  exact a.h w hw
 ·
  exact b.h w hw y hy⟩
instance (priority:=low) aW.flat {τ:Type}[Deep τ][Plain τ]{enc:τ→Array Value}{c:Nat}[fN τ enc c]{s:Sv}{xs:List τ}[q:c8 w0 L enc c s xs]:aW w0 L (⟨s,xs⟩:Sl τ):=⟨fun w hw=>by
 have hl:=q.h w hw
 have e1:Deep.cells (τ:=τ)=enc:=funext (fN.h (c:=c))
 have e2:Deep.c τ=c:=fN.hc (enc:=enc)
 refine⟨?_,fun x _=>Deep.fM _ x (by rw[Plain.h x];exact trivial)⟩
 subst e1 e2
 exact hl⟩
instance (priority:=low) aW.rows {τ:Type}[Deep τ]{enc:τ→Array Value}{c:Nat}[fN τ enc c]{s:Sv}{xs:List τ}[q:c8 w0 L enc c s xs][g:tq w0 L xs]:aW w0 L (⟨s,xs⟩:Sl τ):=⟨fun w hw=>by
 have hl:=q.h w hw
 have e1:Deep.cells (τ:=τ)=enc:=funext (fN.h (c:=c))
 have e2:Deep.c τ=c:=fN.hc (enc:=enc)
 refine⟨?_,g.h w hw⟩
 subst e1 e2
 exact hl⟩
theorem Sd{τ:Type}[Deep τ]{s:Sv}{xs:List τ}[g:aW w0 L (⟨s,xs⟩:Sl τ)](h: ∀a:Sl τ,a=⟨s,xs⟩→aW w0 L a→Sq P N w0 l Q rest (cy env d a.sv.val) L):Sq P N w0 l Q rest (cy env d s.val) L:=h _ rfl g
def jP(l:List (Sl UInt8)):List UInt8:=(l.map Sl.xs).flatten
theorem Bw{l:List (Sl UInt8)}{i:Nat}{x:Sl UInt8}(h:l[i]? =some x):jP (l.take (i+1))=jP (l.take i)++x.xs:=by
 rw[jP,List.take_add_one,h];simp[jP]
theorem Se(l:List (Sl UInt8))(i:Nat):(jP (l.take i)).length≤(jP l).length:=by
 have e:jP l=jP (l.take i)++jP (l.drop i):=by
  unfold jP
  rw[←List.flatten_append,←List.map_append,List.take_append_drop]
 rw[e,List.length_append];omega
end
theorem Sg(l:List UInt8): ∀n,l.foldl (fun a b=>a*256+b.toNat) n=n*256^l.length+de l:=by
 induction l with
 |nil=>intro n;simp[de]
 |cons x l ih=>
  intro n
  rw[List.foldl_cons,ih,show de (x::l)=l.foldl (fun a b=>a*256+b.toNat) (0*256+x.toNat)from rfl,ih,List.length_cons,Nat.pow_succ]
  simp only[Nat.zero_mul,Nat.zero_add,Nat.add_mul]
  rw[Nat.mul_assoc n,Nat.mul_comm 256,Nat.add_assoc]
theorem Sh(x:UInt8)(l:List UInt8):de (x::l)=x.toNat*256^l.length+de l:=by
 rw[show de (x::l)=l.foldl (fun a b=>a*256+b.toNat) (0*256+x.toNat)from rfl,Sg];simp
theorem J5(l:List UInt8):de l<256^l.length:=by
 have:=En l l.length (Nat.le_refl _)
 rwa [List.take_length]at this
theorem Si(m n:Nat): ∀k,be (m*256^k+n) k=be n k
 |0=>rfl
 |k+1=>by
  have e:m*256^(k+1)+n=(m*256)*256^k+n:=by rw[Nat.pow_succ,Nat.mul_assoc,Nat.mul_comm 256]
  rw[be,be,e,Si (m*256) n k,Nat.add_comm,Nat.add_mul_div_right _ _ (Nat.pow_pos (by decide))]
  congr 1
  apply UInt8.toNat_inj.1
  rw[pX,pX];omega
theorem Bx(n:Nat): ∀k,de (be n k)=n%256^k
 |0=>by simp[be,de,Nat.mod_one]
 |k+1=>by
  rw[be,Sh,ia,Bx n k,pX,Nat.pow_succ,Nat.mod_mul,Nat.mul_comm,Nat.add_comm]
open Go.RowKit
section
variable {w0:World} {L:List ak} {α:Type} {enc:α→Array Value} {c:Nat} {xs ys:List α} {s t:Sv} {g:Bool}
end
section
variable {P:Program} {N:cE} {w0:World} {env:Env} {L:List ak} {l:List Oper} {Q:Exit→Act→World→Prop} {rest:List Oper} {d:Option Tmp} {ty:TypeId} {ps:String} {af:Array Edge}
end
section
variable {w0:World} {L:List ak} {τ:Type} [Deep τ]
instance (priority:=low) tq.of {a:Sl τ}[q:aW w0 L a]:tq w0 L a.xs:=⟨fun w hw=>(q.h w hw).2⟩
end
section
variable {w0:World} {L:List ak} {τ:Type} [Deep τ]
end
open Go.RowKit
class dz(τ:Type)[d:Deep τ] where
 reach:τ→Nat→Prop
 congr: ∀(h h':Nat→Option Obj) (x:τ),(∀k,reach x k→h' k=h k)→d.aZ h x→d.aZ h' x
theorem bW.congr{α:Type}{enc:α→Array Value}{c:Nat}{h h':Nat→Option Obj}{s:Sv}{xs:List α}(e:xs≠[]→h' s.b=h s.b)(r:bW enc c h s xs):bW enc c h' s xs:=
 ⟨r.ok,r.len,fun i x hi j hj=>by
  have cH:xs≠[]:=fun he=>by rw[he]at hi;simp at hi
  rw[←r.row i x hi j hj];unfold mC;rw[e cH]⟩
@[reducible] def dz.flat {τ:Type}[d:Deep τ](hg: ∀h x,d.aZ h x):dz τ:=⟨fun _ _=>False,fun _ h' x _ _=>hg h' x⟩
instance dz.slice{τ:Type}[d:Deep τ][r:dz τ]:dz (Sl τ) where
 reach a k:=(a.xs≠[]∧k=a.sv.b)∨ ∃x∈a.xs,r.reach x k
 congr h h' a e g:=⟨g.1.congr fun cH=>e _ (.inl ⟨cH,rfl⟩),fun x hx=>r.congr h h' x (fun k hk=>e k (.inr ⟨x,hx,hk⟩)) (g.2 x hx)⟩
instance:dz UInt8:=dz.flat fun _ _=>trivial
def fz{τ:Type}[d:Deep τ][r:dz τ](x:τ):ak:=⟨r.reach x,fun h=>d.aZ h x,fun h h' e s=>r.congr h h' x e s⟩
section
variable {w0:World} {L:List ak} {τ:Type} [d:Deep τ] [r:dz τ]
instance (priority:=high) aW.frozen {a:τ}{i:Nat}[q:At L (fz a) i]:aW w0 L a:=⟨fun _ hw=>hw.get q.h⟩
theorem Mem.freeze{w:World}{es:List ak}(x:τ)(hg:d.aZ (hp w) x)(hr: ∀k,r.reach x k→ ∃e∈es,e.fp k)(h:Mem w0 (es++L) w):Mem w0 (fz x::L) w:=by
 have hd:=List.pairwise_append.1 h.np
 refine⟨h.below,fun e he=> ?_,fun e he k hk=> ?_,List.pairwise_cons.2 ⟨fun y hy k hk jN=> ?_,hd.2.1⟩⟩
 ·
  rcases List.mem_cons.1 he with rfl|he
  ·
   exact hg
  ·
   exact h.sat e (List.mem_append.2 (.inr he))
 ·
  rcases List.mem_cons.1 he with rfl|he
  ·
   obtain⟨e',pW,jN⟩:=hr k hk
   exact h.jq e' (List.mem_append.2 (.inl pW)) k jN
  ·
   exact h.jq e (List.mem_append.2 (.inr he)) k hk
 ·
  obtain⟨e',pW,n8⟩:=hr k hk
  exact hd.2.2 e' pW y hy k n8 jN
theorem Mem.Sj{w:World}{e:ak}(x:τ)(hg:d.aZ (hp w) x)(hr: ∀k,r.reach x k→e.fp k)(h:Mem w0 (e::L) w):Mem w0 (fz x::L) w:=
 Mem.freeze (es:=[e]) x hg (fun k hk=>⟨e,by simp,hr k hk⟩) h
end
open Go.RowKit Go.Kb
section
variable {w0:World} {L:List ak} {τ:Type} [Deep τ] {xs:List τ} {es:List ak}
theorem Mem.u6{w:World}(h:Mem w0 L w):Mem w0 (ak.all []::L) w:=Mem.yJ.2 h
theorem Mem.Sk{w:World}{e:ak}(h:Mem w0 (e::ak.all es::L) w):Mem w0 (ak.all (e::es)::L) w:=Mem.wB.2 h
theorem Mem.J6{w:World}{s:Sv}{enc:τ→Array Value}{c:Nat}[f:fN τ enc c][Plain τ](h:Mem w0 (own enc c s xs::L) w):Mem w0 (Deep.bT (⟨s,xs⟩:Sl τ)::L) w:=Tr.Er.mem h
end
end Go.ay
namespace Go.Kb
structure Sm where
 len:Int
 dP:UInt16
 deriving DecidableEq
structure Nd where
 Sn:List Sm
 So:List Int
 hs:Sn.length=16
 hn:So.length=16
 deriving DecidableEq
def Sp(k:Key)(n b:Nat):Key:=if n%2=0 then yQ k (n/2) (16*b%256)else yQ k (n/2) ((cK k (n/2)+b)%256)
def Sr(p:cU):Nat:=((p.len -1)/4).toNat
structure Wy where
 steps:Nat
 key:Key
 deriving DecidableEq
def root:Wy:=⟨0,0#128⟩
def qd(r:Rt)(bits:Int)(w:Wy)(b:Nat):Bool:=decide (r.p.bits=bits)&&decide (Sr r.p=w.steps)&&Q7 r.p (Sp w.key w.steps b)
section
variable {k:Key} {n b:Nat}
end
section
variable {bits:Int} {W:List Wy} {R:List Rt} {w:Wy} {node b:Nat}
end
section
variable {bits:Int} {W:List Wy} {R:List Rt} {r:Rt} {f:Nat}
end
theorem wN{t:List Rt}(h:dy t=true){r:Rt}(hr:r∈t):cZ r.p=true:=by
 obtain⟨i,hi⟩:=List.mem_iff_getElem?.1 hr
 have bx:=(List.getElem?_eq_some_iff.1 hi).1
 cases hm:cZ r.p with
 |true=>rfl
 |false=>rw[Ba bx (Jw hi hm)]at h;cases h
theorem wO{t:List Rt}(h:dy t=true):t.length≤256:=by
 rcases Nat.lt_or_ge 256 t.length with h1|h1
 ·
  rw[Ju h1]at h;cases h
 ·
  exact h1
open Go.ay
def bP(x:Int):Array Value:= #[.int .i64 x]
instance:bp bP 1:=⟨fun _=>rfl,fun _=>by simp[bP,Value.oneCell']⟩
instance (x:Int):cm (bP x) 0 (.int .i64 x):=⟨rfl⟩
instance:Deep Int:=Deep.flat bP 1
instance:fN Int bP 1:=⟨rfl,fun _=>rfl⟩
instance:Plain Int:=⟨fun _=>rfl⟩
end Go.Kb
namespace Go.ay
open Go.Kb
section
variable {P:Program} {N:cE} {w0:World} {env:Env} {L:List ak} {d:Option Tmp} {ty:TypeId} {ps:String} {af:Array Edge} {gd:Option (Nat×Bool)}
theorem jO{x:Operand}{a:Addr}(hx:ev env x=some (.pointer (some a))):Ry P N w0 env L ⟨d, .nilCheck x,ty,ps,af,gd⟩ (.pointer (some a)):=fun _ w ha _=>by
 simp only[execOp,ha.ev hx,Sem.run_pure]
variable {s:Sv} {xs:List Nd} {a:Nd}
end
section
variable {P:Program} {N:cE} {w0:World} {env:Env} {L:List ak} {l:List Oper} {Q:Exit→Act→World→Prop} {rest:List Oper} {ty:TypeId} {ps:String} {af:Array Edge}
variable {s:Sv} {xs:List Nd} {a:Nd}
end
end Go.ay
namespace Go.Kb
open Go.ay
theorem oq(k:IntKind)(n:Int):(Value.int k n).oneCell'=true:=rfl
theorem ot(b:Bool):(Value.bool b).oneCell'=true:=rfl
instance:dz Int:=dz.flat fun _ _=>trivial
structure Ft where
 op:Int
 fail:Bool
 cut:Bool
 mask:UInt8
 deriving DecidableEq
def dj(x:Ft):Array Value:= #[.int .i64 x.op, .bool x.fail, .bool x.cut, .int .u8 x.mask.toNat]
instance:bp dj 4:=⟨fun _=>rfl,fun x=>by
 simp only[dj,List.all_toArray,List.all_cons,List.all_nil,Sv.one,oq,ot,Bool.and_self]⟩
instance (x:Ft):gq (dj x) 4:=⟨rfl,bp.one x⟩
instance (x:Ft):cm (dj x) 0 (.int .i64 x.op):=⟨rfl⟩
instance (x:Ft):cm (dj x) 1 (.bool x.fail):=⟨rfl⟩
instance (x:Ft):cm (dj x) 2 (.bool x.cut):=⟨rfl⟩
instance (x:Ft):cm (dj x) 3 (.int .u8 x.mask.toNat):=⟨rfl⟩
instance:Deep Ft:=Deep.flat dj 4
instance:Plain Ft:=⟨fun _=>rfl⟩
instance:dz Ft:=dz.flat fun _ _=>trivial
instance:fN Ft dj 4:=⟨rfl,fun _=>rfl⟩
def wP:Ft:=⟨0,false,false,0⟩
structure Bk where
 ae:Sl (Sl UInt8)
 used:Int
 aS:Int
 bad:Bool
def bX(x:Bk):Array Value:= #[x.ae.sv.val, .int .i64 x.used, .int .i64 x.aS, .bool x.bad]
instance:bp bX 4:=⟨fun _=>rfl,fun x=>by
 simp only[bX,List.all_toArray,List.all_cons,List.all_nil,Sv.one,oq,ot,Bool.and_self]⟩
instance (x:Bk):gq (bX x) 4:=⟨rfl,bp.one x⟩
instance (x:Bk):cm (bX x) 0 (x.ae.sv.val):=⟨rfl⟩
instance (x:Bk):cm (bX x) 1 (.int .i64 x.used):=⟨rfl⟩
instance (x:Bk):cm (bX x) 2 (.int .i64 x.aS):=⟨rfl⟩
instance (x:Bk):cm (bX x) 3 (.bool x.bad):=⟨rfl⟩
instance:Deep Bk where
 c:=4
 cells:=bX
 size:=bp.size
 one:=bp.one
 aZ h x:=Deep.aZ h x.ae
 bT x:=Deep.bT x.ae
 fM h x hs:=Deep.fM h x.ae hs
 mono w w' x hg hb:=Deep.mono w w' x.ae hg hb
instance:dz Bk where
 reach x k:=dz.reach x.ae k
 congr h h' x e hg:=dz.congr h h' x.ae (fun k hk=>e k (hk)) hg
instance {w0:World}{L:List ak}{x:Bk}[q:aW w0 L x]:aW w0 L x.ae:=⟨fun w hw=>(q.h w hw)⟩
instance:fN Bk bX 4:=⟨rfl,fun _=>rfl⟩
def ou:Bk:=⟨⟨Sv.none,[]⟩,0,0,false⟩
structure Cp where
 ae:Int
 size:Int
 blocks:Sl Bk
 ops:Int
 off:Bool
 aX:Sl Ft
def aF(x:Cp):Array Value:= #[.int .i64 x.ae, .int .i64 x.size,x.blocks.sv.val, .int .i64 x.ops, .bool x.off,x.aX.sv.val]
instance:bp aF 6:=⟨fun _=>rfl,fun x=>by
 simp only[aF,List.all_toArray,List.all_cons,List.all_nil,Sv.one,oq,ot,Bool.and_self]⟩
instance (x:Cp):gq (aF x) 6:=⟨rfl,bp.one x⟩
instance (x:Cp):cm (aF x) 0 (.int .i64 x.ae):=⟨rfl⟩
instance (x:Cp):cm (aF x) 1 (.int .i64 x.size):=⟨rfl⟩
instance (x:Cp):cm (aF x) 2 (x.blocks.sv.val):=⟨rfl⟩
instance (x:Cp):cm (aF x) 3 (.int .i64 x.ops):=⟨rfl⟩
instance (x:Cp):cm (aF x) 4 (.bool x.off):=⟨rfl⟩
instance (x:Cp):cm (aF x) 5 (x.aX.sv.val):=⟨rfl⟩
instance:Deep Cp where
 c:=6
 cells:=aF
 size:=bp.size
 one:=bp.one
 aZ h x:=Deep.aZ h x.blocks∧Deep.aZ h x.aX
 bT x:= .two (Deep.bT x.blocks) (Deep.bT x.aX)
 fM h x hs:=⟨Deep.fM h x.blocks hs.1,Deep.fM h x.aX hs.2.1⟩
 mono w w' x hg hb:=⟨Deep.mono w w' x.blocks hg.1 hb,Deep.mono w w' x.aX hg.2 hb⟩
instance:dz Cp where
 reach x k:=dz.reach x.blocks k∨dz.reach x.aX k
 congr h h' x e hg:=⟨dz.congr h h' x.blocks (fun k hk=>e k (.inl hk)) hg.1,dz.congr h h' x.aX (fun k hk=>e k (.inr hk)) hg.2⟩
instance {w0:World}{L:List ak}{x:Cp}[q:aW w0 L x]:aW w0 L x.blocks:=⟨fun w hw=>(q.h w hw).1⟩
instance {w0:World}{L:List ak}{x:Cp}[q:aW w0 L x]:aW w0 L x.aX:=⟨fun w hw=>(q.h w hw).2⟩
instance {w0:World}{L:List ak}{ae:Int}{size:Int}{blocks:Sl Bk}{ops:Int}{off:Bool}{aX:Sl Ft}[q0:aW w0 L blocks][q1:aW w0 L aX]:aW w0 L (Cp.mk ae size blocks ops off aX):=⟨fun w hw=>⟨q0.h w hw,q1.h w hw⟩⟩
def gh:Cp:=⟨0,0,⟨Sv.none,[]⟩,0,false,⟨Sv.none,[]⟩⟩
end Go.Kb
namespace Go.ay
theorem bW.cut{α:Type}{enc:α→Array Value}{c:Nat}{h:Nat→Option Obj}{s:Sv}{xs:List α}(r:bW enc c h s xs){lo hi:Nat}(h1:lo≤hi)(h2:hi≤xs.length):bW enc c h ⟨s.nil,s.b,if hi=lo then s.o else s.o+lo*c,hi -lo,hi -lo,s.sp⟩ ((xs.drop lo).take (hi -lo)):=by
  have hl:=r.len
  have hle:=r.ok.le
  have jQ:=r.ok.bd
  refine⟨⟨fun hn=> ?_,Nat.le_refl _,?_,fun hc=> ?_⟩,?_,fun i x nq j hj=> ?_⟩
  ·have:=r.ok.nil hn
   simp only at this⊢;omega
  ·simp only;omega
  ·simp only at hc⊢;exact r.ok.sp (by omega)
  ·simp;omega
  ·have fC:=(List.getElem?_eq_some_iff.1 nq).1
   rw[List.length_take,List.length_drop]at fC
   have hx:xs[lo+i]? =Option.some x:=by rw[List.getElem?_take,if_pos (by omega),List.getElem?_drop]at nq;exact nq
   have:=r.row (lo+i) x hx j hj
   simp only
   rw[if_neg (by omega),show s.o+lo*c+i*c+j=s.o+(lo+i)*c+j by rw[Nat.add_mul];omega]
   exact this
end Go.ay
namespace Go.Kb
open Go.ay
structure BV where
  ae:List (List UInt8)
  used:Int
  aS:Int
  bad:Bool
  deriving DecidableEq
structure CV where
  ae:Int
  size:Int
  blocks:List BV
  ops:Int
  off:Bool
  aX:List Ft
  deriving DecidableEq
def aK(l:List (Sl UInt8)):List (List UInt8):=l.map fun x=>x.xs
theorem mN(l:List (Sl UInt8)):(aK l).length=l.length:=by simp[aK]
theorem ov{l:List (Sl UInt8)}{i:Nat}{x:Sl UInt8}(h:l[i]? =some x):(aK l)[i]? =some x.xs:=by simp[aK,h]
def bv(b:Bk):BV:=⟨aK b.ae.xs,b.used,b.aS,b.bad⟩
def iE(l:List Bk):List BV:=l.map bv
theorem gD(l:List Bk):(iE l).length=l.length:=by simp[iE]
theorem lK{l:List Bk}{i:Nat}{x:Bk}(h:l[i]? =some x):(iE l)[i]? =some (bv x):=by simp[iE,h]
def cv(c:Cp):CV:=⟨c.ae,c.size,iE c.blocks.xs,c.ops,c.off,c.aX.xs⟩
def fO(rm:Sv)(lo hi:Nat):Sv:=⟨rm.nil,rm.b,if hi=lo then rm.o else rm.o+lo,hi -lo,hi -lo,rm.sp⟩
def dq(rm:Sv):Nat→List (List UInt8)→List (Sl UInt8)
  |_,[]=>[]
  |o,p::r=>⟨fO rm o (o+p.length),p⟩::dq rm (o+p.length) r
theorem tr(rm:Sv): ∀(o:Nat) (l:List (List UInt8)),aK (dq rm o l)=l
  |_,[]=>rfl
  |o,p::r=>by
   have:=tr rm (o+p.length) r
   simp only[aK,dq,List.map_cons]at this⊢
   rw[this]
theorem E6(rm:Sv): ∀(o:Nat) (l:List (List UInt8)),(dq rm o l).length=l.length
  |_,[]=>rfl
  |o,p::r=>by rw[dq,List.length_cons,List.length_cons,E6]
theorem By(rm:Sv): ∀(o:Nat) (l:List (List UInt8)) (x:Sl UInt8),x∈dq rm o l→x.sv.b=rm.b
  |_,[],_,h=>by cases h
  |o,p::r,x,h=>by
   rcases List.mem_cons.1 h with rfl|h
   ·rfl
   ·exact By rm _ r x h
theorem J7(rm:Sv): ∀(o:Nat) (l:List (List UInt8)) (p:List UInt8),dq rm o (l++[p])=dq rm o l++[⟨fO rm (o+l.flatten.length) (o+l.flatten.length+p.length),p⟩]
  |o,[],p=>by simp[dq]
  |o,q::r,p=>by
   rw[List.cons_append,dq,J7,dq]
   simp only[List.flatten_cons,List.length_append,List.cons_append,Nat.add_assoc]
theorem J8{rm:Sv}{h:Nat→Option Obj}{all:List UInt8}(hl:bW aM 1 h rm all): ∀(o:Nat) (l:List (List UInt8)),o+l.flatten.length≤all.length→(all.drop o).take l.flatten.length=l.flatten→ ∀x∈dq rm o l,bW aM 1 h x.sv x.xs
  |_,[],_,_,_,hx=>by cases hx
  |o,p::r,hb,he,x,hx=>by
   rw[List.flatten_cons,List.length_append]at hb
   rw[List.flatten_cons,List.length_append]at he
   have e1:(all.drop o).take p.length=p:=by
      have:=congrArg (List.take p.length) he
      rw[List.take_take,Nat.min_eq_left (by omega),List.take_left']at this
      ·exact this
      ·rfl
   have e2:(all.drop (o+p.length)).take r.flatten.length=r.flatten:=by
      have:=congrArg (List.drop p.length) he
      rw[List.drop_take,List.drop_drop,List.drop_left' rfl,show p.length+r.flatten.length -p.length=r.flatten.length by omega]at this
      exact this
   rcases List.mem_cons.1 hx with rfl|hx
   ·have:=hl.cut (lo:=o) (hi:=o+p.length) (by omega) (by omega)
    rw[Nat.mul_one,show o+p.length -o=p.length by omega,e1]at this
    simpa[fO]using this
   ·exact J8 hl (o+p.length) r (by omega) e2 x hx
def wQ(a:Sl (Sl UInt8)):ak:=⟨fun k=> ∃x∈a.xs,k=x.sv.b,fun h=>a.xs=[]∨ ∃rm,rm.nil=false∧a.xs=dq rm 0 (aK a.xs)∧(own aM 1 rm (aK a.xs).flatten).sat h,fun h h' e s=>by
  rcases s with s|⟨rm,h1,h2,h3⟩
  ·exact .inl s
  ·rcases List.eq_nil_or_concat a.xs with hx|⟨l,x,hx⟩
   ·exact .inl hx
   ·have hm:x∈a.xs:=by rw[hx];simp
    have hb:x.sv.b=rm.b:=By rm 0 _ x (h2▸hm)
    exact .inr ⟨rm,h1,h2,(own aM 1 rm (aK a.xs).flatten).loc h h' (fun k hk=>e k ⟨x,hm,by rw[hb];exact hk.2⟩) h3⟩⟩
def eW(a:Sl (Sl UInt8)):ak:= .two (own (cd (τ:=UInt8)) 1 a.sv a.xs) (wQ a)
theorem Ss{a:Sl (Sl UInt8)}{h:Nat→Option Obj}(s:(wQ a).sat h): ∀x∈a.xs,bW aM 1 h x.sv x.xs:=fun x hx=>by
  rcases s with s|⟨rm,h1,h2,h3⟩
  ·rw[s]at hx;cases hx
  ·refine J8 h3.1 0 (aK a.xs) (by omega) (by rw[List.drop_zero,List.take_length]) x (h2▸hx)
theorem zb{α:Type}{enc:α→Array Value}{c:Nat}{s:Sv}{xs:List α}{h:Nat→Option Obj}(hl:bW enc c h s xs)(hx:xs≠[]):(own enc c s xs).fp s.b:=
  ⟨hl.ok.some (by have:=hl.len;have:=List.length_pos_iff.2 hx;omega),rfl⟩
theorem ak.Bz{k:Nat}: ∀{es:List ak} {e:ak},e∈es→e.fp k→(ak.all es).fp k
  |_::_,_,he,hk=>(List.mem_cons.1 he).elim (fun h=> .inl (h▸hk)) fun h=> .inr (ak.Bz h hk)
theorem J9{α:Type}{e:α}: ∀{L:List α} {i:Nat},L[i]? =Option.some e→L.Perm (e::L.eraseIdx i)
  |[],i,h=>by simp at h
  |x::L,0,h=>by obtain rfl:x=e:=by simpa using h
                simp
  |x::L,i+1,h=>by
   have:=J9 (L:=L) (i:=i) (by simpa using h)
   rw[List.eraseIdx_cons_succ]
   exact(this.cons x).trans (.swap _ _ _)
theorem Mem.pick{τ:Type}{f:τ→ak}{w0 w:World}{L:List ak}{xs:List τ}{i:Nat}{x:τ}(hx:xs[i]? =some x):Mem w0 (ak.all (xs.map f)::L) w↔Mem w0 (f x::ak.all ((xs.eraseIdx i).map f)::L) w:=by
  have hp:(xs.map f).Perm (f x::(xs.eraseIdx i).map f):=by
    have:=J9 hx
    simpa using this.map f
  rw[Mem.yK]
  have e:Mem w0 (f x::ak.all ((xs.eraseIdx i).map f)::L) w↔Mem w0 (f x::((xs.eraseIdx i).map f++L)) w:=by
    have sw: ∀(a b:ak) (K:List ak),Mem w0 (a::b::K) w↔Mem w0 (b::a::K) w:=fun a b K=>⟨fun h=>h.perm (List.Perm.swap _ _ _),fun h=>h.perm (List.Perm.swap _ _ _)⟩
    rw[sw,Mem.yK]
    exact⟨fun h=>h.perm List.perm_middle,fun h=>h.perm List.perm_middle.symm⟩
  rw[e]
  exact⟨fun h=>h.perm (hp.append_right L),fun h=>h.perm (hp.append_right L).symm⟩
theorem St{w0 w:World}{L:List ak}{a:Sl Bk}(h:Mem w0 (own bX 4 a.sv a.xs::ak.all (a.xs.map fun b:Bk=>eW b.ae)::L) w):Mem w0 (fz a::L) w:=by
  have hs:=h.sat (own bX 4 a.sv a.xs) (by simp)
  have ha:=h.sat (ak.all (a.xs.map fun b:Bk=>eW b.ae)) (by simp)
  have hb: ∀x∈a.xs,(eW x.ae).sat fun k=>w.heap[k]? :=fun x hx=>ak.yL ha _ (List.mem_map_of_mem hx)
  refine Mem.freeze (es:=[own bX 4 a.sv a.xs,ak.all (a.xs.map fun b:Bk=>eW b.ae)]) a ⟨hs.1,fun x hx=>⟨(hb x hx).1.1,fun y hy=>⟨Ss (hb x hx).2.1 y hy,fun _ _=>trivial⟩⟩⟩ (fun k hk=> ?_) h
  rcases hk with⟨cH,rfl⟩|⟨x,hx,hk⟩
  ·exact⟨_,by simp,zb hs.1 cH⟩
  ·refine⟨ak.all (a.xs.map fun b:Bk=>eW b.ae),by simp,ak.Bz (List.mem_map_of_mem hx) ?_⟩
   rcases hk with⟨cH,rfl⟩|⟨y,hy,⟨_,rfl⟩|⟨_,_,hf⟩⟩
   ·exact .inl (zb (hb x hx).1.1 cH)
   ·exact .inr ⟨y,hy,rfl⟩
   ·exact hf.elim
theorem BA{τ:Type}[Deep τ][r:dz τ][Plain τ]{enc:τ→Array Value}{c:Nat}[f:fN τ enc c](hr: ∀(x:τ) k,¬r.reach x k)(hg: ∀h (x:τ),Deep.aZ h x){w0 w:World}{L:List ak}{a:Sl τ}(h:Mem w0 (own enc c a.sv a.xs::L) w):Mem w0 (fz a::L) w:=by
  have hs:=h.sat (own enc c a.sv a.xs) (by simp)
  have e1:Deep.cells (τ:=τ)=enc:=funext (fN.h (c:=c))
  have e2:Deep.c τ=c:=fN.hc (enc:=enc)
  refine Mem.Sj a ⟨by rw[e1,e2];exact hs.1,fun x _=>hg _ x⟩ (fun k hk=> ?_) h
  rcases hk with⟨cH,rfl⟩|⟨x,_,hk⟩
  ·exact zb hs.1 cH
  ·exact(hr x k hk).elim
theorem BB{w0 w:World}{L:List ak}{d:Cp}(h:Mem w0 (fz d.blocks::fz d.aX::L) w):Mem w0 (fz d::L) w:=by
  refine Mem.freeze (es:=[fz d.blocks,fz d.aX]) d ⟨h.sat (fz d.blocks) (by simp),h.sat (fz d.aX) (by simp)⟩ (fun k hk=> ?_) h
  rcases hk with hk|hk
  ·exact⟨fz d.blocks,by simp,hk⟩
  ·exact⟨fz d.aX,by simp,hk⟩
theorem Ka{w0 w:World}{L:List ak}{a:Sl Ft}(h:Mem w0 (own dj 4 a.sv a.xs::L) w):Mem w0 (fz a::L) w:=BA (fun _ _ h=>h) (fun _ _=>trivial) h
theorem u7{w0 w:World}{L:List ak}{a:Sl Int}(h:Mem w0 (own bP 1 a.sv a.xs::L) w):Mem w0 (fz a::L) w:=BA (fun _ _ h=>h) (fun _ _=>trivial) h
theorem E7{w0 w:World}{L:List ak}{a:Sl UInt8}(h:Mem w0 (own aM 1 a.sv a.xs::L) w):Mem w0 (fz a::L) w:=BA (fun _ _ h=>h) (fun _ _=>trivial) h
open Go.ay
def cN:Int:=1099511627776
def q6(b p s:Int):Bool:=decide (1≤b)&&decide (b≤32)&&decide (1≤p)&&decide (p≤16)&&decide (1≤s)&&decide (s≤256)
theorem kR{b p s:Int}:q6 b p s=true↔1≤b∧b≤32∧1≤p∧p≤16∧1≤s∧s≤256:=by
 simp only[q6,Bool.and_eq_true,decide_eq_true_eq,and_assoc]
def Kc(s:Int)(x:List UInt8):Bool:=decide ((x.length:Int)=s)
def ow(p s:Int)(b:BV):Bool:=decide ((b.ae.length:Int)=p)&&decide (0≤b.used)&&decide (b.used≤p)&&decide (0≤b.aS)&&decide (b.aS≤cN)&&b.ae.all (Kc s)
theorem eX{p s:Int}{b:BV}:ow p s b=true↔(b.ae.length:Int)=p∧0≤b.used∧b.used≤p∧0≤b.aS∧b.aS≤cN∧ ∀x∈b.ae,(x.length:Int)=s:=by
 simp only[ow,Kc,Bool.and_eq_true,decide_eq_true_eq,and_assoc,List.all_eq_true]
def aT(c:CV):Bool:=q6 c.blocks.length c.ae c.size&&decide (0≤c.ops)&&decide (c.ops≤cN)&&decide (c.aX.length≤64)&&c.blocks.all (ow c.ae c.size)
theorem eL{c:CV}:aT c=true↔q6 c.blocks.length c.ae c.size=true∧0≤c.ops∧c.ops≤cN∧c.aX.length≤64∧ ∀b∈c.blocks,ow c.ae c.size b=true:=by
 simp only[aT,Bool.and_eq_true,decide_eq_true_eq,and_assoc,List.all_eq_true]
def fu(c:CV)(block:Int):Bool:=aT c&&decide (0≤block)&&decide (block<c.blocks.length)
theorem fv{c:CV}{block:Int}:fu c block=true↔aT c=true∧0≤block∧block<c.blocks.length:=by
 simp only[fu,Bool.and_eq_true,decide_eq_true_eq,and_assoc]
def Su:BV:=⟨[],0,0,false⟩
def aj(c:CV)(block:Int):BV:=c.blocks.getD block.toNat Su
def gE(n:Int):List UInt8:=List.replicate n.toNat 255
def nD(b p s:Int):CV×Int:=if q6 b p s=true then(⟨p,s,List.replicate b.toNat ⟨List.replicate p.toNat (gE s),0,0,false⟩,0,false,[]⟩,0)else(⟨0,0,[],0,false,[]⟩,1)
def br(c:CV):Ft×Bool:=match c.aX.find? fun f=>decide (f.op=c.ops)with
 |some f=>(f,f.cut||f.fail)
 |none=>(wP,false)
def kb(f:Ft):Int:=if f.cut=true then 7 else 9
def lL(c:CV)(block mO:Int)(p:List UInt8):Bool:=fu c block&&decide (0≤mO)&&decide (mO<c.ae)&&decide ((p.length:Int)=c.size)&&decide (c.ops<cN)
theorem iF{c:CV}{block mO:Int}{p:List UInt8}:lL c block mO p=true↔fu c block=true∧0≤mO∧mO<c.ae∧(p.length:Int)=c.size∧c.ops<cN:=by
 simp only[lL,Bool.and_eq_true,decide_eq_true_eq,and_assoc]
def cV(m:UInt8)(p:List UInt8):List UInt8:=p.map fun x=>x|||m
def l8(c:CV)(p:List UInt8):List UInt8:=if(br c).2=true then cV (~~~(br c).1.mask) p else p
def eM(c:CV)(block mO:Int)(p:List UInt8):CV:=
 {c with ops:=c.ops+1,off:=(br c).2&&(br c).1.cut,blocks:=c.blocks.set block.toNat {aj c block with used:=(aj c block).used+1,ae:=(aj c block).ae.set mO.toNat (l8 c p)}}
def jz(c:CV)(block mO:Int)(p:List UInt8):Int:=
 if lL c block mO p=true then(if c.off=true then 7 else if(aj c block).bad=true∨mO≠(aj c block).used then 9 else if(br c).2=true then kb (br c).1 else 0)else 1
def dt(c:CV)(block mO:Int)(p:List UInt8):CV:=
 if lL c block mO p=true∧c.off=false∧(aj c block).bad=false∧mO=(aj c block).used then eM c block mO p else c
def mc(c:CV)(block:Int):Bool:=fu c block&&decide (c.ops<cN)&&decide ((aj c block).aS<cN)
theorem nE{c:CV}{block:Int}:mc c block=true↔fu c block=true∧c.ops<cN∧(aj c block).aS<cN:=by
 simp only[mc,Bool.and_eq_true,decide_eq_true_eq,and_assoc]
def qe(c:CV)(ps:List (List UInt8)):List (List UInt8):=if(br c).2=true then ps.map (cV (br c).1.mask)else ps.map fun _=>gE c.size
def gF(c:CV)(block:Int):CV:=
 {c with ops:=c.ops+1,off:=(br c).2&&(br c).1.cut,blocks:=c.blocks.set block.toNat {aj c block with used:=if(br c).2=true then c.ae else 0,aS:=(aj c block).aS+1,ae:=qe c (aj c block).ae}}
def dS(c:CV)(block:Int):Int:=
 if mc c block=true then(if c.off=true then 7 else if(aj c block).bad=true then 9 else if(br c).2=true then kb (br c).1 else 0)else 1
def eN(c:CV)(block:Int):CV:=if mc c block=true∧c.off=false∧(aj c block).bad=false then gF c block else c
def jR(c:CV)(block:Int):Int:=if fu c block=true then(if c.off=true then 7 else 0)else 1
def iO(c:CV)(block:Int):CV:=if jR c block=0 then{c with blocks:=c.blocks.set block.toNat {aj c block with bad:=true}}else c
def nF(c:CV)(fs:List Ft):Int:=if aT c=true∧fs.length≤64 then 0 else 1
def mP(c:CV)(fs:List Ft):CV:=if nF c fs=0 then{c with off:=false,aX:=fs}else c
theorem BC{c:CV}{block:Int}(h:fu c block=true):c.blocks[block.toNat]? =some (aj c block):=by
 obtain⟨_,h2,h3⟩:=fv.1 h
 exact n9 (by omega)
theorem ox{c:CV}{block:Int}(h:fu c block=true):ow c.ae c.size (aj c block)=true:=
 (eL.1 (fv.1 h).1).2.2.2.2 _ (List.mem_of_getElem? (BC h))
end Go.Kb
namespace Go.ay
open Go.RowKit
section
variable {α:Type} {enc:α→Array Value} {c:Nat}
theorem Sw{P:Program}{t tx ty e:TypeId}{cI:Nat}(ht:ft P t e c cI)[he:bp enc c]{w0 w:World}{L:List ak}{i:Nat}{s:Sv}{xs ys:List α}{x:Value}
  (hw:Mem w0 L w) (hi:L[i]? =some (own enc c s xs)) (hs:Src P c tx x ys.length (aJ enc ys) w) (hn:s.nil=false) (nt:s.len+ys.length≤s.cap) (jQ:s.len+ys.length≤140737488355328):
  ∃w',(Builtin.append_ #[t,tx] ty #[s.val,x]).run P w= .ok (Sv.val {s with len:=s.len+ys.length}) w'∧Mem w0 (L.set i (own enc c {s with len:=s.len+ys.length} (xs++ys))) w':=by
 obtain⟨r,mG⟩:=hw.get hi
 obtain⟨i',z,bl,aH,bB,c6,lY⟩:=ht.info
 subst bB c6
 have hlen:=r.len
 have hle:=r.ok.le
 obtain⟨gC,cs,T,fz,ei,fc,lG,la⟩:=mG hn
 have hmul:(s.len+ys.length)*i'.size≤s.cap*i'.size:=Nat.mul_le_mul_right _ nt
 have eG:(aJ enc ys).length=ys.length*i'.size:=gX ys
 have iN:s.o+s.len*i'.size+(aJ enc ys).toArray.size≤cs.size:=by
  rw[List.size_toArray,eG];rw[Nat.add_mul]at hmul;omega
 have bH:=yF (P:=P) s.b (s.o+s.len*i'.size) T fz (aJ enc ys) 0 cs w ei lG (by simpa using iN) hs.one
 have yG:(storeCells ⟨s.b,s.o+s.len*i'.size,none⟩ (aJ enc ys)).run P w= .ok () (w.setRow s.b (cT cs (s.o+s.len*i'.size) (aJ enc ys).toArray)):=by
  simpa[cT]using bH
 refine⟨w.setRow s.b (cT cs (s.o+s.len*i'.size) (aJ enc ys).toArray),?_,?_⟩
 ·
  have kM:({s with len:=s.len+ys.length}:Sv).val= .slice (some ⟨s.b,s.o,s.sp⟩) (s.len+ys.length) s.cap:=Sv.hY (s:={s with len:=s.len+ys.length}) hn
  rw[Sv.hY hn,kM,gC]
  rcases hs.kind with⟨e',hk⟩|hk<;>simp[Builtin.append_,run_underlying ht.eE,run_underlying hk,sizeOf,typeInfo,bl,hs.len,nt,hs.cells,Addr.gB,yG]
 ·
  have mH:hp (w.setRow s.b (cT cs (s.o+s.len*i'.size) (aJ enc ys).toArray)) s.b=some (.cells (cT cs (s.o+s.len*i'.size) (aJ enc ys).toArray) T fz):=setRow_heap w s.b cs _ T fz ei
  refine hw.change hi (fun k hk=>hk) (fun k hk=> ?_) (by simp[World.setRow]) ⟨rfl,rfl,rfl⟩ ⟨td ⟨(fun h=>by rw[hn]at h;cases h),nt,by simp only;omega,r.ok.sp⟩ (by simp[hlen]) mH fun k y hy j hj=> ?_,fun _=>⟨gC,_,_,_,mH,?_,by rw[mE iN];exact lG,la⟩⟩
  ·
   exact setRow_other w s.b k _ (fun e=>hk ⟨hn,e⟩)
  ·
   rw[uK iN]
   by_cases hk:k<xs.length
   ·
    rw[if_neg,←r.row k y (by rw[List.getElem?_append_left hk]at hy;exact hy) j hj]
    ·
     unfold mC;rw[ei]
    ·
     have:(k+1)*i'.size≤s.len*i'.size:=Nat.mul_le_mul_right _ (by omega)
     rw[Nat.add_mul]at this
     intro h;have:=h.1;simp only at this;omega
   ·
    rw[List.getElem?_append_right (by omega)]at hy
    have uM:=mF (enc:=enc) ys (k -xs.length) y hy j hj
    have n8:s.len*i'.size+(k -xs.length)*i'.size=k*i'.size:=by rw[←Nat.add_mul];congr 1;omega
    have bx:(k -xs.length+1)*i'.size≤ys.length*i'.size:=Nat.mul_le_mul_right _ (by have:=(List.getElem?_eq_some_iff.1 hy).1;omega)
    rw[Nat.add_mul]at bx
    rw[if_pos ⟨by simp only;omega,by rw[List.size_toArray,eG];simp only;omega⟩,←uM]
    simp only[List.getElem?_toArray]
    congr 1;omega
  ·
   rw[mE iN];exact fc
theorem Sx{P:Program}{w0 w:World}{L:List ak}{i:Nat}{s:Sv}{xs ys:List α}[he:bp enc c]{k:Nat}(hw:Mem w0 L w)(hi:L[i]? =some (own enc c s xs))(hn:s.nil=false)(hk:k+ys.length≤xs.length):
  ∃w',(storeCells ⟨s.b,s.o+k*c,none⟩ (aJ enc ys)).run P w= .ok () w'∧Mem w0 (L.set i (own enc c s (xs.take k++(ys++xs.drop (k+ys.length))))) w':=by
 obtain⟨r,mG⟩:=hw.get hi
 have hlen:=r.len
 have hle:=r.ok.le
 obtain⟨gC,cs,T,fz,ei,fc,lG,la⟩:=mG hn
 have hmul:(k+ys.length)*c≤s.cap*c:=Nat.mul_le_mul_right _ (by omega)
 have eG:(aJ enc ys).length=ys.length*c:=gX ys
 have iN:s.o+k*c+(aJ enc ys).toArray.size≤cs.size:=by
  rw[List.size_toArray,eG];rw[Nat.add_mul]at hmul;omega
 have qW: ∀v∈aJ enc ys,v.oneCell'=true:=ta ys
 have bH:=yF (P:=P) s.b (s.o+k*c) T fz (aJ enc ys) 0 cs w ei lG (by simpa using iN) qW
 have yG:(storeCells ⟨s.b,s.o+k*c,none⟩ (aJ enc ys)).run P w= .ok () (w.setRow s.b (cT cs (s.o+k*c) (aJ enc ys).toArray)):=by
  simpa[cT]using bH
 refine⟨_,yG,?_⟩
 have mH:hp (w.setRow s.b (cT cs (s.o+k*c) (aJ enc ys).toArray)) s.b=some (.cells (cT cs (s.o+k*c) (aJ enc ys).toArray) T fz):=setRow_heap w s.b cs _ T fz ei
 have nG:(xs.take k++(ys++xs.drop (k+ys.length))).length=xs.length:=by simp only[List.length_append,List.length_take,List.length_drop];omega
 refine hw.change hi (fun k hk=>hk) (fun k hk=> ?_) (by simp[World.setRow]) ⟨rfl,rfl,rfl⟩ ⟨td r.ok (by rw[nG];exact hlen) mH fun m y hy j hj=> ?_,fun _=>⟨gC,_,_,_,mH,?_,by rw[mE iN];exact lG,la⟩⟩
 ·
  exact setRow_other w s.b k _ (fun e=>hk ⟨hn,e⟩)
 ·
  rw[uK iN]
  rcases Nat.lt_or_ge m k with h1|h1
  ·
   have zd:xs[m]? =some y:=by
    rw[List.getElem?_append_left (by rw[List.length_take];omega),List.getElem?_take,if_pos h1]at hy;exact hy
   rw[if_neg,←r.row m y zd j hj]
   ·
    unfold mC;rw[ei]
   ·
    have:(m+1)*c≤k*c:=Nat.mul_le_mul_right _ (by omega)
    rw[Nat.add_mul]at this
    intro h;have:=h.1;omega
  ·
   rcases Nat.lt_or_ge m (k+ys.length)with h2|h2
   ·
    have zd:ys[m -k]? =some y:=by
     rw[List.getElem?_append_right (by rw[List.length_take];omega),List.length_take,Nat.min_eq_left (by omega),List.getElem?_append_left (by omega)]at hy;exact hy
    have uM:=mF (enc:=enc) ys (m -k) y zd j hj
    have n8:k*c+(m -k)*c=m*c:=by rw[←Nat.add_mul];congr 1;omega
    have bx:(m -k+1)*c≤ys.length*c:=Nat.mul_le_mul_right _ (by omega)
    rw[Nat.add_mul]at bx
    rw[if_pos ⟨by omega,by rw[List.size_toArray,eG];omega⟩,←uM]
    simp only[List.getElem?_toArray]
    congr 1;omega
   ·
    have zd:xs[m]? =some y:=by
     rw[List.getElem?_append_right (by rw[List.length_take];omega),List.length_take,Nat.min_eq_left (by omega),List.getElem?_append_right (by omega),List.getElem?_drop]at hy
     rw[←hy];congr 1;omega
    rw[if_neg,←r.row m y zd j hj]
    ·
     unfold mC;rw[ei]
    ·
     have:(k+ys.length)*c≤m*c:=Nat.mul_le_mul_right _ h2
     rw[Nat.add_mul]at this
     intro h;have:=h.2;rw[List.size_toArray,eG]at this;omega
 ·
  rw[mE iN];exact fc
end
section
variable {P:Program} {N:cE} {w0:World} {env:Env} {L:List ak} {l:List Oper} {Q:Exit→Act→World→Prop} {rest:List Oper} {d:Option Tmp} {ty:TypeId} {ps:String} {af:Array Edge} {gd:Option (Nat×Bool)} {K:Value→List ak→Prop}
variable {α:Type} {enc:α→Array Value} {c:Nat} {s:Sv} {xs ys:List α}
theorem Sy{t tx e:TypeId}{x y:Operand}{yv:Value}{cI i:Nat}[ht:ft P t e c cI][he:bp enc c](hx:ev env x=some s.val)(hy:ev env y=some yv)[q:fL L s enc c xs i]
  (hs: ∀w,Mem w0 L w→Src P c tx yv ys.length (aJ enc ys) w) (hn:s.nil=false) (nt:s.len+ys.length≤s.cap) (jQ:s.len+ys.length≤140737488355328) {L':List ak} [hu:fE L i (own enc c {s with len:=s.len+ys.length} (xs++ys)) L']
  (hk:K (Sv.val {s with len:=s.len+ys.length}) L'):
  ic P N w0 env L ⟨d, .call {callee:= .builtin .append,args:= #[x,y],argTypes:= #[t,tx]},ty,ps,af,gd⟩ K:=
 tm fun a w ha hw=>by
  obtain⟨w',h1,h4⟩:=Sw (ty:=ty) ht hw q.h (hs w hw) hn nt jQ
  refine⟨_,w',L',?_,by rw[←hu.h];exact h4,hk⟩
  simp[execOp,ha.ev hx,ha.ev hy,resolve,invoke,builtin,h1,Result.andThen]
theorem Sz{t tx e:TypeId}{x y:Operand}{yv:Value}{cI i:Nat}[ht:ft P t e c cI][he:bp enc c](hx:ev env x=some s.val)(hy:ev env y=some yv)[q:fL L s enc c xs i]
  (hs: ∀w,Mem w0 L w→Src P c tx yv ys.length (aJ enc ys) w) (hn:s.nil=false) (nt:s.len+ys.length≤s.cap) (jQ:s.len+ys.length≤140737488355328) {L':List ak} [hu:fE L i (own enc c {s with len:=s.len+ys.length} (xs++ys)) L']
  (hk:Sq P N w0 l Q rest (cy env d (Sv.val {s with len:=s.len+ys.length})) L') (hd:dn N d=true:=by rfl):
  Sq P N w0 l Q (⟨d, .call {callee:= .builtin .append,args:= #[x,y],argTypes:= #[t,tx]},ty,ps,af,none⟩::rest) env L:=
 JQ rfl hd (Sy hx hy hs hn nt jQ hk)
theorem Ke{D S rm:Sv}{x y:Operand}{tx fZ e:TypeId}{i k:Nat}{ys:List α}[he:bp enc c](hx:ev env x=some D.val)(lJ:D.nil=false)(mL:D.sp=none)(oo:D.b=rm.b)(qc:D.o=rm.o+k*c)(hy:ev env y=some S.val)[ht:fe P tx e c][q:fL L rm enc c xs i][hS:Hd w0 L S enc c ys](hc:0<c)(hn:rm.nil=false)(h0:0<ys.length)(hl:ys.length≤D.len)(jN:k+ys.length≤xs.length)
  {L':List ak} [hu:fE L i (own enc c rm (xs.take k++(ys++xs.drop (k+ys.length)))) L'] (hk:K (.int .i64 ys.length) L'):
  ic P N w0 env L ⟨d, .call {callee:= .builtin .copy,args:= #[x,y],argTypes:= #[tx,fZ]},ty,ps,af,gd⟩ K:=
 tm fun a w ha hw=>by
  have hs:=hS.h w hw
  have y7:=hs.some h0
  have nz:=hs.len
  have y8:=hs.ok.sp (by have:=hs.ok.le;omega)
  rw[Sv.hY lJ,mL,oo,qc]at hx
  rw[Sv.hY y7,y8]at hy
  obtain⟨w',h1,h2⟩:=Sx (P:=P) hw q.h hn jN
  rw[hu.h]at h2
  refine⟨_,w',L',?_,h2,hk⟩
  have BD:=run_loadCells_list (P:=P) w ⟨S.b,S.o,none⟩ (aJ enc ys) (fun j v hj=>by
   obtain⟨z,hz,hv⟩:=AZ hc hj
   rw[Addr.gB,qP,←hv,←hs.row _ z hz (j%c) (Nat.mod_lt _ hc)]
   congr 1
   have:=Nat.div_add_mod j c
   rw[Nat.mul_comm]at this;omega)
  rw[gX]at BD
  cases hq:P.info? e with
  |none=>have:=ht.size;simp[hq]at this
  |some i'=>
   have hi:i'.size=c:=by have:=ht.size;simpa[hq]using this
   have yr:Nat.min S.len D.len=ys.length:=by rw[nz];exact Nat.min_eq_left hl
   have fX:(Builtin.copy_ #[tx,fZ] ty #[.slice (some ⟨rm.b,rm.o+k*c,none⟩) D.len D.cap, .slice (some ⟨S.b,S.o,none⟩) S.len S.cap]).run P w= .ok (goInt ys.length) w':=by
    simp[Builtin.copy_,run_underlying ht.eE,Builtin.lenOf,Builtin.firstCells,sizeOf,typeInfo,hq,hi,yr,BD,h1]
   simp[execOp,ha.ev hx,ha.ev hy,resolve,invoke,builtin,fX,Result.andThen,goInt]
theorem SA{D S rm:Sv}{x y:Operand}{tx fZ e:TypeId}{i k:Nat}{ys:List α}[he:bp enc c](hx:ev env x=some D.val)(lJ:D.nil=false)(mL:D.sp=none)(oo:D.b=rm.b)(qc:D.o=rm.o+k*c)(hy:ev env y=some S.val)[ht:fe P tx e c][q:fL L rm enc c xs i][hS:Hd w0 L S enc c ys](hc:0<c)(hn:rm.nil=false)(h0:0<ys.length)(hl:ys.length≤D.len)(jN:k+ys.length≤xs.length)
  {L':List ak} [hu:fE L i (own enc c rm (xs.take k++(ys++xs.drop (k+ys.length)))) L'] (hk:Sq P N w0 l Q rest (cy env d (.int .i64 ys.length)) L') (hd:dn N d=true:=by rfl):
  Sq P N w0 l Q (⟨d, .call {callee:= .builtin .copy,args:= #[x,y],argTypes:= #[tx,fZ]},ty,ps,af,none⟩::rest) env L:=
 JQ rfl hd (Ke hx lJ mL oo qc hy hc hn h0 hl jN hk)
end
theorem Mem.wR{w0 w:World}{L:List ak}{e:ak}{es:List ak}(h:Mem w0 (e::ak.all es::L) w):Mem w0 (ak.all (es++[e])::L) w:=by
 have h1:Mem w0 (ak.all (e::es)::L) w:=Mem.Sk h
 rw[Mem.yK]at h1⊢
 exact h1.perm ((List.perm_append_singleton e es).symm.append_right L)
theorem Mem.BE{w0 w:World}{L:List ak}{e e':ak}(hf: ∀k,e'.fp k→e.fp k)(hs:(e.sat fun k=>w.heap[k]?)→e'.sat fun k=>w.heap[k]?)(h:Mem w0 (e::L) w):Mem w0 (e'::L) w:=by
 have hd:=List.pairwise_cons.1 h.np
 refine⟨h.below,fun x he=> ?_,fun x he k hk=> ?_,List.pairwise_cons.2 ⟨fun y hy k hk=>hd.1 y hy k (hf k hk),hd.2⟩⟩
 ·
  rcases List.mem_cons.1 he with rfl|he
  ·
   exact hs (h.sat e (by simp))
  ·
   exact h.sat x (by simp[he])
 ·
  rcases List.mem_cons.1 he with rfl|he
  ·
   exact h.jq e (by simp) k (hf k hk)
  ·
   exact h.jq x (by simp[he]) k hk
end Go.ay
namespace Go.Kb
open Go.ay
theorem Kf{w0 w:World}{L:List ak}{s rm:Sv}{l:List (List UInt8)}{xs:List (Sl UInt8)}(hx:xs=dq rm 0 l)(hn:rm.nil=false)(h:Mem w0 (own (cd (τ:=UInt8)) 1 s xs::own aM 1 rm l.flatten::L) w):Mem w0 (eW ⟨s,xs⟩::L) w:=by
 have ht:aK xs=l:=by rw[hx,tr]
 have h1:=h.perm (List.Perm.swap _ _ _)
 have h2:Mem w0 (wQ ⟨s,xs⟩::own (cd (τ:=UInt8)) 1 s xs::L) w:=Mem.BE (fun k hk=>by
  obtain⟨x,yZ,rfl⟩:=hk
  exact⟨hn,By rm 0 l x (hx▸yZ)⟩) (fun hs=> .inr ⟨rm,hn,by simp only[ht];exact hx,by simp only[ht];exact hs⟩) h1
 exact Mem.wB.2 (h2.perm (List.Perm.swap _ _ _))
theorem SB{w0 w:World}{L:List ak}{s:Sv}(h:Mem w0 (own (cd (τ:=UInt8)) 1 s []::L) w):Mem w0 (eW ⟨s,[]⟩::L) w:=by
 refine Mem.wB.2 (Mem.perm (Mem.BE (e:= .emp) (e':=wQ ⟨s,[]⟩) (fun k hk=> ?_) (fun _=> .inl rfl) (Mem.yJ.2 h)) (List.Perm.swap _ _ _))
 obtain⟨x,hx,_⟩:=hk
 cases hx
theorem SC{w0 w:World}{L:List ak}{a:Sl (Sl UInt8)}(cH:a.xs≠[])(h:Mem w0 (eW a::L) w): ∃rm:Sv,(rm.nil=false∧rm.sp=none∧a.xs=dq rm 0 (aK a.xs))∧Mem w0 (own (cd (τ:=UInt8)) 1 a.sv a.xs::own aM 1 rm (aK a.xs).flatten::L) w:=by
 have h1:=Mem.wB.1 h
 have hr:=h1.sat (wQ a) (by simp)
 rcases hr with hr|⟨rm,g1,g2,g3⟩
 ·
  exact absurd hr cH
 ·
  refine⟨rm,⟨g1,(g3.2 g1).1,g2⟩,?_⟩
  have h2:=h1.perm (List.Perm.swap _ _ _)
  obtain⟨x,l,E8⟩:=List.exists_cons_of_ne_nil cH
  have hm:x∈a.xs:=by rw[E8];simp
  have hb:x.sv.b=rm.b:=By rm 0 _ x (g2▸hm)
  exact(Mem.BE (e:=wQ a) (e':=own aM 1 rm (aK a.xs).flatten) (fun k hk=>⟨x,hm,by rw[hb];exact hk.2⟩) (fun _=>g3) h2).perm (List.Perm.swap _ _ _)
theorem BF: ∀{l:List (List UInt8)} {i:Nat} {q r:List UInt8},l[i]? =some q→r.length=q.length→(l.set i r).flatten=l.flatten.take (l.take i).flatten.length++(r++l.flatten.drop ((l.take i).flatten.length+r.length))
 |y::l,0,q,r,h,hr=>by
  obtain rfl:y=q:=by simpa using h
  simp[hr]
 |y::l,i+1,q,r,h,hr=>by
  have:=BF (l:=l) (i:=i) (q:=q) (r:=r) (by simpa using h) hr
  simp only[List.set_cons_succ,List.flatten_cons,this,List.take_succ_cons,List.length_append]
  rw[List.take_length_add_append,Nat.add_assoc,List.drop_length_add_append,List.append_assoc]
theorem BG{rm:Sv}: ∀{o:Nat} {l:List (List UInt8)} {i:Nat} {q:List UInt8},l[i]? =some q→(dq rm o l)[i]? =some ⟨fO rm (o+(l.take i).flatten.length) (o+(l.take i).flatten.length+q.length),q⟩
 |o,y::l,0,q,h=>by
  obtain rfl:y=q:=by simpa using h
  simp[dq]
 |o,y::l,i+1,q,h=>by
  have:=BG (rm:=rm) (o:=o+y.length) (l:=l) (i:=i) (q:=q) (by simpa using h)
  simp only[dq,List.getElem?_cons_succ,this,List.take_succ_cons,List.flatten_cons,List.length_append,Nat.add_assoc]
def E9(l:List (List UInt8)):Prop:=l.length≤1000000∧l.flatten.length≤1000000
theorem ze{l:List (List UInt8)}{i:Nat}{q:List UInt8}(h:l[i]? =some q):(l.take (i+1)).flatten.length=(l.take i).flatten.length+q.length:=by
 rw[List.take_add_one,h];simp
theorem zf(l:List (List UInt8))(i:Nat):(l.take i).flatten.length≤l.flatten.length:=by
 have:l.flatten=(l.take i).flatten++(l.drop i).flatten:=by rw[←List.flatten_append,List.take_append_drop]
 rw[this,List.length_append];omega
theorem SD{rm:Sv}{l:List (List UInt8)}{n i:Nat}{r q:List UInt8}(hn:n=l.length)(hr:r=(l.take i).flatten)(h:l[i]? =some q):(dq rm 0 (l.take i)++List.replicate (n -i) (⟨Sv.none,[]⟩:Sl UInt8)).set i ⟨fO rm r.length (r.length+q.length),q⟩=dq rm 0 (l.take (i+1))++List.replicate (n -(i+1)) (⟨Sv.none,[]⟩:Sl UInt8):=by
 have hi:=(List.getElem?_eq_some_iff.1 h).1
 have hl:(dq rm 0 (l.take i)).length=i:=by rw[E6,List.length_take];omega
 rw[List.set_append_right _ _ (by omega),hl,Nat.sub_self,List.take_add_one,h,show n -i=n -(i+1)+1 by omega,List.replicate_succ,List.set_cons_zero]
 simp only[Option.toList_some]
 rw[J7,hr,Nat.zero_add,List.append_assoc,List.singleton_append]
theorem mQ{w0 w:World}{L:List ak}(d:Cp)(h:Mem w0 (own bX 4 d.blocks.sv d.blocks.xs::ak.all (d.blocks.xs.map fun b:Bk=>eW b.ae)::own dj 4 d.aX.sv d.aX.xs::L) w):Mem w0 (fz d::L) w:=
 BB ((Ka (a:=d.aX) ((St h).perm (List.Perm.swap _ _ _))).perm (List.Perm.swap _ _ _))
theorem Fa{α:Type}{enc:α→Array Value}{c:Nat}{s:Sv}{xs ys:List α}{w0 w:World}{L:List ak}(e:xs.map enc=ys.map enc)(h:Mem w0 (own enc c s xs::L) w):Mem w0 (own enc c s ys::L) w:=
 Mem.BE (e:=own enc c s xs) (fun _ hk=>hk) (fun hs=>⟨⟨hs.1.ok,by have:=congrArg List.length e;simp only[List.length_map]at this;rw[←this];exact hs.1.len,fun i y hy j hj=>by
  have h1:(xs.map enc)[i]? =(ys.map enc)[i]? :=by rw[e]
  rw[List.getElem?_map,List.getElem?_map,hy]at h1
  cases hx:xs[i]?with
  |none=>rw[hx]at h1;cases h1
  |some x=>
   rw[hx]at h1
   have h2:enc x=enc y:=by simpa using h1
   have:=hs.1.row i x hx j hj
   rw[h2]at this
   exact this⟩,hs.2⟩) h
theorem BH{w0 w:World}{L:List ak}{s sp rm:Sv}{xs:List Bk}{i:Nat}{B B':Bk}{ps:List (Sl UInt8)}{l:List (List UInt8)}(hi:i<xs.length)(hp:ps.map (fun x=>x.sv)=(dq rm 0 l).map (fun x=>x.sv))(hn:rm.nil=false)(hc:bX B=bX B')(hB:B'.ae=⟨sp,dq rm 0 l⟩)
  (h:Mem w0 (own (cd (τ:=UInt8)) 1 sp ps::own aM 1 rm l.flatten::own bX 4 s (xs.set i B)::ak.all ((xs.eraseIdx i).map fun b:Bk=>eW b.ae)::L) w):Mem w0 (own bX 4 s (xs.set i B')::ak.all ((xs.set i B').map fun b:Bk=>eW b.ae)::L) w:=by
 have h1:Mem w0 (own (cd (τ:=UInt8)) 1 sp (dq rm 0 l)::own aM 1 rm l.flatten::own bX 4 s (xs.set i B)::ak.all ((xs.eraseIdx i).map fun b:Bk=>eW b.ae)::L) w:=Fa (by
  have:=congrArg (List.map fun v:Sv=>(#[v.val]:Array Value)) hp
  rw[List.map_map,List.map_map]at this
  exact this) h
 have h2:=Kf (xs:=dq rm 0 l) rfl hn h1
 rw[←hB]at h2
 have h3:=Fa (ys:=xs.set i B') (by rw[List.map_set,List.map_set,hc]) (h2.perm (List.Perm.swap _ _ _))
 have h4:Mem w0 (eW B'.ae::ak.all (((xs.set i B').eraseIdx i).map fun b:Bk=>eW b.ae)::own bX 4 s (xs.set i B')::L) w:=by
  rw[List.eraseIdx_set_eq]
  exact h3.perm ((List.Perm.swap _ _ _).trans (List.Perm.cons _ (List.Perm.swap _ _ _)))
 have h5:=(Mem.pick (f:=fun b:Bk=>eW b.ae) (xs:=xs.set i B') (i:=i) (x:=B') (by rw[List.getElem?_set_self hi])).2 h4
 exact h5.perm (List.Perm.swap _ _ _)
theorem Kg{w0 w:World}{L:List ak}{s:Sv}{xs:List Bk}{i:Nat}{B:Bk}(hB:xs[i]? =some B)(cH:B.ae.xs≠[])(h:Mem w0 (own bX 4 s xs::ak.all (xs.map fun b:Bk=>eW b.ae)::L) w):
  ∃rm:Sv,(rm.nil=false∧rm.sp=none∧B.ae.xs=dq rm 0 (aK B.ae.xs))∧Mem w0 (own (cd (τ:=UInt8)) 1 B.ae.sv B.ae.xs::own aM 1 rm (aK B.ae.xs).flatten::own bX 4 s xs::ak.all ((xs.eraseIdx i).map fun b:Bk=>eW b.ae)::L) w:=by
 have h1:=(Mem.pick (f:=fun b:Bk=>eW b.ae) hB).1 (h.perm (List.Perm.swap _ _ _))
 obtain⟨rm,hr,h2⟩:=SC cH h1
 refine⟨rm,hr,h2.perm (List.Perm.cons _ (List.Perm.cons _ (List.Perm.swap _ _ _)))⟩
end Go.Kb
namespace Go.ay
section
variable {P:Program} {N:cE} {w0:World} {env:Env} {L:List ak} {d:Option Tmp} {ty:TypeId} {ps:String} {af:Array Edge} {gd:Option (Nat×Bool)} {x y:Operand} {t u:TypeId}
theorem Kh{a b:UInt8}(hx:ev env x=some (.int .u8 a.toNat))(hy:ev env y=some (.int .u8 b.toNat)):
  Ry P N w0 env L ⟨d, .binOp .or t x y u,ty,ps,af,gd⟩ (.int .u8 (a|||b).toNat):=by
 have ha:=a.toNat_lt;have hb:=b.toNat_lt
 rw[UInt8.toNat_or]
 exact AR hx hy rfl rfl (by simp only[nb];omega) (by simp only[nb];omega)
theorem SE: ∀n,n<256→(255^^^n:Nat)=255 -n:=by decide+kernel
theorem SF{p q:Nat}(hp:p<2^nb .u8)(hq:q<2^nb .u8):Op.intBits .xor .u8 (p:Int) (q:Int)=(pure (.int .u8 ((p^^^q:Nat):Int)):Sem Value):=by
 simp only[Op.intBits,wh,BitVec.toNat_xor,BitVec.toNat_ofNat,Nat.mod_eq_of_lt (oX hp),Nat.mod_eq_of_lt (oX hq)]
 rw[oW (Nat.xor_lt_two_pow hp hq)]
theorem SG{a:UInt8}(hx:ev env x=some (.int .u8 a.toNat)):
  Ry P N w0 env L ⟨d, .unOp .xor t x,ty,ps,af,gd⟩ (.int .u8 (~~~a).toNat):=fun aa w ha _=>by
 have e:(Op.intBits .xor .u8 255 (a.toNat:Int))=(pure (.int .u8 ((~~~a).toNat:Int)):Sem Value):=by
  have h3:=a.toNat_lt
  have h4:(~~~a).toNat=255 -a.toNat:=UInt8.toNat_not a
  have h5:(255^^^a.toNat:Nat)=255 -a.toNat:=SE a.toNat h3
  have hp:(255:Nat)<2^nb .u8:=by decide
  have hq:a.toNat<2^nb .u8:=h3
  have hx:=SF hp hq
  rw[h5]at hx
  rw[h4]
  exact hx
 simp only[execOp,ha.ev hx,Op.unary,Sem.run_bind,Result.andThen]
 rw[show(if IntKind.u8.signed=true then(-1:Int)else IntKind.u8.max)=255 by decide,e]
 rfl
end
open Go.RowKit
section
variable {P:Program} {N:cE} {w0:World} {env:Env} {L:List ak} {l:List Oper} {Q:Exit→Act→World→Prop} {rest:List Oper} {d:Option Tmp} {ty:TypeId} {ps:String} {af:Array Edge} {gd:Option (Nat×Bool)} {K:Value→List ak→Prop}
variable {α:Type} {enc:α→Array Value} {c:Nat}
theorem SH{β:Type}{l:List β}{i:Nat}{z:β}(h:l[i]? =some z):l.set i z=l:=by
 obtain⟨hi,rfl⟩:=List.getElem?_eq_some_iff.1 h
 exact List.set_getElem_self hi
theorem SI{D S:Sv}{x y:Operand}{tx fZ e:TypeId}(hx:ev env x=some D.val)(hy:ev env y=some S.val)[ht:fe P tx e c][hS:Hd w0 L S enc c []](hk:K (.int .i64 0) L):
  ic P N w0 env L ⟨d, .call {callee:= .builtin .copy,args:= #[x,y],argTypes:= #[tx,fZ]},ty,ps,af,gd⟩ K:=
 tm fun a w ha hw=>by
  have hs:=hS.h w hw
  have nz:S.len=0:=hs.len
  obtain⟨ad,len,cap,e1⟩:=S.ex
  have el:len=S.len:=by
   cases hn:S.nil with
   |true=>rw[Sv.qO hn]at e1;have:=hs.ok.nil hn;cases e1;omega
   |false=>rw[Sv.hY hn]at e1;cases e1;rfl
  obtain⟨Ki,SJ,SK,e2⟩:=D.ex
  refine⟨_,w,L,?_,hw,hk⟩
  cases hq:P.info? e with
  |none=>have:=ht.size;simp[hq]at this
  |some i'=>
   rw[e1]at hy
   rw[e2]at hx
   have qf:len=0:=by omega
   have fX:(Builtin.copy_ #[tx,fZ] ty #[.slice Ki SJ SK, .slice ad len cap]).run P w= .ok (goInt 0) w:=by
    have BD: ∀v:Addr,(loadCells v 0).run P w= .ok #[] w:=fun v=>by
     have:=run_loadCells_list (P:=P) w v [] (fun j v hj=>by simp at hj)
     simpa using this
    have bH: ∀v:Addr,(storeCells v []).run P w= .ok () w:=fun v=>rfl
    cases Ki<;>cases ad<;>simp[Builtin.copy_,run_underlying ht.eE,Builtin.lenOf,Builtin.firstCells,sizeOf,typeInfo,hq,qf,BD,bH]
   simp[execOp,ha.ev hx,ha.ev hy,resolve,invoke,builtin,fX,Result.andThen,goInt]
theorem Fb{D S rm:Sv}{x y:Operand}{tx fZ e:TypeId}{i k:Nat}{xs ys:List α}[he:bp enc c](hx:ev env x=some D.val)(lJ:D.nil=false)(mL:D.sp=none)(oo:D.b=rm.b)(qc:D.o=rm.o+k*c)(hy:ev env y=some S.val)[ht:fe P tx e c][q:fL L rm enc c xs i][hS:Hd w0 L S enc c ys](hc:0<c)(hn:rm.nil=false)(hl:ys.length≤D.len)(jN:k+ys.length≤xs.length)
  {L':List ak} [hu:fE L i (own enc c rm (xs.take k++(ys++xs.drop (k+ys.length)))) L'] (hk:K (.int .i64 ys.length) L'):
  ic P N w0 env L ⟨d, .call {callee:= .builtin .copy,args:= #[x,y],argTypes:= #[tx,fZ]},ty,ps,af,gd⟩ K:=by
 by_cases h0:ys=[]
 ·
  subst h0
  have e1:xs.take k++([]++xs.drop (k+([]:List α).length))=xs:=by simp
  have e2:L'=L:=by
   rw[←hu.h,e1]
   exact SH q.h
  exact SI (c:=c) (enc:=enc) hx hy (by rw[e2]at hk;exact hk)
 ·
  exact Ke hx lJ mL oo qc hy hc hn (List.length_pos_iff.2 h0) hl jN hk
end
end Go.ay
namespace Go.Kb
open Go.ay
def dK(c:Cp):Prop:=c.blocks.xs.length≤1000000∧c.aX.xs.length≤1000000∧ ∀b∈c.blocks.xs,E9 (aK b.ae.xs)
theorem tt{α:Type}{l:List α}{i:Nat}{z:α}(h:l[i]? =some z):l.set i z=l:=by
 obtain⟨hi,rfl⟩:=List.getElem?_eq_some_iff.1 h
 exact List.set_getElem_self hi
theorem u9(l:List Bk)(i:Nat)(b:Bk):iE (l.set i b)=(iE l).set i (bv b):=by simp[iE,List.map_set]
theorem SL{zs:List Bk}{i:Nat}{z z':Bk}(h:zs[i]? =some z):((zs.take i).map fun b:Bk=>eW b.ae)++[eW z'.ae]=((zs.set i z').take (i+1)).map fun b:Bk=>eW b.ae:=by
 have hi:=(List.getElem?_eq_some_iff.1 h).1
 rw[List.take_add_one,List.getElem?_set_self hi,List.take_set_of_le (Nat.le_refl _),List.map_append]
 rfl
theorem SM{c:CV}(h: ∀f∈c.aX,f.op≠c.ops):br c=(wP,false):=by
 have:c.aX.find? (fun f=>decide (f.op=c.ops))=none:=List.find?_eq_none.2 fun f hf=>by simpa using h f hf
 rw[br,this]
theorem SN{c:CV}{i:Nat}{f:Ft}(hf:c.aX[i]? =some f)(h: ∀j g,j<i→c.aX[j]? =some g→g.op≠c.ops)(he:f.op=c.ops):br c=(f,f.cut||f.fail):=by
 have:c.aX.find? (fun f=>decide (f.op=c.ops))=some f:=by
  rw[List.find?_eq_some_iff_getElem]
  obtain⟨hi,rfl⟩:=List.getElem?_eq_some_iff.1 hf
  exact⟨by simpa using he,i,hi,rfl,fun j hj=>by
   simpa using h j (c.aX[j]'(by omega)) hj (List.getElem?_eq_getElem (by omega))⟩
 rw[br,this]
theorem Kj: ∀l:List (List UInt8),(∀x∈l,x.length≤256)→(l.map List.length).sum≤l.length*256
 |[],_=>by simp
 |x::l,hl=>by
  have h1:=Kj l fun y hy=>hl y (List.mem_cons_of_mem _ hy)
  have h2:=hl x List.mem_cons_self
  simp only[List.map_cons,List.sum_cons,List.length_cons]
  omega
theorem nH{c:Cp}(h:aT (cv c)=true):dK c:=by
 obtain⟨h1,h2,h3,h4,h5⟩:=eL.1 h
 obtain⟨s1,s2,s3,s4,s5,s6⟩:=kR.1 h1
 simp only[cv,gD]at*
 refine⟨by omega,by omega,fun b hb=> ?_⟩
 have g:=eX.1 (h5 (bv b) (List.mem_map_of_mem hb))
 simp only[bv]at g
 have hf:(aK b.ae.xs).flatten.length≤(aK b.ae.xs).length*256:=by
  rw[List.length_flatten]
  exact Kj _ fun x hx=>by have:=g.2.2.2.2.2 x hx;omega
 exact⟨by omega,by omega⟩
theorem Fc{rm:Sv}: ∀{o:Nat} {l l':List (List UInt8)},l.map List.length=l'.map List.length→(dq rm o l).map (fun x=>x.sv)=(dq rm o l').map (fun x=>x.sv)
 |_,[],[],_=>rfl
 |_,[],_::_,h=>by simp at h
 |_,_::_,[],h=>by simp at h
 |o,p::l,p'::l',h=>by
  simp only[List.map_cons,List.cons.injEq]at h
  have:=Fc (rm:=rm) (o:=o+p'.length) h.2
  simp only[dq,List.map_cons,h.1,this]
theorem SO{rm:Sv}{l:List (List UInt8)}{i:Nat}{q r:List UInt8}(h:l[i]? =some q)(hr:r.length=q.length):(dq rm 0 l).map (fun x=>x.sv)=(dq rm 0 (l.set i r)).map (fun x=>x.sv):=Fc (by
 rw[List.map_set,hr,tt]
 rw[List.getElem?_map,h];rfl)
theorem wS: ∀{l:List (List UInt8)} {i j:Nat} {q:List UInt8},l[i]? =some q→j<q.length→l.flatten[(l.take i).flatten.length+j]? =q[j]?
 |y::l,0,j,q,h,hj=>by
  obtain rfl:y=q:=by simpa using h
  simp only[List.take_zero,List.flatten_nil,List.length_nil,Nat.zero_add,List.flatten_cons]
  rw[List.getElem?_append_left hj]
 |y::l,i+1,j,q,h,hj=>by
  have:=wS (l:=l) (i:=i) (j:=j) (q:=q) (by simpa using h) hj
  simp only[List.take_succ_cons,List.flatten_cons,List.length_append]
  rw[Nat.add_assoc,List.getElem?_append_right (by omega),Nat.add_sub_cancel_left,this]
theorem Kk: ∀{l:List (List UInt8)} {i j:Nat} {q:List UInt8} {v:UInt8},l[i]? =some q→j<q.length→l.flatten.set ((l.take i).flatten.length+j) v=(l.set i (q.set j v)).flatten
 |y::l,0,j,q,v,h,hj=>by
  obtain rfl:y=q:=by simpa using h
  simp only[List.take_zero,List.flatten_nil,List.length_nil,Nat.zero_add,List.flatten_cons,List.set_cons_zero]
  rw[List.set_append_left _ _ hj]
 |y::l,i+1,j,q,v,h,hj=>by
  have:=Kk (l:=l) (i:=i) (j:=j) (q:=q) (v:=v) (by simpa using h) hj
  simp only[List.take_succ_cons,List.flatten_cons,List.length_append,List.set_cons_succ]
  rw[Nat.add_assoc,List.set_append_right _ _ (by omega),Nat.add_sub_cancel_left,this]
theorem Fe{l:List (List UInt8)}{i:Nat}{r:List UInt8}:(l.set i r).take i=l.take i:=List.take_set_of_le (Nat.le_refl _)
theorem wT{rm:Sv}{lo n:Nat}(h:0<n):(fO rm lo (lo+n)).o=rm.o+lo:=by
 simp only[fO];rw[if_neg (by omega)]
theorem BI{rm:Sv}{lo n:Nat}(hn:rm.nil=false)(hs:rm.sp=none)(hb:n≤1000000):(fO rm lo (lo+n)).Ok:=
 ⟨fun h=>absurd (hn.symm.trans h) (by decide),Nat.le_refl _,by simp only[fO];omega,fun _=>hs⟩
theorem Kl{c:CV}{x:Cp}{B:Bk}{b g:Int}{q:List UInt8}{rm:Sv}{off:Bool}(hx:cv x=c)(hB:bv B=aj c b):
  cv ⟨x.ae,x.size,⟨x.blocks.sv,x.blocks.xs.set b.toNat ⟨⟨B.ae.sv,dq rm 0 ((aK B.ae.xs).set g.toNat q)⟩,B.used+1,B.aS,B.bad⟩⟩,x.ops+1,off,x.aX⟩={c with ops:=c.ops+1,off:=off,blocks:=c.blocks.set b.toNat {aj c b with used:=(aj c b).used+1,ae:=(aj c b).ae.set g.toNat q}}:=by
 subst hx
 rw[←hB]
 simp only[cv,u9,bv,tr]
theorem SP{m:UInt8}{xs:List UInt8}{i:Nat}{z:UInt8}(h:xs[i]? =some z):(cV m (xs.take i)++xs.drop i).set i (z|||m)=cV m (xs.take (i+1))++xs.drop (i+1):=by
 have hi:=(List.getElem?_eq_some_iff.1 h).1
 have hl:(cV m (xs.take i)).length=i:=by rw[cV,List.length_map,List.length_take];omega
 rw[List.set_append_right _ _ (by omega),hl,Nat.sub_self,List.drop_eq_getElem_cons hi,List.set_cons_zero,List.take_add_one,h,cV,cV,List.map_append,List.append_assoc]
 rfl
theorem Km{m:UInt8}{xs:List UInt8}{i:Nat}(h:i<xs.length):(cV m (xs.take i)++xs.drop i)[i]? =xs[i]? :=by
 have hl:(cV m (xs.take i)).length=i:=by rw[cV,List.length_map,List.length_take];omega
 rw[List.getElem?_append_right (by omega),hl,Nat.sub_self,List.getElem?_drop,Nat.add_zero]
theorem Ff{m:UInt8}{xs:List UInt8}{i:Nat}(h:i≤xs.length):(cV m (xs.take i)++xs.drop i).length=xs.length:=by
 rw[cV,List.length_append,List.length_map,List.length_take,List.length_drop];omega
theorem Kn{T:List (List UInt8)}{g i:Nat}{q xs:List UInt8}{m z:UInt8}(hq:T[g]? =some q)(hz:xs[i]? =some z):(T.set g (cV m (xs.take (i+1))++xs.drop (i+1))).flatten=(T.set g (cV m (xs.take i)++xs.drop i)).flatten.set ((T.take g).flatten.length+i) (z|||m):=by
 have hg:=(List.getElem?_eq_some_iff.1 hq).1
 have hi:=(List.getElem?_eq_some_iff.1 hz).1
 have h1:=Kk (l:=T.set g (cV m (xs.take i)++xs.drop i)) (i:=g) (j:=i) (v:=z|||m) (List.getElem?_set_self hg) (by rw[Ff (by omega)];exact hi)
 rw[Fe]at h1
 rw[h1,List.set_set,SP hz]
def mixed(f:List UInt8→List UInt8)(T:List (List UInt8))(k:Nat):List (List UInt8):=(T.take k).map f++T.drop k
theorem Ko{f:List UInt8→List UInt8}{T:List (List UInt8)}:mixed f T 0=T:=by simp[mixed]
theorem Kq{f:List UInt8→List UInt8}{T:List (List UInt8)}{k:Nat}(h:T.length≤k):mixed f T k=T.map f:=by
 rw[mixed,List.take_of_length_le h,List.drop_eq_nil_of_le h,List.append_nil]
theorem zg{f:List UInt8→List UInt8}{T:List (List UInt8)}{k:Nat}{q:List UInt8}(h:T[k]? =some q):(mixed f T k)[k]? =some q:=by
 have hk:=(List.getElem?_eq_some_iff.1 h).1
 have hl:((T.take k).map f).length=k:=by rw[List.length_map,List.length_take];omega
 rw[mixed,List.getElem?_append_right (by omega),hl,Nat.sub_self,List.getElem?_drop,Nat.add_zero,h]
theorem Fg{f:List UInt8→List UInt8}{T:List (List UInt8)}{k:Nat}{q:List UInt8}(h:T[k]? =some q):(mixed f T k).set k (f q)=mixed f T (k+1):=by
 have hk:=(List.getElem?_eq_some_iff.1 h).1
 have hl:((T.take k).map f).length=k:=by rw[List.length_map,List.length_take];omega
 obtain⟨_,rfl⟩:=List.getElem?_eq_some_iff.1 h
 rw[mixed,List.set_append_right _ _ (by omega),hl,Nat.sub_self,List.drop_eq_getElem_cons hk,List.set_cons_zero,mixed,List.take_add_one,List.getElem?_eq_getElem hk,List.map_append,List.append_assoc]
 rfl
theorem BJ{f:List UInt8→List UInt8}{T:List (List UInt8)}{k:Nat}(hf: ∀x∈T,(f x).length=x.length)(hk:k≤T.length):((mixed f T k).take k).flatten.length=(T.take k).flatten.length:=by
 have hl:((T.take k).map f).length=k:=by rw[List.length_map,List.length_take];omega
 rw[mixed,List.take_append_of_le_length (by omega),List.take_of_length_le (by omega),List.length_flatten,List.length_flatten,List.map_map]
 congr 1
 exact List.map_congr_left fun x hx=>hf x (List.mem_of_mem_take hx)
theorem SQ{f:List UInt8→List UInt8}{T:List (List UInt8)}{k n:Nat}{q:List UInt8}(hq:T[k]? =some q)(hf: ∀x∈T,(f x).length=x.length)(he:f q=List.replicate n 255)(hn:n=q.length):(mixed f T (k+1)).flatten=(mixed f T k).flatten.take (T.take k).flatten.length++(List.replicate n 255++(mixed f T k).flatten.drop ((T.take k).flatten.length+n)):=by
 have hk:=(List.getElem?_eq_some_iff.1 hq).1
 rw[←Fg hq,BF (zg hq) (by rw[he,List.length_replicate,hn]),BJ hf (by omega),he,List.length_replicate]
theorem SR{rm:Sv}{f:List UInt8→List UInt8}{T:List (List UInt8)}(hf: ∀x∈T,(f x).length=x.length):(dq rm 0 T).map (fun x=>x.sv)=(dq rm 0 (T.map f)).map (fun x=>x.sv):=Fc (by
 rw[List.map_map]
 exact(List.map_congr_left fun x hx=>(hf x hx)).symm)
theorem SS{rm:Sv}{lo n:Nat}(hn:rm.nil=false)(hs:rm.sp=none)(h:0<n):(fO rm lo (lo+n)).val= .slice (some ⟨rm.b,rm.o+lo,none⟩) n n:=by
 rw[Sv.hY (s:=fO rm lo (lo+n)) hn,show(fO rm lo (lo+n)).sp=rm.sp from rfl,hs,wT h,show(fO rm lo (lo+n)).len=n from Nat.add_sub_cancel_left ..,show(fO rm lo (lo+n)).cap=n from Nat.add_sub_cancel_left ..]
 rfl
theorem va{c:Cp}{b:Int}:bv (c.blocks.xs.getD b.toNat ou)=aj (cv c) b:=by
 simp only[aj,cv,iE,List.getD_eq_getElem?_getD,List.getElem?_map]
 cases c.blocks.xs[b.toNat]? <;>rfl
theorem BK{c:Cp}{b:Int}(h:fu (cv c) b=true):0≤b∧b.toNat<c.blocks.xs.length:=by
 obtain⟨_,h2,h3⟩:=fv.1 h
 simp only[cv,gD]at h3
 exact⟨h2,by omega⟩
theorem Kr{c:CV}{x:Cp}{B:Bk}{b u:Int}{l:List (List UInt8)}{rm:Sv}{off:Bool}(hx:cv x=c)(hB:bv B=aj c b):
  cv ⟨x.ae,x.size,⟨x.blocks.sv,x.blocks.xs.set b.toNat ⟨⟨B.ae.sv,dq rm 0 l⟩,u,B.aS+1,B.bad⟩⟩,x.ops+1,off,x.aX⟩={c with ops:=c.ops+1,off:=off,blocks:=c.blocks.set b.toNat {aj c b with used:=u,aS:=(aj c b).aS+1,ae:=l}}:=by
 subst hx
 rw[←hB]
 simp only[cv,u9,bv,tr]
theorem SU{xs:List Bk}{i:Nat}{B B':Bk}(h:xs[i]? =some B)(hp:B'.ae=B.ae):((xs.set i B').map fun b:Bk=>eW b.ae)=xs.map fun b:Bk=>eW b.ae:=by
 rw[List.map_set,hp]
 refine tt ?_
 rw[List.getElem?_map,h];rfl
theorem SV{c:CV}{x:Cp}{B:Bk}{b:Int}(hx:cv x=c)(hB:bv B=aj c b):
  cv ⟨x.ae,x.size,⟨x.blocks.sv,x.blocks.xs.set b.toNat ⟨B.ae,B.used,B.aS,true⟩⟩,x.ops,x.off,x.aX⟩={c with blocks:=c.blocks.set b.toNat {aj c b with bad:=true}}:=by
 subst hx
 rw[←hB]
 simp only[cv,u9,bv]
theorem Fh{w0 w:World}{L:List ak}{s:Sv}{xs:List (Sl UInt8)}(h:Mem w0 (own (cd (τ:=UInt8)) 1 s xs::ak.all (xs.map fun p:Sl UInt8=>fz p)::L) w):Mem w0 (fz (⟨s,xs⟩:Sl (Sl UInt8))::L) w:=by
 have hs:=h.sat (own (cd (τ:=UInt8)) 1 s xs) (by simp)
 have ha:=h.sat (ak.all (xs.map fun p:Sl UInt8=>fz p)) (by simp)
 refine Mem.freeze (es:=[own (cd (τ:=UInt8)) 1 s xs,ak.all (xs.map fun p:Sl UInt8=>fz p)]) _ ⟨hs.1,fun x hx=>ak.yL ha (fz x) (List.mem_map_of_mem hx)⟩ (fun k hk=> ?_) h
 rcases hk with⟨cH,rfl⟩|⟨x,hx,hk⟩
 ·
  exact⟨_,by simp,zb hs.1 cH⟩
 ·
  exact⟨ak.all (xs.map fun p:Sl UInt8=>fz p),by simp,ak.Bz (List.mem_map_of_mem (f:=fun p:Sl UInt8=>fz p) hx) hk⟩
theorem Ks{w0 w:World}{L:List ak}{s:Sv}{xs:List Bk}(h:Mem w0 (own bX 4 s xs::ak.all (xs.map fun b:Bk=>fz b.ae)::L) w):Mem w0 (fz (⟨s,xs⟩:Sl Bk)::L) w:=by
 have hs:=h.sat (own bX 4 s xs) (by simp)
 have ha:=h.sat (ak.all (xs.map fun b:Bk=>fz b.ae)) (by simp)
 refine Mem.freeze (es:=[own bX 4 s xs,ak.all (xs.map fun b:Bk=>fz b.ae)]) _ ⟨hs.1,fun x hx=>ak.yL ha (fz x.ae) (List.mem_map_of_mem (f:=fun b:Bk=>fz b.ae) hx)⟩ (fun k hk=> ?_) h
 rcases hk with⟨cH,rfl⟩|⟨x,hx,hk⟩
 ·
  exact⟨_,by simp,zb hs.1 cH⟩
 ·
  exact⟨ak.all (xs.map fun b:Bk=>fz b.ae),by simp,ak.Bz (List.mem_map_of_mem (f:=fun b:Bk=>fz b.ae) hx) hk⟩
theorem Kt{w0 w:World}{L:List ak}{s:Sv}(hs:s.Ok)(hl:s.len=0)(h:Mem w0 L w):Mem w0 (fz (⟨s,[]⟩:Sl Ft)::L) w:=
 Mem.freeze (es:=[]) _ ⟨⟨hs,hl,fun i x hx=>by cases hx⟩,fun x hx=>by cases hx⟩ (fun k hk=>by
  rcases hk with⟨cH,_⟩|⟨x,hx,_⟩
  ·
   exact absurd rfl cH
  ·
   cases hx) h
theorem Ku{w0 w:World}{L:List ak}{d:Cp}(hf:d.aX=⟨Sv.none,[]⟩)(h:Mem w0 (own bX 4 d.blocks.sv d.blocks.xs::ak.all (d.blocks.xs.map fun b:Bk=>fz b.ae)::L) w):Mem w0 (fz d::L) w:=by
 have h1:=Kt (s:=Sv.none) Sv.wq rfl (Ks h)
 rw[←hf]at h1
 exact BB (h1.perm (List.Perm.swap _ _ _))
theorem Kv{zs:List Bk}{i:Nat}{z z':Bk}(h:zs[i]? =some z):((zs.take i).map fun b:Bk=>fz b.ae)++[fz z'.ae]=((zs.set i z').take (i+1)).map fun b:Bk=>fz b.ae:=by
 have hi:=(List.getElem?_eq_some_iff.1 h).1
 rw[List.take_add_one,List.getElem?_set_self hi,List.take_set_of_le (Nat.le_refl _),List.map_append]
 rfl
theorem Fi{zs:List (Sl UInt8)}{i:Nat}{z z':Sl UInt8}(h:zs[i]? =some z):((zs.take i).map fun b:Sl UInt8=>fz b)++[fz z']=((zs.set i z').take (i+1)).map fun b:Sl UInt8=>fz b:=by
 have hi:=(List.getElem?_eq_some_iff.1 h).1
 rw[List.take_add_one,List.getElem?_set_self hi,List.take_set_of_le (Nat.le_refl _),List.map_append]
 rfl
theorem BL{α β:Type}{f:α→β}{zs:List α}{i:Nat}{z z':α}(h:zs[i]? =some z):((zs.set i z').take (i+1)).map f=(zs.take i).map f++[f z']:=by
 have hi:=(List.getElem?_eq_some_iff.1 h).1
 rw[List.take_add_one,List.getElem?_set_self hi,List.take_set_of_le (Nat.le_refl _),List.map_append]
 rfl
theorem BM{b n:Nat}(h:n≤1000000):(⟨false,b,0,n,n,none⟩:Sv).Ok:=⟨fun h=>(by cases h),Nat.le_refl _,by simp only;omega,fun _=>rfl⟩
end Go.Kb
namespace Go.ay
theorem Kw{P:Program}{N:cE}{w0:World}{env:Env}{L:List ak}{Q:Exit→Act→World→Prop}{c:Code}{X:Type}{pr:X→Prop}(Lx:X→List ak)(h: ∀w,Mem w0 L w→ ∃x,pr x∧Mem w0 (Lx x) w)(hk: ∀x,pr x→Cw P N w0 Q c env (Lx x)):Cw P N w0 Q c env L:=fun a w ha hw=>by
 obtain⟨x,h1,h2⟩:=h w hw
 exact hk x h1 a w ha h2
end Go.ay
namespace Go.Kb
open Go.ay
structure ez where
 kind:Int
 id:Int
 gen:UInt64
 body:Sl UInt8
def cL(x:ez):Array Value:= #[.int .i64 x.kind, .int .i64 x.id, .int .u64 x.gen.toNat,x.body.sv.val]
instance:bp cL 4:=⟨fun _=>rfl,fun x=>by
 simp only[cL,List.all_toArray,List.all_cons,List.all_nil,Sv.one,oq,ot,Bool.and_self]⟩
instance (x:ez):gq (cL x) 4:=⟨rfl,bp.one x⟩
instance (x:ez):cm (cL x) 0 (.int .i64 x.kind):=⟨rfl⟩
instance (x:ez):cm (cL x) 1 (.int .i64 x.id):=⟨rfl⟩
instance (x:ez):cm (cL x) 2 (.int .u64 x.gen.toNat):=⟨rfl⟩
instance (x:ez):cm (cL x) 3 (x.body.sv.val):=⟨rfl⟩
instance:Deep ez where
 c:=4
 cells:=cL
 size:=bp.size
 one:=bp.one
 aZ h x:=Deep.aZ h x.body
 bT x:=Deep.bT x.body
 fM h x hs:=Deep.fM h x.body hs
 mono w w' x hg hb:=Deep.mono w w' x.body hg hb
instance {w0:World}{L:List ak}{x:ez}[q:aW w0 L x]:aW w0 L x.body:=⟨fun w hw=>(q.h w hw)⟩
instance {w0:World}{L:List ak}{kind:Int}{id:Int}{gen:UInt64}{body:Sl UInt8}[q0:aW w0 L body]:aW w0 L (ez.mk kind id gen body):=⟨fun w hw=>q0.h w hw⟩
def mR:ez:=⟨0,0,0,⟨Sv.none,[]⟩⟩
structure df where
 gen:UInt64
 at_:Sl Int
def dE(x:df):Array Value:= #[.int .u64 x.gen.toNat,x.at_.sv.val]
instance:bp dE 2:=⟨fun _=>rfl,fun x=>by
 simp only[dE,List.all_toArray,List.all_cons,List.all_nil,Sv.one,oq,ot,Bool.and_self]⟩
instance (x:df):gq (dE x) 2:=⟨rfl,bp.one x⟩
instance (x:df):cm (dE x) 0 (.int .u64 x.gen.toNat):=⟨rfl⟩
instance (x:df):cm (dE x) 1 (x.at_.sv.val):=⟨rfl⟩
instance:Deep df where
 c:=2
 cells:=dE
 size:=bp.size
 one:=bp.one
 aZ h x:=Deep.aZ h x.at_
 bT x:=Deep.bT x.at_
 fM h x hs:=Deep.fM h x.at_ hs
 mono w w' x hg hb:=Deep.mono w w' x.at_ hg hb
instance {w0:World}{L:List ak}{x:df}[q:aW w0 L x]:aW w0 L x.at_:=⟨fun w hw=>(q.h w hw)⟩
instance {w0:World}{L:List ak}{gen:UInt64}{at_:Sl Int}[q0:aW w0 L at_]:aW w0 L (df.mk gen at_):=⟨fun w hw=>q0.h w hw⟩
def kS:df:=⟨0,⟨Sv.none,[]⟩⟩
structure aA where
 live:Int
 used:Int
 aS:Int
 bad:Bool
 deriving DecidableEq
def bC(x:aA):Array Value:= #[.int .i64 x.live, .int .i64 x.used, .int .i64 x.aS, .bool x.bad]
instance:bp bC 4:=⟨fun _=>rfl,fun x=>by
 simp only[bC,List.all_toArray,List.all_cons,List.all_nil,Sv.one,oq,ot,Bool.and_self]⟩
instance (x:aA):gq (bC x) 4:=⟨rfl,bp.one x⟩
instance (x:aA):cm (bC x) 0 (.int .i64 x.live):=⟨rfl⟩
instance (x:aA):cm (bC x) 1 (.int .i64 x.used):=⟨rfl⟩
instance (x:aA):cm (bC x) 2 (.int .i64 x.aS):=⟨rfl⟩
instance (x:aA):cm (bC x) 3 (.bool x.bad):=⟨rfl⟩
def du:aA:=⟨0,0,0,false⟩
structure bU where
 ag:Cp
 at_:Sl Int
 gen:UInt64
 last:Int
def bN(x:bU):Array Value:= #[.int .i64 x.ag.ae, .int .i64 x.ag.size,x.ag.blocks.sv.val, .int .i64 x.ag.ops, .bool x.ag.off,x.ag.aX.sv.val,x.at_.sv.val, .int .u64 x.gen.toNat, .int .i64 x.last]
instance:bp bN 9:=⟨fun _=>rfl,fun x=>by
 simp only[bN,List.all_toArray,List.all_cons,List.all_nil,Sv.one,oq,ot,Bool.and_self]⟩
instance (x:bU):gq (bN x) 9:=⟨rfl,bp.one x⟩
instance (x:bU):cm (bN x) 0 (.int .i64 x.ag.ae):=⟨rfl⟩
instance (x:bU):cm (bN x) 1 (.int .i64 x.ag.size):=⟨rfl⟩
instance (x:bU):cm (bN x) 2 (x.ag.blocks.sv.val):=⟨rfl⟩
instance (x:bU):cm (bN x) 4 (.bool x.ag.off):=⟨rfl⟩
instance (x:bU):cm (bN x) 6 (x.at_.sv.val):=⟨rfl⟩
instance (x:bU):cm (bN x) 7 (.int .u64 x.gen.toNat):=⟨rfl⟩
instance (x:bU):cm (bN x) 8 (.int .i64 x.last):=⟨rfl⟩
instance (x:bU):n0 (bN x) 0 6 (aF x.ag):=⟨rfl,fun j hj=>by
 match j,hj with
 |0,_=>rfl
 |1,_=>rfl
 |2,_=>rfl
 |3,_=>rfl
 |4,_=>rfl
 |5,_=>rfl⟩
instance:Deep bU where
 c:=9
 cells:=bN
 size:=bp.size
 one:=bp.one
 aZ h x:=Deep.aZ h x.ag∧Deep.aZ h x.at_
 bT x:= .two (Deep.bT x.ag) (Deep.bT x.at_)
 fM h x hs:=⟨Deep.fM h x.ag hs.1,Deep.fM h x.at_ hs.2.1⟩
 mono w w' x hg hb:=⟨Deep.mono w w' x.ag hg.1 hb,Deep.mono w w' x.at_ hg.2 hb⟩
instance:dz bU where
 reach x k:=dz.reach x.ag k∨dz.reach x.at_ k
 congr h h' x e hg:=⟨dz.congr h h' x.ag (fun k hk=>e k (.inl hk)) hg.1,dz.congr h h' x.at_ (fun k hk=>e k (.inr hk)) hg.2⟩
instance {w0:World}{L:List ak}{x:bU}[q:aW w0 L x]:aW w0 L x.ag:=⟨fun w hw=>(q.h w hw).1⟩
instance {w0:World}{L:List ak}{x:bU}[q:aW w0 L x]:aW w0 L x.at_:=⟨fun w hw=>(q.h w hw).2⟩
instance {w0:World}{L:List ak}{ag:Cp}{at_:Sl Int}{gen:UInt64}{last:Int}[q0:aW w0 L ag][q1:aW w0 L at_]:aW w0 L (bU.mk ag at_ gen last):=⟨fun w hw=>⟨q0.h w hw,q1.h w hw⟩⟩
def kT:bU:=⟨gh,⟨Sv.none,[]⟩,0,0⟩
structure aP where
 an:bU
 beyond:Bool
def aL(x:aP):Array Value:= #[.int .i64 x.an.ag.ae, .int .i64 x.an.ag.size,x.an.ag.blocks.sv.val, .int .i64 x.an.ag.ops, .bool x.an.ag.off,x.an.ag.aX.sv.val,x.an.at_.sv.val, .int .u64 x.an.gen.toNat, .int .i64 x.an.last, .bool x.beyond]
instance (x:aP):cm (aL x) 0 (.int .i64 x.an.ag.ae):=⟨rfl⟩
instance (x:aP):cm (aL x) 1 (.int .i64 x.an.ag.size):=⟨rfl⟩
instance (x:aP):cm (aL x) 2 (x.an.ag.blocks.sv.val):=⟨rfl⟩
instance (x:aP):cm (aL x) 6 (x.an.at_.sv.val):=⟨rfl⟩
instance (x:aP):cm (aL x) 7 (.int .u64 x.an.gen.toNat):=⟨rfl⟩
instance (x:aP):cm (aL x) 8 (.int .i64 x.an.last):=⟨rfl⟩
instance (x:aP):cm (aL x) 9 (.bool x.beyond):=⟨rfl⟩
instance (x:aP):n0 (aL x) 0 9 (bN x.an):=⟨rfl,fun j hj=>by
 match j,hj with
 |0,_=>rfl
 |1,_=>rfl
 |2,_=>rfl
 |3,_=>rfl
 |4,_=>rfl
 |5,_=>rfl
 |6,_=>rfl
 |7,_=>rfl
 |8,_=>rfl⟩
instance (x:aP):n0 (aL x) 0 6 (aF x.an.ag):=⟨rfl,fun j hj=>by
 match j,hj with
 |0,_=>rfl
 |1,_=>rfl
 |2,_=>rfl
 |3,_=>rfl
 |4,_=>rfl
 |5,_=>rfl⟩
structure ie where
 w:aA
 ae:Int
 deriving DecidableEq
def dv(x:ie):Array Value:= #[.int .i64 x.w.live, .int .i64 x.w.used, .int .i64 x.w.aS, .bool x.w.bad, .int .i64 x.ae]
instance:bp dv 5:=⟨fun _=>rfl,fun x=>by
 simp only[dv,List.all_toArray,List.all_cons,List.all_nil,Sv.one,oq,ot,Bool.and_self]⟩
instance (x:ie):gq (dv x) 5:=⟨rfl,bp.one x⟩
instance (x:ie):cm (dv x) 0 (.int .i64 x.w.live):=⟨rfl⟩
instance (x:ie):cm (dv x) 1 (.int .i64 x.w.used):=⟨rfl⟩
instance (x:ie):cm (dv x) 2 (.int .i64 x.w.aS):=⟨rfl⟩
instance (x:ie):cm (dv x) 3 (.bool x.w.bad):=⟨rfl⟩
instance (x:ie):cm (dv x) 4 (.int .i64 x.ae):=⟨rfl⟩
def SW:ie:=⟨du,0⟩
end Go.Kb
namespace Go.ay
open Go.Kb
section
variable {P:Program} {N:cE} {w0:World} {env:Env} {L:List ak} {d:Option Tmp} {ty:TypeId} {ps:String} {af:Array Edge} {gd:Option (Nat×Bool)}
theorem SX{p:Nat}(h:p<2^32):4294967295^^^p=4294967295 -p:=by
 have e:(BitVec.allOnes 32^^^BitVec.ofNat 32 p).toNat=(~~~(BitVec.ofNat 32 p)).toNat:=by rw[BitVec.allOnes_xor]
 rw[BitVec.toNat_xor,BitVec.toNat_not,BitVec.toNat_allOnes,BitVec.toNat_ofNat,Nat.mod_eq_of_lt h]at e
 simpa using e
theorem Kx{x:Operand}{a:Int}{p:Nat}{t:TypeId}(hx:ev env x=some (.int .u32 a))(ea:a=(p:Int))(hp:p<2^32):
  Ry P N w0 env L ⟨d, .unOp .xor t x,ty,ps,af,gd⟩ (.int .u32 ((4294967295 -p:Nat):Int)):=fun a w ha _=>by
 subst ea
 have h1:(Op.intBits .xor .u32 4294967295 (p:Int)).run P w= .ok (.int .u32 ((4294967295 -p:Nat):Int)) w:=by
  have e2:(BitVec.ofInt 32 4294967295^^^BitVec.ofInt 32 (p:Int)).toNat=4294967295 -p:=by
   rw[wh,BitVec.toNat_xor,BitVec.toNat_ofNat,Nat.mod_eq_of_lt hp,←SX hp];rfl
  show Sem.run P (pure (Value.int .u32 (IntKind.u32.wrap ((BitVec.ofInt 32 4294967295^^^BitVec.ofInt 32 (p:Int)).toNat:Int)))) w=_
  rw[e2,oW (k:= .u32) (by show 4294967295 -p<4294967296;omega)];rfl
 have h2:Op.unary .xor (.int .u32 (p:Int))=Op.intBits .xor .u32 4294967295 (p:Int):=rfl
 simp only[execOp,ha.ev hx,h2,Sem.run_bind,h1,Sem.run_pure,Result.andThen]
theorem SY{x y:Operand}{p:Nat}{a:Int}{k':IntKind}{t u:TypeId}(hx:ev env x=some (.int .u64 a))(hy:ev env y=some (.int k' 8))(ea:a=(p:Int))(hp:p*256<2^64):
  Ry P N w0 env L ⟨d, .binOp .shl t x y u,ty,ps,af,gd⟩ (.int .u64 ((p*256:Nat):Int)):=by
 subst ea
 have h:=IT (P:=P) (N:=N) (w0:=w0) (L:=L) (d:=d) (ty:=ty) (ps:=ps) (af:=af) (gd:=gd) (t:=t) (u:=u) hx hy (by decide)
 have e:IntKind.u64.wrap ((p:Int)*2^min (Int.toNat 8) IntKind.u64.bits)=((p*256:Nat):Int):=by
  have e1:(p:Int)*2^min (Int.toNat 8) IntKind.u64.bits=((p*256:Nat):Int):=by
   rw[show(2:Int)^min (Int.toNat 8) IntKind.u64.bits=256 from by decide];omega
  rw[e1];exact oW hp
 rw[e]at h;exact h
theorem SZ{n many i:Nat}(h:i<many):(List.replicate (many -i) (0:UInt8)++be n i).set (many -1 -i) (b8 (n/256^i))=List.replicate (many -(i+1)) 0++be n (i+1):=by
 rw[List.set_append_left _ _ (by simp;omega)]
 have e:List.replicate (many -i) (0:UInt8)=List.replicate (many -(i+1)) 0++[0]:=by
  rw[show many -i=many -(i+1)+1 by omega,List.replicate_succ',]
 rw[e,List.set_append_right _ _ (by simp;omega)]
 simp only[List.length_replicate,show many -1 -i -(many -(i+1))=0 by omega,List.set_cons_zero,List.append_assoc]
 rfl
end
end Go.ay
namespace Go.Kb
open Go.ay
def cS(n:Int):UInt8:=b8 (n%256).toNat
theorem S0(n:Nat):cS (n:Int)=b8 n:=by
 unfold cS
 rw[show((n:Int)%256).toNat=n%256 by omega,I3]
theorem wU(n:Int):IntKind.u8.wrap n=((cS n).toNat:Int):=by
 unfold cS
 rw[pX];simp[IntKind.wrap,IntKind.bits,IntKind.signed];omega
def eO(r:Rt):List UInt8:=
 [if r.p.bits=128 then 1 else 0,cS r.p.len]++(List.range 16).map (fun i=>b8 (cK r.p.key i))++[b8 (r.dP.toNat/256),b8 r.dP.toNat]
theorem oy(r:Rt):(eO r).length=20:=by simp[eO]
theorem Ky(r:Rt):(eO r)[0]? =some (if r.p.bits=128 then 1 else 0):=by simp[eO]
theorem Kz(r:Rt):(eO r)[1]? =some (cS r.p.len):=by simp[eO]
theorem KA(r:Rt)(i:Nat)(h:i<16):(eO r)[2+i]? =some (b8 (cK r.p.key i)):=by
 unfold eO
 rw[List.append_assoc,List.getElem?_append_right (by simp),List.getElem?_append_left (by simp;omega)]
 simp[h]
theorem KB(r:Rt):(eO r)[18]? =some (b8 (r.dP.toNat/256)):=by simp[eO]
theorem KC(r:Rt):(eO r)[19]? =some (b8 r.dP.toNat):=by simp[eO]
theorem KD(r:Rt){wV:Array Value}(h0:wV.size=20)(hz:wV[0]? =some (.int .u8 (if r.p.bits=128 then 1 else 0:Nat))):
  (((cT (wV.setIfInBounds 1 (.int .u8 (cS r.p.len).toNat)) 2 (cn r.p.key)).setIfInBounds 18 (.int .u8 (b8 (r.dP.toNat/256)).toNat)).setIfInBounds 19 (.int .u8 (b8 r.dP.toNat).toNat))=(aJ aM (eO r)).toArray:=by
 have hs:(cT (wV.setIfInBounds 1 (.int .u8 (cS r.p.len).toNat)) 2 (cn r.p.key)).size=20:=by rw[mE (by simp[gP,h0])];simpa using h0
 refine Array.ext_getElem? fun j=> ?_
 have hf: ∀b,(eO r)[j]? =some b→(aJ aM (eO r)).toArray[j]? =some (.int .u8 b.toNat):=fun b hb=>by
  have:=mF (enc:=aM) (eO r) j b hb 0 (by decide)
  simp only[Nat.mul_one,Nat.add_zero]at this
  simpa[aM]using this
 have hk:2+(cn r.p.key).size≤(wV.setIfInBounds 1 (.int .u8 (cS r.p.len).toNat)).size:=by simp[gP,h0]
 rw[Array.getElem?_setIfInBounds,Array.getElem?_setIfInBounds]
 by_cases KE:19=j
 ·
  subst KE;rw[hf _ (KC r)];simp[hs]
 by_cases zh:18=j
 ·
  subst zh;rw[hf _ (KB r)];simp[hs]
 rw[if_neg KE,if_neg zh,uK hk,gP]
 by_cases h2:2≤j∧j<2+16
 ·
  rw[if_pos h2,lH _ _ (by omega)]
  have:=KA r (j -2) (by omega)
  rw[show 2+(j -2)=j by omega]at this
  rw[hf _ this,pX]
  have:=ob r.p.key (j -2)
  rw[Nat.mod_eq_of_lt this]
 rw[if_neg h2,Array.getElem?_setIfInBounds]
 by_cases h1:1=j
 ·
  subst h1;rw[hf _ (Kz r)];simp[h0]
 rw[if_neg h1]
 by_cases hj:j=0
 ·
  subst hj
  rw[hz,hf _ (Ky r)]
  split<;>rfl
 ·
  have e1:wV[j]? =none:=by simp;omega
  rw[e1]
  have:(aJ aM (eO r)).length=20:=by rw[gX,oy]
  simp;omega
open Go.ay
structure PV where
 kind:Int
 id:Int
 gen:Nat
 body:List UInt8
 deriving DecidableEq
def jA:PV:=⟨0,0,0,[]⟩
def cF(p:ez):PV:=⟨p.kind,p.id,p.gen.toNat,p.body.xs⟩
def me(n:Int):Bool:=decide (24≤n)&&decide (n≤256)
theorem rY{n:Int}:me n=true↔24≤n∧n≤256:=by simp only[me,Bool.and_eq_true,decide_eq_true_eq]
def dM(n:Int):Int:=if me n=true then n -16 else 0
def mS(p:PV)(n:Int):Bool:=me n&&(decide (p.kind=1)||decide (p.kind=2))&&decide (0≤p.id)&&decide (p.id<64)&&decide (p.gen<281474976710656)&&decide ((p.body.length:Int)≤dM n)
theorem vb{p:PV}{n:Int}:mS p n=true↔me n=true∧(p.kind=1∨p.kind=2)∧0≤p.id∧p.id<64∧p.gen<281474976710656∧(p.body.length:Int)≤dM n:=by
 simp only[mS,Bool.and_eq_true,Bool.or_eq_true,decide_eq_true_eq,and_assoc]
def jB(b:List UInt8):Bool:=b.all fun x=>decide (x=255)
theorem zj{b:List UInt8}:jB b=true↔ ∀x∈b,x=255:=by simp only[jB,List.all_eq_true,decide_eq_true_eq]
def je(p:PV)(n:Nat):List UInt8:=[cS p.kind,cS p.id]++be p.gen 6++be p.body.length 2++p.body++List.replicate (n -4 -10 -p.body.length) 0
def dr(p:PV)(n:Int):List UInt8×Int:=if mS p n=true then(je p n.toNat++be (l6 (je p n.toNat)) 4,0)else([],1)
def rZ(b:List UInt8):PV:=⟨(b.getD 0 0).toNat,(b.getD 1 0).toNat,de ((b.drop 2).take (8 -2)),[]⟩
def iG(b:List UInt8):Nat:=de ((b.drop 8).take (10 -8))
def lg(b:List UInt8):List UInt8:=(b.drop 0).take (b.length -4 -0)
def wW(b:List UInt8):List UInt8:=(b.drop (b.length -4)).take (b.length -(b.length -4))
def mT(b:List UInt8):List UInt8:=((lg b).drop (10+iG b)).take ((lg b).length -(10+iG b))
def vc(b:List UInt8):Bool:=b.all fun x=>decide (x=0)
theorem Fj{b:List UInt8}:vc b=true↔ ∀x∈b,x=0:=by simp only[vc,List.all_eq_true,decide_eq_true_eq]
def ph(b:List UInt8):Bool:=decide ((iG b:Int)≤dM b.length)&&mS (rZ b) b.length
def cO(b:List UInt8):PV×Int:=
 if me b.length=false then(jA,3)
 else if jB b=true then(jA,0)
 else if de (wW b)≠l6 (lg b)then(jA,4)
 else if ph b=false then(jA,2)
 else if vc (mT b)=false then(jA,2)
 else({rZ b with body:=(b.drop 10).take (10+iG b -10)},0)
theorem KF(b:List UInt8):iG b<65536:=by
 have h:=J5 ((b.drop 8).take (10 -8))
 have h2:((b.drop 8).take (10 -8)).length≤2:=by rw[List.length_take];omega
 have h3:=Nat.pow_le_pow_right (show 0<256 by decide) h2
 rw[iG];omega
theorem Fk(b:List UInt8):de ((b.drop 2).take (8 -2))<281474976710656:=by
 have h:=J5 ((b.drop 2).take (8 -2))
 have h2:((b.drop 2).take (8 -2)).length≤6:=by rw[List.length_take];omega
 have h3:=Nat.pow_le_pow_right (show 0<256 by decide) h2
 omega
def r8(b:List UInt8):ez:=⟨(b.getD 0 0).toNat,(b.getD 1 0).toNat,UInt64.ofNat (de ((b.drop 2).take (8 -2))),⟨Sv.none,[]⟩⟩
theorem KG(b:List UInt8):(UInt64.ofNat (de ((b.drop 2).take (8 -2)))).toNat=de ((b.drop 2).take (8 -2)):=by
 have:=Fk b
 rw[UInt64.toNat_ofNat'];omega
theorem KH(b:List UInt8)(s:Sv)(l:List UInt8):cF {r8 b with body:=⟨s,l⟩}={rZ b with body:=l}:=by
 simp only[cF,r8,KG];rfl
theorem Fl(b:List UInt8):cF (r8 b)=rZ b:=KH b Sv.none []
theorem S1(b:List UInt8):(lg b).length=b.length -4:=by rw[lg,List.length_take,List.length_drop];omega
theorem S2{M:Nat}{k d:UInt8}(h:2≤M):((List.replicate M (0:UInt8)).set 0 k).set 1 d=[k,d]++List.replicate (M -2) 0:=by
 obtain⟨m,rfl⟩: ∃m,M=m+2:=⟨M -2,by omega⟩
 simp[List.replicate_succ]
theorem Fm{A Y:List UInt8}{k N:Nat}(hk:k=A.length):(A++List.replicate N 0).take k++(Y++(A++List.replicate N 0).drop (k+Y.length))=A++Y++List.replicate (N -Y.length) 0:=by
 subst hk
 rw[List.take_left',List.drop_append,List.drop_eq_nil_of_le (by omega),Nat.add_sub_cancel_left,List.drop_replicate,List.nil_append,List.append_assoc]
 rfl
theorem S3{p:PV}{n:Nat}(h:p.body.length+14≤n):(je p n).length=n -4:=by
 simp only[je,List.length_append,ia,List.length_replicate,List.length_cons,List.length_nil];omega
theorem Fo(b:List UInt8):(cO b).1.body.length≤65536:=by
 have h:=KF b
 rw[cO]
 split
 ·
  simp[jA]
 ·
  split
  ·
   simp[jA]
  ·
   split
   ·
    simp[jA]
   ·
    split
    ·
     simp[jA]
    ·
     split
     ·
      simp[jA]
     ·
      simp only[List.length_take];omega
open Go.ay
structure RV where
 gen:Nat
 at_:List Int
 deriving DecidableEq
def gG:RV:=⟨0,[]⟩
def dg(r:df):RV:=⟨r.gen.toNat,r.at_.xs⟩
def iP(n:Int):Int:=min 64 (dM n/2)
def vd(x:Int):Bool:=decide (0≤x)&&decide (x≤65535)
theorem zk{x:Int}:vd x=true↔0≤x∧x≤65535:=by simp only[vd,Bool.and_eq_true,decide_eq_true_eq]
def lM(r:RV)(n:Int):Bool:= !decide (dM n=0)&&decide (r.gen<281474976710656)&&decide ((r.at_.length:Int)≤iP n)&&r.at_.all vd
theorem tu{r:RV}{n:Int}:lM r n=true↔dM n≠0∧r.gen<281474976710656∧(r.at_.length:Int)≤iP n∧ ∀x∈r.at_,vd x=true:=by
 simp only[lM,Bool.and_eq_true,Bool.not_eq_true',decide_eq_true_eq,decide_eq_false_iff_not,and_assoc,List.all_eq_true,ne_eq]
def pj(b:List UInt8)(i:Nat):Int:=((qT (b.getD (2*i) 0) (b.getD (2*i+1) 0)).toNat:Int)
def nI(b:List UInt8):List Int:=(List.range (b.length/2)).map (pj b)
def r9(p:PV):Bool:=decide (p.kind=2)&&decide (p.body.length%2=0)&&decide (p.id=max 0 ((p.body.length/2:Nat) -1:Int))
def bw(b:List UInt8):RV×Int:=
 if(cO b).2≠0 then(gG,(cO b).2)
 else if(cO b).1.kind=0 then(gG,6)
 else if r9 (cO b).1=false then(gG,2)
 else(⟨(cO b).1.gen,nI (cO b).1.body⟩,0)
def BN(x:Int):List UInt8:=[cS (x/256),cS x]
def gw(l:List Int):List UInt8:=(l.map BN).flatten
def cj(r:RV)(n:Int):List UInt8×Int:=if lM r n=true then dr ⟨2,max 0 ((r.at_.length:Int) -1),r.gen,gw r.at_⟩ n else([],1)
theorem S4{b:List UInt8}{i:Nat}(h:i<b.length/2):(nI b).take (i+1)=(nI b).take i++[pj b i]:=by
 rw[List.take_add_one,nI,List.getElem?_map,List.getElem?_range h];rfl
theorem BO(b:List UInt8):(nI b).length=b.length/2:=by simp[nI]
theorem S5{l:List Int}{i:Nat}{x:Int}(h:l[i]? =some x):gw (l.take (i+1))=gw (l.take i)++BN x:=by
 simp[gw,List.take_add_one,h]
theorem wX(l:List Int):(gw l).length=2*l.length:=by
 induction l with
 |nil=>rfl
 |cons x l ih=>
  have:gw (x::l)=BN x++gw l:=by simp[gw]
  rw[this,List.length_append,ih]
  simp only[BN,List.length_cons,List.length_nil];omega
structure NS where
 at_:Int
 new:RV
 found:Bool
 blank:Bool
 deriving DecidableEq
def ve(s:NS)(i:Nat)(b:List UInt8):NS:=
 if(bw b).2=0∧(s.found=false∨s.new.gen≤(bw b).1.gen)then⟨i,(bw b).1,true,s.blank&&jB b⟩else{s with blank:=s.blank&&jB b}
def dk(l:List (List UInt8)):Nat→NS
 |0=>⟨0,gG,false,true⟩
 |k+1=>ve (dk l k) k (l.getD k [])
def fw(l:List (List UInt8)):Int×RV×Int:=
 if(dk l l.length).found=true then((dk l l.length).at_,(dk l l.length).new,0)else if(dk l l.length).blank=true then(0,gG,6)else(0,gG,2)
theorem KI{l:List (List UInt8)}{i:Nat}{b:List UInt8}(hb:l[i]? =some b)(h:(bw b).2=0∧((dk l i).found=false∨(dk l i).new.gen≤(bw b).1.gen)):dk l (i+1)=⟨i,(bw b).1,true,(dk l i).blank&&jB b⟩:=by
 rw[dk,show l.getD i []=b by simp[List.getD,hb],ve,if_pos h]
theorem KJ{l:List (List UInt8)}{i:Nat}{b:List UInt8}(hb:l[i]? =some b)(h: ¬((bw b).2=0∧((dk l i).found=false∨(dk l i).new.gen≤(bw b).1.gen))):dk l (i+1)={dk l i with blank:=(dk l i).blank&&jB b}:=by
 rw[dk,show l.getD i []=b by simp[List.getD,hb],ve,if_neg h]
open Go.ay
structure VV where
 ag:CV
 at_:List Int
 gen:Nat
 last:Int
 deriving DecidableEq
def S6:CV:=⟨0,0,[],0,false,[]⟩
def ke:VV:=⟨S6,[],0,0⟩
def vv(v:bU):VV:=⟨cv v.ag,v.at_.xs,v.gen.toNat,v.last⟩
def fx(c:CV):Bool:=aT c&&decide (4≤(c.blocks.length:Int))&&decide (2≤c.ae)&&decide (24≤c.size)
theorem eo{c:CV}:fx c=true↔aT c=true∧4≤(c.blocks.length:Int)∧2≤c.ae∧24≤c.size:=by simp only[fx,Bool.and_eq_true,decide_eq_true_eq,and_assoc]
def bD(c:CV)(k:Int):List UInt8:=(aj c (k/c.ae)).ae.getD (k%c.ae).toNat []
def jS(c:CV)(k:Int):Bool:=decide (2≤k/c.ae)&&decide (k/c.ae<(c.blocks.length:Int))&&decide (k%c.ae<(aj c (k/c.ae)).used)
theorem mU{c:CV}{k:Int}:jS c k=true↔2≤k/c.ae∧k/c.ae<(c.blocks.length:Int)∧k%c.ae<(aj c (k/c.ae)).used:=by simp only[jS,Bool.and_eq_true,decide_eq_true_eq,and_assoc]
def BP(p:PV×Int)(id:Int):Bool:=decide (p.2=0)&&decide (p.1.kind=1)&&decide (p.1.id=id)
def mf(c:CV)(id n:Int):Bool:=jS c (n -1)&&BP (cO (bD c (n -1))) id
theorem S7(c:CV):{mP c c.aX with off:=c.off}=c:=by
 rw[mP];split<;>rfl
open Go.ay
def qg(c:CV)(l:List Int)(i:Nat):Bool:=decide (l.getD i 0=0)||(!(l.take i).contains (l.getD i 0)&&mf c (i:Int) (l.getD i 0))
def q7(c:CV)(l:List Int):Bool:=(List.range l.length).all (qg c l)
theorem BQ{c:CV}{l:List Int}:q7 c l=true↔ ∀i,i<l.length→qg c l i=true:=by simp only[q7,List.all_eq_true,List.mem_range]
def jT(l:List Int)(i:Nat):Int→Option Unit:=fun x=>if x≠0∧x∈l.take i then some ()else none
theorem zl{l:List Int}{i:Nat}{x:Int}:(jT l i x).isSome=decide (x≠0∧x∈l.take i):=by
 unfold jT;split<;>simp_all
theorem KK{l:List Int}:(fun _=>none)=jT l 0:=by
 funext x;simp[jT]
theorem KL{l:List Int}{i:Nat}(h:l[i]? =some 0):jT l (i+1)=jT l i:=by
 funext x
 unfold jT
 rw[List.take_add_one,h]
 by_cases hx:x=0
 ·
  simp[hx]
 ·
  simp[hx]
theorem KM{l:List Int}{i:Nat}{y:Int}(h:l[i]? =some y)(hy:y≠0):(fun z=>if z=y then some ()else jT l i z)=jT l (i+1):=by
 funext x
 unfold jT
 rw[List.take_add_one,h]
 by_cases hx:x=y
 ·
  subst hx;simp[hy]
 ·
  simp[hx]
theorem oz{l:List Int}{i:Nat}{y:Int}(h:l[i]? =some y):l.getD i 0=y:=by simp[List.getD,h]
def ff(l:List (Sl (Sl UInt8))):List (Sl UInt8):=(l.map Sl.xs).flatten
theorem BR{l:List (Sl (Sl UInt8))}{i:Nat}{x:Sl (Sl UInt8)}(h:l[i]? =some x):ff (l.take (i+1))=ff (l.take i)++x.xs:=by
 rw[ff,List.take_add_one,h];simp[ff]
theorem S8(l:List (Sl (Sl UInt8)))(i:Nat):(ff (l.take i)).length≤(ff l).length:=by
 have e:ff l=ff (l.take i)++ff (l.drop i):=by
  unfold ff
  rw[←List.flatten_append,←List.map_append,List.take_append_drop]
 rw[e,List.length_append];omega
class KN(w0:World)(l:List (Sl UInt8)):Prop where
 h: ∀y∈l,Deep.aZ (hp w0) y
instance aW.row{w0:World}{L:List ak}{x:Sv}{l:List (Sl UInt8)}{i:Nat}[q:fL L x (cd (τ:=UInt8)) 1 l i][m:KN w0 l]:aW w0 L (⟨x,l⟩:Sl (Sl UInt8)):=
 ⟨fun w hw=>⟨(hw.get q.h).1,fun y hy=>Deep.mono w0 w y (m.h y hy) hw.below⟩⟩
open Go.ay
def bL(c:CV):Int×RV×Int:=fw ((aj c 0).ae++(aj c 1).ae)
def lh(c:CV):Bool:=decide ((bL c).1%c.ae<(aj c ((bL c).1/c.ae)).used)&&q7 c (bL c).2.1.at_
def bF(c:CV):VV×Int:=
 if fx c=false then(ke,1)
 else if c.off=true then(ke,7)
 else if(bL c).2.2≠0 then(ke,(bL c).2.2)
 else if lh c=false then(ke,2)
 else(⟨c,(bL c).2.1.at_,(bL c).2.1.gen,(bL c).1/c.ae⟩,0)
theorem KO(l:List (List UInt8)): ∀k,k≤l.length→(dk l k).at_=0∨(0≤(dk l k).at_∧(dk l k).at_<k)
 |0,_=> .inl rfl
 |k+1,h=>by
  have:=KO l k (by omega)
  rw[dk,ve]
  split
  ·
   exact .inr ⟨by simp only;omega,by simp only;omega⟩
  ·
   simp only;omega
theorem Fp{l:List (List UInt8)}(h:0<l.length):0≤(fw l).1∧(fw l).1<l.length:=by
 have:=KO l l.length (Nat.le_refl _)
 rw[fw]
 split
 ·
  simp only;omega
 ·
  split<;>(simp only;omega)
theorem S9(b:List UInt8): ∀x∈nI b,0≤x∧x≤65535:=by
 intro x hx
 obtain⟨i,_,rfl⟩:=List.mem_map.1 hx
 have:=(qT (b.getD (2*i) 0) (b.getD (2*i+1) 0)).toNat_lt
 simp only[pj];omega
theorem Ta(b:List UInt8): ∀x∈(bw b).1.at_,0≤x∧x≤65535:=by
 rw[bw]
 split
 ·
  simp[gG]
 ·
  split
  ·
   simp[gG]
  ·
   split
   ·
    simp[gG]
   ·
    exact S9 _
theorem KP(l:List (List UInt8)): ∀k,∀x∈(dk l k).new.at_,0≤x∧x≤65535
 |0=>by simp[dk,gG]
 |k+1=>by
  have:=KP l k
  rw[dk,ve]
  split
  ·
   exact Ta _
  ·
   exact this
theorem KQ(l:List (List UInt8)): ∀x∈(fw l).2.1.at_,0≤x∧x≤65535:=by
 rw[fw]
 split
 ·
  exact KP _ _
 ·
  split<;>simp[gG]
theorem Fq(a b:Sl (Sl UInt8)):aK (ff [a,b])=aK a.xs++aK b.xs:=by simp[aK,ff]
theorem Fs{c:Cp}{i:Nat}{B:Bk}(h:c.blocks.xs[i]? =some B):aj (cv c) (i:Int)=bv B:=by
 rw[←va];simp[List.getD,h]
theorem Tb(b:List UInt8):(bw b).1.at_.length≤65536:=by
 have h:=Fo b
 rw[bw]
 split
 ·
  simp[gG]
 ·
  split
  ·
   simp[gG]
  ·
   split
   ·
    simp[gG]
   ·
    simp only[BO];omega
theorem KR(l:List (List UInt8)): ∀k,(dk l k).new.at_.length≤65536
 |0=>by simp[dk,gG]
 |k+1=>by
  have:=KR l k
  rw[dk,ve]
  split
  ·
   exact Tb _
  ·
   exact this
theorem Tc(l:List (List UInt8)):(fw l).2.1.at_.length≤65536:=by
 rw[fw]
 split
 ·
  exact KR _ _
 ·
  split<;>simp[gG]
theorem KS(c:CV):(bF c).1.at_.length≤65536:=by
 have h:=Tc ((aj c 0).ae++(aj c 1).ae)
 rw[bF]
 split
 ·
  simp[ke]
 ·
  split
  ·
   simp[ke]
  ·
   split
   ·
    simp[ke]
   ·
    split
    ·
     simp[ke]
    ·
     exact h
theorem Fu{c:CV}(h:(bF c).2=0):fx c=true:=by
 cases hb:fx c with
 |true=>rfl
 |false=>rw[bF,if_pos hb]at h;cases h
def kU(x:VV):Bool:=decide ((bF {x.ag with off:=false}).2=0)&&decide ((bF {x.ag with off:=false}).1.gen=x.gen)&&decide ((bF {x.ag with off:=false}).1.last=x.last)&&decide ((bF {x.ag with off:=false}).1.at_=x.at_)
theorem Td{w0 w:World}{L:List ak}(h:Mem w0 L w):Mem w0 (fz gh::L) w:=
 BB (d:=gh) (Mem.freeze (es:=[]) _ ⟨bW.nil _ _ _,fun x hx=>by cases hx⟩ (fun k hk=>by
  rcases hk with⟨cH,_⟩|⟨x,hx,_⟩
  ·
   exact absurd rfl cH
  ·
   cases hx) (Kt (s:=Sv.none) Sv.wq rfl h))
class KT(a:Cp)(b:outParam Cp):Prop where
 h:a=b
instance aW.acf{w0:World}{L:List ak}{v:bU}{c:Cp}[e:KT v.ag c][q1:aW w0 L c][q2:aW w0 L v.at_]:aW w0 L v:=
 ⟨fun w hw=>⟨by rw[e.h];exact q1.h w hw,q2.h w hw⟩⟩
def jC(c:CV)(n:Int):List UInt8:=if(cO (bD c (n -1))).2=0 then(cO (bD c (n -1))).1.body else[]
open Go.ay
theorem Fv{c:CV}(h:(bF c).2=0):fx c=true∧lh c=true∧bF c=(⟨c,(bL c).2.1.at_,(bL c).2.1.gen,(bL c).1/c.ae⟩,0):=by
 have hb:=Fu h
 by_cases h1:c.off=true
 ·
  rw[bF,if_neg (by rw[hb];simp),if_pos h1]at h;cases h
 ·
  by_cases h2:(bL c).2.2≠0
  ·
   rw[bF,if_neg (by rw[hb];simp),if_neg h1,if_pos h2]at h;exact absurd h h2
  ·
   cases h3:lh c with
   |false=>rw[bF,if_neg (by rw[hb];simp),if_neg h1,if_neg h2,if_pos h3]at h;cases h
   |true=>exact⟨hb,rfl,by rw[bF,if_neg (by rw[hb];simp),if_neg h1,if_neg h2,if_neg (by rw[h3];simp)]⟩
theorem BS{x:VV}(h:kU x=true):aT x.ag=true∧q7 x.ag x.at_=true∧ ∀y∈x.at_,0≤y∧y≤65535:=by
 simp only[kU,Bool.and_eq_true,decide_eq_true_eq]at h
 obtain⟨⟨⟨h1,h2⟩,h3⟩,h4⟩:=h
 obtain⟨hb,hl,hf⟩:=Fv h1
 rw[hf]at h4
 simp only at h4
 simp only[lh,Bool.and_eq_true,decide_eq_true_eq]at hl
 rw[h4]at hl
 refine⟨(eo.1 hb).1,hl.2,?_⟩
 rw[←h4]
 exact KQ _
theorem KU{x:VV}(h:kU x=true){i:Nat}{y:Int}(hy:x.at_[i]? =some y)(h0:y≠0):1≤y∧y≤1000000∧jS x.ag (y -1)=true:=by
 obtain⟨h1,h2,h3⟩:=BS h
 have hr:=h3 y (List.mem_of_getElem? hy)
 have hp:=BQ.1 h2 i (List.getElem?_eq_some_iff.1 hy).1
 rw[qg,oz hy]at hp
 simp only[Bool.or_eq_true,decide_eq_true_eq,Bool.and_eq_true]at hp
 rcases hp with hp|hp
 ·
  exact absurd hp h0
 ·
  have hn:=hp.2
  rw[mf,Bool.and_eq_true]at hn
  exact⟨by omega,by omega,hn.1⟩
open Go.ay
def oA(l:List Int)(j:Nat):Bool:=decide (l.getD j 0≠0)&& !(l.take j).contains (l.getD j 0)
def mV(ae:Int)(l:List Int)(k i:Nat):Nat:=((List.range k).filter fun j=>oA l j&&decide ((l.getD j 0 -1)/ae=(i:Int)+2)).length
def q8(b:BV)(live:Nat):aA:=⟨live,b.used,b.aS,b.bad⟩
def jD(c:CV)(l:List Int)(k:Nat):List aA:=(List.range (c.blocks.length -2)).map fun i:Nat=>q8 (aj c ((i:Int)+2)) (mV c.ae l k i)
def iH(c:CV)(l:List Int):List aA:=jD c l l.length
theorem wY(c:CV)(l:List Int)(k:Nat):(jD c l k).length=c.blocks.length -2:=by simp[jD]
theorem BT(ae:Int)(l:List Int)(k i:Nat):mV ae l (k+1) i=mV ae l k i+(if oA l k&&decide ((l.getD k 0 -1)/ae=(i:Int)+2)then 1 else 0):=by
 rw[mV,List.range_succ,List.filter_append,List.length_append,mV]
 congr 1
 simp only[List.filter_cons,List.filter_nil]
 split<;>rfl
theorem Te{c:CV}{l:List Int}{k:Nat}(h:oA l k=false):jD c l (k+1)=jD c l k:=by
 refine List.map_congr_left fun i _=> ?_
 rw[BT,h];simp
theorem Tf{l:List Int}{i:Nat}{y:Int}(h:l[i]? =some y)(hy:y≠0∧y∈l.take i):jT l (i+1)=jT l i:=by
 funext x
 unfold jT
 rw[List.take_add_one,h]
 by_cases hx:x=y
 ·
  subst hx;simp[hy.1,hy.2]
 ·
  simp[hx]
theorem Tg{c:CV}{l:List Int}{k i:Nat}{x:aA}(h:oA l k=true)(hi:(l.getD k 0 -1)/c.ae=(i:Int)+2)(hx:(jD c l k)[i]? =some x):jD c l (k+1)=(jD c l k).set i {x with live:=x.live+1}:=by
 have fC:i<c.blocks.length -2:=by have:=(List.getElem?_eq_some_iff.1 hx).1;rwa [wY]at this
 have jU:x=q8 (aj c ((i:Int)+2)) (mV c.ae l k i):=by
  rw[jD,List.getElem?_map,List.getElem?_range fC]at hx
  exact(Option.some.inj hx).symm
 refine List.ext_getElem? fun j=> ?_
 rw[List.getElem?_set]
 by_cases hj:i=j
 ·
  subst hj
  rw[if_pos rfl,if_pos (by rw[wY];exact fC),jD,List.getElem?_map,List.getElem?_range fC,Option.map_some,BT,h,hi,jU]
  simp[q8]
 ·
  rw[if_neg hj,jD,jD,List.getElem?_map,List.getElem?_map]
  rcases Nat.lt_or_ge j (c.blocks.length -2)with iZ|iZ
  ·
   rw[List.getElem?_range iZ,Option.map_some,Option.map_some,BT,h,hi]
   simp only[Bool.true_and]
   rw[decide_eq_false (by omega)];simp
  ·
   rw[List.getElem?_eq_none (by simpa using iZ)];rfl
def aw(l:List (Sl Int)):List Int:=(l.map Sl.xs).flatten
theorem KV{l:List (Sl Int)}{i:Nat}{x:Sl Int}(h:l[i]? =some x):aw (l.take (i+1))=aw (l.take i)++x.xs:=by
 rw[aw,List.take_add_one,h];simp[aw]
theorem Th{l:List (Sl Int)}{i j:Nat}{x:Sl Int}{y:Int}(h:l[i]? =some x)(hy:x.xs[j]? =some y):(aw l)[(aw (l.take i)).length+j]? =some y:=by
 have hj:=(List.getElem?_eq_some_iff.1 hy).1
 have e:aw l=aw (l.take (i+1))++aw (l.drop (i+1)):=by
  unfold aw
  rw[←List.flatten_append,←List.map_append,List.take_append_drop]
 rw[e,KV h,List.getElem?_append_left (by rw[List.length_append];omega),List.getElem?_append_right (by omega),Nat.add_sub_cancel_left,hy]
def qh(c:CV)(l:List Int):Prop:=(aT c=true∧l.length≤1000000)∧2≤c.blocks.length∧ ∀n∈l,n=0∨(1≤n∧n≤1000000∧2≤(n -1)/c.ae∧(n -1)/c.ae<(c.blocks.length:Int))
theorem Ti(c:CV)(l:List Int):jD c l 0=(List.range (c.blocks.length -2)).map fun i:Nat=>q8 (aj c ((i:Int)+2)) 0:=by
 refine List.map_congr_left fun i _=> ?_
 simp[mV]
theorem KW(ae:Int)(l:List Int)(k i:Nat):mV ae l k i≤k:=by
 rw[mV]
 exact Nat.le_trans (List.length_filter_le _ _) (by simp)
theorem Tj{c:CV}{l:List Int}{k i:Nat}{z:aA}(h:(jD c l k)[i]? =some z):0≤z.live∧z.live≤k:=by
 rw[jD,List.getElem?_map,Option.map_eq_some_iff]at h
 obtain⟨j,_,rfl⟩:=h
 have:=KW c.ae l k j
 simp only[q8];omega
open Go.ay
def tv(a b:Int):Int:=if a<b then -1 else if b<a then 1 else 0
def nJ(p:Int)(x:aA):Bool:= !x.bad&&decide (x.used<p)
def mg(x:aA):Bool:= !x.bad&&decide (x.live=0)&&decide (0<x.used)
def vf(p:Int)(x:aA):Bool:=if x.bad=true then decide (0<x.live)else decide (x.used=p)&&decide (0<x.live)&&decide (x.live<p)
def BU(a b:aA):Int:=tv b.used a.used
def sa(a b:aA):Int:=tv a.aS b.aS
def Fw(a b:aA):Int:=tv a.live b.live
def wZ(a b:aA):Int:=if a.bad=b.bad then 0 else if a.bad=true then -1 else 1
def tw(p:Int)(x:aA):Bool:=decide (0≤x.live)&&decide (x.live≤x.used)&&decide (x.used≤p)&&decide (0≤x.aS)&&decide (x.aS≤cN)
theorem pn{p:Int}{x:aA}:tw p x=true↔0≤x.live∧x.live≤x.used∧x.used≤p∧0≤x.aS∧x.aS≤cN:=by
 simp only[tw,Bool.and_eq_true,decide_eq_true_eq,and_assoc]
def ky(l:List aA)(p:Int):Bool:=decide (1≤(l.length:Int))&&decide ((l.length:Int)≤32)&&decide (1≤p)&&decide (p≤16)&&l.all (tw p)
theorem qi{l:List aA}{p:Int}:ky l p=true↔1≤(l.length:Int)∧(l.length:Int)≤32∧1≤p∧p≤16∧ ∀x∈l,tw p x=true:=by
 simp only[ky,Bool.and_eq_true,decide_eq_true_eq,and_assoc,List.all_eq_true]
def qj(a b:aA):List (aA→aA→Int)→Bool
 |[]=>false
 |o::r=>if o a b≠0 then decide (o a b<0)else qj a b r
def w3(l:List aA)(dU:aA→Bool)(os:List (aA→aA→Int))(i:Nat)(s:Int×Bool):Int×Bool:=
 if dU (l.getD i du)=true∧(s.2=false∨qj (l.getD i du) (l.getD s.1.toNat du) os=true)then((i:Int),true)else s
def gY(l:List aA)(dU:aA→Bool)(os:List (aA→aA→Int)):Nat→Int×Bool
 |0=>(0,false)
 |k+1=>w3 l dU os k (gY l dU os k)
def fH(l:List aA)(p:Int)(dU:aA→Bool)(os:List (aA→aA→Int)):Int×Bool:=
 if ky l p=true then gY l dU os l.length else(0,false)
def eY(l:List aA)(p:Int):Int×Bool:=fH l p (nJ p) [BU,sa]
def eZ(l:List aA)(p:Int):Int×Bool:=fH l p mg [sa]
def kz(l:List aA)(p:Int):Int×Bool:=fH l p (vf p) [wZ,Fw,sa]
def mh(p:Int)(x:aA):Int:=if mg x=true then p else if nJ p x=true then p -x.used else 0
def mi:List Int→Int
 |[]=>0
 |x::r=>x+mi r
def zm(l:List aA)(p:Int):Int:=if ky l p=true then mi (l.map (mh p))else 0
theorem Tk(a b:List Int):mi (a++b)=mi a+mi b:=by
 induction a with
 |nil=>simp[mi]
 |cons x r ih=>simp only[List.cons_append,mi,ih];omega
theorem Fx(l:List aA)(dU:aA→Bool)(os:List (aA→aA→Int)): ∀k,0≤(gY l dU os k).1∧(gY l dU os k).1≤k∧((gY l dU os k).2=true→(gY l dU os k).1<k∧dU (l.getD (gY l dU os k).1.toNat du)=true)
 |0=>⟨by simp[gY],by simp[gY],fun h=>by simp[gY]at h⟩
 |k+1=>by
  obtain⟨h1,h2,h3⟩:=Fx l dU os k
  rw[gY,w3]
  split
  ·
   rename_i h
   exact⟨by simp only;omega,by simp only;omega,fun _=>⟨by simp only;omega,by simpa using h.1⟩⟩
  ·
   exact⟨h1,by omega,fun h=>⟨by have:=(h3 h).1;omega,(h3 h).2⟩⟩
theorem KX{l:List aA}{dU:aA→Bool}{os:List (aA→aA→Int)}: ∀{k},(gY l dU os k).2=false→ ∀i,i<k→dU (l.getD i du)=false
 |0,_,i,hi=>by omega
 |k+1,h,i,hi=>by
  rw[gY,w3]at h
  split at h
  ·
   cases h
  ·
   rename_i hn
   by_cases e:i=k
   ·
    subst e
    cases hr:dU (l.getD i du)with
    |false=>rfl
    |true=>exact absurd ⟨hr, .inl h⟩ hn
   ·
    exact KX h i (by omega)
theorem w4{l:List aA}{p:Int}{dU:aA→Bool}{os:List (aA→aA→Int)}(h:(fH l p dU os).2=true):ky l p=true∧0≤(fH l p dU os).1∧(fH l p dU os).1<l.length∧dU (l.getD (fH l p dU os).1.toNat du)=true:=by
 unfold fH at h⊢
 split at h
 ·
  rename_i hw
  rw[if_pos hw]
  obtain⟨h1,h2,h3⟩:=Fx l dU os l.length
  exact⟨hw,h1,(h3 h).1,(h3 h).2⟩
 ·
  cases h
theorem w5{l:List aA}{p:Int}{dU:aA→Bool}{os:List (aA→aA→Int)}(hw:ky l p=true)(h:(fH l p dU os).2=false): ∀x∈l,dU x=false:=fun x hx=>by
 unfold fH at h
 rw[if_pos hw]at h
 obtain⟨i,hi⟩:=List.getElem?_of_mem hx
 have fC:=(List.getElem?_eq_some_iff.1 hi).1
 have:=KX h i fC
 rwa [show l.getD i du=x by simp[List.getD,hi]]at this
theorem w6{α:Type}{l:List α}{i:Nat}{e:α}(he:l[i]? =some e):l.drop i=e::l.drop (i+1):=by
 obtain⟨hi,rfl⟩:=List.getElem?_eq_some_iff.1 he
 rw[List.getElem_cons_drop]
theorem Tl{p:Int}{x:aA}(h:tw p x=true)(hp:1≤p):0≤mh p x∧mh p x≤p:=by
 obtain⟨h1,h2,h3,_⟩:=pn.1 h
 rw[mh]
 split
 ·
  omega
 ·
  split<;>omega
theorem KY(p:Int): ∀l:List aA,(∀x∈l,tw p x=true)→1≤p→0≤mi (l.map (mh p))∧mi (l.map (mh p))≤(l.length:Int)*p
 |[],_,_=>by simp[mi]
 |x::r,h,hp=>by
  have h1:=KY p r (fun y hy=>h y (List.mem_cons_of_mem _ hy)) hp
  have h2:=Tl (h x List.mem_cons_self) hp
  rw[List.map_cons,mi,List.length_cons,Int.natCast_add,Int.add_mul]
  omega
theorem room_le{n:Nat}{p:Int}(h:n≤32)(h1:1≤p)(h2:p≤16):(n:Int)*p≤512:=by
 have:(n:Int)*p≤32*16:=Int.mul_le_mul (by omega) h2 (by omega) (by omega)
 omega
open Go.ay
structure dL(c d:CV):Prop where
 ae:d.ae=c.ae
 size:d.size=c.size
 len:d.blocks.length=c.blocks.length
theorem dL.bY(c:CV):dL c c:=⟨rfl,rfl,rfl⟩
theorem dL.trans{c d e:CV}(h:dL c d)(g:dL d e):dL c e:=⟨g.ae.trans h.ae,g.size.trans h.size,g.len.trans h.len⟩
theorem Tm(c:CV)(b g:Int)(p:List UInt8):dL c (dt c b g p):=by
 rw[dt];split
 ·
  exact⟨rfl,rfl,by simp[eM]⟩
 ·
  exact .bY c
theorem Tn(c:CV)(b:Int):dL c (eN c b):=by
 rw[eN];split
 ·
  exact⟨rfl,rfl,by simp[gF]⟩
 ·
  exact .bY c
theorem To(c:CV)(b:Int):dL c (iO c b):=by
 rw[iO];split
 ·
  exact⟨rfl,rfl,by simp⟩
 ·
  exact .bY c
theorem Fy{c:CV}(h:aT c=true){o:Int}{f:Bool}(h0:0≤o)(h1:o≤cN){i:Nat}{B:BV}(hB:ow c.ae c.size B=true):aT {c with ops:=o,off:=f,blocks:=c.blocks.set i B}=true:=by
 obtain⟨k1,k2,k3,k4,k5⟩:=eL.1 h
 refine eL.2 ⟨by simpa using k1,h0,h1,k4,fun b hb=> ?_⟩
 rcases List.mem_or_eq_of_mem_set hb with hb|rfl
 ·
  exact k5 b hb
 ·
  exact hB
theorem BW{c:CV}(h:aT c=true)(b g:Int)(p:List UInt8):aT (dt c b g p)=true:=by
 rw[dt];split
 ·
  rename_i hk
  obtain⟨k1,k2,k3,k4⟩:=hk
  obtain⟨j1,j2,j3,j4,j5⟩:=iF.1 k1
  obtain⟨o1,o2,o3,o4,o5,o6⟩:=eX.1 (ox j1)
  have:=(eL.1 h).2.1
  refine Fy h (by omega) (by omega) (eX.2 ⟨by simpa using o1,by simp only;omega,by simp only;omega,o4,o5,fun x hx=> ?_⟩)
  rcases List.mem_or_eq_of_mem_set hx with hx|rfl
  ·
   exact o6 x hx
  ·
   rw[l8];split
   ·
    simpa[cV]using j4
   ·
    exact j4
 ·
  exact h
theorem BX{c:CV}(h:aT c=true)(b:Int):aT (eN c b)=true:=by
 rw[eN];split
 ·
  rename_i hk
  obtain⟨k1,k2,k3⟩:=hk
  obtain⟨j1,j2,j3⟩:=nE.1 k1
  obtain⟨o1,o2,o3,o4,o5,o6⟩:=eX.1 (ox j1)
  have:=(eL.1 h).2.1
  have hs:=kR.1 (eL.1 h).1
  have hl:(qe c (aj c b).ae).length=(aj c b).ae.length:=by rw[qe];split<;>simp
  refine Fy h (by omega) (by omega) (eX.2 ⟨by rw[hl];exact o1,?_,?_,by simp only;omega,by simp only;omega,fun x hx=> ?_⟩)
  ·
   simp only;split<;>omega
  ·
   simp only;split<;>omega
  ·
   rw[qe]at hx
   split at hx
   ·
    obtain⟨y,hy,rfl⟩:=List.mem_map.1 hx
    simpa[cV]using o6 y hy
   ·
    obtain⟨y,hy,rfl⟩:=List.mem_map.1 hx
    simp only[gE,List.length_replicate];omega
 ·
  exact h
theorem KZ{c:CV}(h:aT c=true)(b:Int):aT (iO c b)=true:=by
 rw[iO];split
 ·
  rename_i hk
  have hh:fu c b=true:=by
   rw[jR]at hk
   split at hk
   ·
    assumption
   ·
    cases hk
  obtain⟨o1,o2,o3,o4,o5,o6⟩:=eX.1 (ox hh)
  have k:=eL.1 h
  exact Fy (o:=c.ops) (f:=c.off) h k.2.1 k.2.2.1 (eX.2 ⟨o1,o2,o3,o4,o5,o6⟩)
 ·
  exact h
def dV(c:CV)(b:Int):Int:=if(aj c b).bad=true then 0 else c.ae -(aj c b).used
def gk(c:CV)(b e:Int):CV:=if e=9 then iO c b else c
def bm(c:CV)(b:Int)(p:List UInt8):Int:=jz c b (aj c b).used p
def bj(c:CV)(b:Int)(p:List UInt8):CV:=gk (dt c b (aj c b).used p) b (bm c b p)
def dh(c:CV)(b:Int):CV:=gk (eN c b) b (dS c b)
def gQ(c:CV):List UInt8:=(dr ⟨1,0,0,[]⟩ c.size).1
def fg:Nat→CV→Int→CV×Int
 |0,c,b=>(dh c b,dS c b)
 |n+1,c,b=>if bm c b (gQ c)≠0 then(bj c b (gQ c),bm c b (gQ c))else fg n (bj c b (gQ c)) b
def cG(c:CV)(b:Int):CV×Int:=fg (dV c b).toNat c b
theorem K0{c:CV}(h:aT c=true)(b e:Int):aT (gk c b e)=true:=by
 rw[gk];split
 ·
  exact KZ h b
 ·
  exact h
theorem BY(c:CV)(b e:Int):dL c (gk c b e):=by
 rw[gk];split
 ·
  exact To c b
 ·
  exact .bY c
theorem iI{c:CV}(h:aT c=true)(b:Int)(p:List UInt8):aT (bj c b p)=true:=K0 (BW h _ _ _) _ _
theorem gm(c:CV)(b:Int)(p:List UInt8):dL c (bj c b p):=(Tm _ _ _ _).trans (BY _ _ _)
theorem BZ{c:CV}(h:aT c=true)(b:Int):aT (dh c b)=true:=K0 (BX h _) _ _
theorem vg(c:CV)(b:Int):dL c (dh c b):=(Tn _ _).trans (BY _ _ _)
theorem K1: ∀(n:Nat) {c:CV} (b:Int),aT c=true→aT (fg n c b).1=true∧dL c (fg n c b).1
 |0,c,b,h=>⟨BZ h b,vg c b⟩
 |n+1,c,b,h=>by
  rw[fg];split
  ·
   exact⟨iI h _ _,gm _ _ _⟩
  ·
   have:=K1 n b (iI h b (gQ c))
   exact⟨this.1,(gm _ _ _).trans this.2⟩
theorem vh{c:CV}(b:Int)(h:aT c=true):aT (cG c b).1=true∧dL c (cG c b).1:=K1 _ b h
theorem nK{c:CV}{b:Int}{p:List UInt8}(h:bm c b p=0):lL c b (aj c b).used p=true∧c.off=false∧(aj c b).bad=false∧(br c).2=false∧bj c b p=eM c b (aj c b).used p:=by
 have h0:=h
 rw[bm,jz]at h
 by_cases h1:lL c b (aj c b).used p=true
 ·
  rw[if_pos h1]at h
  by_cases h2:c.off=true
  ·
   rw[if_pos h2]at h;cases h
  ·
   rw[if_neg h2]at h
   by_cases h3:(aj c b).bad=true∨(aj c b).used≠(aj c b).used
   ·
    rw[if_pos h3]at h;cases h
   ·
    rw[if_neg h3]at h
    have we:(aj c b).bad=false:=by
     cases hb:(aj c b).bad with
     |false=>rfl
     |true=>exact absurd (.inl hb) h3
    by_cases h4:(br c).2=true
    ·
     rw[if_pos h4,kb]at h
     split at h<;>cases h
    ·
     refine⟨h1,by simpa using h2,we,by simpa using h4,?_⟩
     rw[bj,gk,h0,if_neg (by decide),dt,if_pos ⟨h1,by simpa using h2,we,rfl⟩]
 ·
  rw[if_neg h1]at h;cases h
theorem oB{c:CV}{b:Int}(h:fu c b=true){o:Int}{f:Bool}{B:BV}:aj {c with ops:=o,off:=f,blocks:=c.blocks.set b.toNat B} b=B:=by
 obtain⟨_,h2,h3⟩:=fv.1 h
 simp only[aj,List.getD,List.getElem?_set_self (show b.toNat<c.blocks.length by omega),Option.getD_some]
theorem K2{c:CV}{b:Int}{p:List UInt8}(h:bm c b p=0):dV (bj c b p) b=dV c b -1:=by
 obtain⟨h1,h2,h3,h4,h5⟩:=nK h
 have hh:=(iF.1 h1).1
 rw[h5,dV,dV,eM,oB hh]
 simp only[h3]
 simp only[Bool.false_eq_true,if_false];omega
theorem Tp{c:CV}{b:Int}(h:0<dV c b):cG c b=if bm c b (gQ c)≠0 then(bj c b (gQ c),bm c b (gQ c))else cG (bj c b (gQ c)) b:=by
 obtain⟨n,hn⟩: ∃n,(dV c b).toNat=n+1:=⟨(dV c b).toNat -1,by omega⟩
 rw[cG,hn,fg]
 split
 ·
  rfl
 ·
  rename_i h0
  have nC:bm c b (gQ c)=0:=by simpa using h0
  rw[cG,K2 nC,show(dV c b -1).toNat=n by omega]
theorem Tq{c:CV}{b:Int}(h: ¬0<dV c b):cG c b=(dh c b,dS c b):=by
 rw[cG,show(dV c b).toNat=0 by omega];rfl
theorem sd(c:CV)(b e:Int):(gk c b e).ops=c.ops:=by
 rw[gk];split
 ·
  rw[iO];split<;>rfl
 ·
  rfl
theorem K3(c:CV)(b g:Int)(p:List UInt8):c.ops≤(dt c b g p).ops:=by
 rw[dt];split
 ·
  simp only[eM];omega
 ·
  omega
theorem Ts(c:CV)(b:Int):c.ops≤(eN c b).ops:=by
 rw[eN];split
 ·
  simp only[gF];omega
 ·
  omega
theorem q9{c:CV}{b:Int}{p:List UInt8}(hb:(aj c b).bad=false)(he:bm c b p=9∨bm c b p=0):(bj c b p).ops=c.ops+1:=by
 rw[bj,sd,dt]
 rw[bm,jz]at he
 by_cases h1:lL c b (aj c b).used p=true
 ·
  rw[if_pos h1]at he
  by_cases h2:c.off=true
  ·
   rw[if_pos h2]at he;omega
  ·
   rw[if_pos ⟨h1,by simpa using h2,hb,rfl⟩];rfl
 ·
  rw[if_neg h1]at he;omega
theorem Tt{c:CV}{b:Int}(hb:(aj c b).bad=false)(he:dS c b=9∨dS c b=0):(dh c b).ops=c.ops+1:=by
 rw[dh,sd,eN]
 rw[dS]at he
 by_cases h1:mc c b=true
 ·
  rw[if_pos h1]at he
  by_cases h2:c.off=true
  ·
   rw[if_pos h2]at he;omega
  ·
   rw[if_pos ⟨h1,by simpa using h2,hb⟩];rfl
 ·
  rw[if_neg h1]at he;omega
theorem K4{c:CV}{b:Int}{p:List UInt8}(h:bm c b p=0):(aj (bj c b p) b).bad=false:=by
 obtain⟨h1,h2,h3,h4,h5⟩:=nK h
 rw[h5,eM,oB (iF.1 h1).1];exact h3
theorem vi(c:CV)(b:Int)(p:List UInt8):c.ops≤(bj c b p).ops:=by rw[bj,sd];exact K3 _ _ _ _
theorem K5(c:CV)(b:Int):c.ops≤(dh c b).ops:=by rw[dh,sd];exact Ts _ _
theorem w7: ∀(n:Nat) (c:CV) (b:Int),c.ops≤(fg n c b).1.ops
 |0,c,b=>K5 c b
 |n+1,c,b=>by
  rw[fg];split
  ·
   exact vi _ _ _
  ·
   have:=w7 n (bj c b (gQ c)) b
   have:=vi c b (gQ c)
   omega
theorem K6: ∀(n:Nat) {c:CV} {b:Int},(aj c b).bad=false→(fg n c b).2=9∨(fg n c b).2=0→c.ops<(fg n c b).1.ops
 |0,c,b,hb,he=>by have:=Tt hb he;simp only[fg];omega
 |n+1,c,b,hb,he=>by
  rw[fg]at he⊢
  by_cases h0:bm c b (gQ c)≠0
  ·
   rw[if_pos h0]at he⊢
   have:=q9 hb (p:=gQ c) (he.imp id fun h=>h)
   simp only;omega
  ·
   rw[if_neg h0]at he⊢
   have nC:bm c b (gQ c)=0:=by simpa using h0
   have:=K6 n (K4 nC) he
   have:=vi c b (gQ c)
   omega
theorem B2{c:CV}{b:Int}(hb:(aj c b).bad=false)(he:(cG c b).2=9∨(cG c b).2=0):c.ops<(cG c b).1.ops:=K6 _ hb he
def bc:aA:=⟨0,0,0,true⟩
def mW(x:aA):aA:=if x.bad=true then bc else x
def aB(c:CV)(fl:List Int):List aA:=(iH c fl).map mW
def iQ(R:aA→Bool)(x:aA):aA:=if x.bad=true∨R x=false then bc else x
def bZ(R:aA→Bool)(l:List aA):List aA:=l.map (iQ R)
theorem kf(c:CV)(fl:List Int):(aB c fl).length=c.blocks.length -2:=by rw[aB,List.length_map,iH,wY]
theorem tz(R:aA→Bool)(l:List aA):(bZ R l).length=l.length:=by simp[bZ]
open Go.ay
structure WV where
 v:VV
 beyond:Bool
 deriving DecidableEq
def WV.on(x:WV)(c:CV):WV:={x with v:={x.v with ag:=c}}
theorem ra{c:Cp}{b:Int}{B:Bk}(h:c.blocks.xs[b.toNat]? =some B):aj (cv c) b=bv B:=by
 rw[←va];simp[List.getD,h]
def cq(c:CV):Nat:=(c.blocks.filter fun b=>b.bad).length
def iJ(p:List UInt8):Nat:=if(bw p).2=0 then(bw p).1.gen else 0
def po(l:List (List UInt8)):Nat:=l.foldl (fun m p=>max m (iJ p)) 0
def gn(c:CV)(b:Int):Nat:=po (aj c b).ae
theorem Tu{l:List (List UInt8)}{i:Nat}{p:List UInt8}(h:l[i]? =some p):po (l.take (i+1))=max (po (l.take i)) (iJ p):=by
 rw[po,List.take_add_one,h];simp[po]
theorem K7(b:List UInt8):(cO b).1.gen<281474976710656:=by
 have:=Fk b
 rw[cO]
 split
 ·
  simp[jA]
 ·
  split
  ·
   simp[jA]
  ·
   split
   ·
    simp[jA]
   ·
    split
    ·
     simp[jA]
    ·
     split
     ·
      simp[jA]
     ·
      exact this
theorem K8(p:List UInt8):iJ p<281474976710656:=by
 rw[iJ];split
 ·
  rw[bw];split
  ·
   simp[gG]
  ·
   split
   ·
    simp[gG]
   ·
    split
    ·
     simp[gG]
    ·
     exact K7 p
 ·
  omega
theorem Fz(l:List (List UInt8)):po l<281474976710656:=by
 have: ∀(l:List (List UInt8)) (m:Nat),m<281474976710656→l.foldl (fun m p=>max m (iJ p)) m<281474976710656:=by
  intro l
  induction l with
  |nil=>intro m h;exact h
  |cons p r ih=>
   intro m h
   have:=K8 p
   exact ih _ (Nat.max_lt.2 ⟨h,this⟩)
 exact this l 0 (by omega)
def se(c:CV)(b:Int):Bool:= !(aj c b).bad&&(decide (0<(aj c b).used)||(decide (b<2)&&decide (0<gn c b)))
def fy(c:CV)(b:Int):Nat:=max 1 (gn c (1 -b)+(1 -b).toNat)
def tA(c:CV)(last:Int):Int:=if(aj c (1 -last)).bad=true then dV c last else if(aj c last).bad=true∧0<dV c (1 -last)then dV c (1 -last)else c.ae
def vj(g:Nat):Bool:=decide (281474976710656≤g+2)
def jf(e:Int):Int:=if e=9 then 0 else e
theorem K9{f:aA→aA}{l:List aA}{i:Nat}{x:aA}(h:l[i]? =some x):((l.take i).map f++l.drop i).set i (f x)=(l.take (i+1)).map f++l.drop (i+1):=by
 have hi:=(List.getElem?_eq_some_iff.1 h).1
 have hl:((l.take i).map f).length=i:=by rw[List.length_map,List.length_take];omega
 rw[List.set_append_right _ _ (by omega),hl,Nat.sub_self,w6 h,List.set_cons_zero,List.take_add_one,h]
 simp
theorem La{f:aA→aA}{l:List aA}{i:Nat}{x:aA}(h:l[i]? =some x)(hf:f x=x):(l.take i).map f++l.drop i=(l.take (i+1)).map f++l.drop (i+1):=by
 rw[w6 h,List.take_add_one,h]
 simp[hf]
theorem Lb{f:aA→aA}{l:List aA}{i:Nat}{x:aA}(h:l[i]? =some x):((l.take i).map f++l.drop i)[i]? =some x:=by
 have hi:=(List.getElem?_eq_some_iff.1 h).1
 have hl:((l.take i).map f).length=i:=by rw[List.length_map,List.length_take];omega
 rw[List.getElem?_append_right (by omega),hl,Nat.sub_self,List.getElem?_drop,Nat.add_zero,h]
theorem Tw{l:List BV}{i:Nat}{x:BV}(h:l[i]? =some x):((l.take (i+1)).filter fun b=>b.bad).length=((l.take i).filter fun b=>b.bad).length+(if x.bad=true then 1 else 0):=by
 rw[List.take_add_one,h,List.filter_append,List.length_append]
 congr 1
 simp only[Option.toList_some,List.filter_cons,List.filter_nil]
 split<;>simp_all
end Go.Kb
