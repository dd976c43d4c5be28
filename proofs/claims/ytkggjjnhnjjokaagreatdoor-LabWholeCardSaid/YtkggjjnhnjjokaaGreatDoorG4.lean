/- Laws and walks by which the law LabWhole is proved, each with its own conditions. -/
import Derived.Test.YtkggjjnhnjjokaaGreatDoorG3
import Derived.Lib.BytesEntry
import Derived.Lib.ReflectliteSwap
set_option maxRecDepth 20000
set_option linter.unusedSimpArgs false
set_option linter.unusedVariables false
namespace Go.Kb
structure Ord(t:List Rt):Prop where
 may: ∀r∈t,bm r.p=true
 less:t.Pairwise fun a b=>eA a.p b.p=true
theorem Dh{t:List Rt}(h:cL t=true):Ord t:=⟨fun _ hr=>Au h hr,by
 rw[auZ];intro i j hi hj o8;exact G6 h i j _ _ o8 (by simp[hi]) (by simp[hj])⟩
theorem adV{t:List Rt}(h:Ord t)(hl:t.length<=256):cL t=true:=by
 refine Pd hl ?_;have key: ∀n,n<=t.length->sL t n=true:=by
  intro n
  induction n with
  |zero=>intro _;rfl
  |succ n ih=>
   intro hn;rw[Jq,ih (by omega),aup];have hi:t[n]? =some t[n]:=by simp[show n<t.length by omega]
   have hm:=h.may _ (alM hi)
   cases n with
   |zero=>rw[Jr hi,hm]
   |succ m=>
    have hq:t[m]? =some t[m]:=by simp[show m<t.length by omega]
    rw[Fq hi hq,hm,aup];exact(auZ.1 h.less) m (m+1) (by omega) (by omega) (by omega)
 exact key _ (att _)
theorem Ord.sub{s t:List Rt}(h:Ord t)(hs:s.Sublist t):Ord s:=⟨fun r hr=>h.may r (hs.subset hr),h.less.sublist hs⟩
def cov(r:Rt)(p:cH):Bool:=decide (r.p≠p)&&Y6 r.p p
def adW(t:List Rt)(p:cH):Option Rt:=t.reverse.find? fun r=>cov r p
def ao6(t:List Rt)(r:Rt):Bool:=match adW t r.p with
 |none=>true
 |some o=> !decide (o.dN=r.dN)
structure Ch where
 r:Rt
 gone:Bool
 deriving DecidableEq
def SQ:Ch:=⟨bO,false⟩
def dB(x:Ch):Array Value:=ay x.r++ #[.bool x.gone]
theorem SR(x:Ch):(dB x).size=20:=by unfold dB;rw[aud,gN];rfl
theorem SS(x:Ch)(j:Nat)(h:j<19):(dB x)[j]? =(ay x.r)[j]? :=by
 unfold dB;rw[auk (by rw[gN];exact h)]
theorem adX(x:Ch):(dB x)[19]? =some (.bool x.gone):=by
 unfold dB;rw[avD (by rw[gN];omega),gN];rfl
def eG(t:List Rt)(c:Ch):Int:=if bm c.r.p=true then(if mQ t c.r.p=true then 0 else if c.gone=true then 6 else if 256<=t.length then 5 else 0)else 1
def jc(t:List Rt)(c:Ch):List Rt:=
 if eG t c=0 then(if c.gone=true then t.take (db t c.r.p)++t.drop (db t c.r.p+1)else if mQ t c.r.p=true then t.set (db t c.r.p) c.r else t.take (db t c.r.p)++c.r::t.drop (db t c.r.p))else t
theorem SU{t:List Rt}(h:t.length<=256)(c:Ch):(jc t c).length<=256:=by
 unfold jc;split
 ·
  rename_i he;split
  ·
   simp only[adr,atq,atD];omega
  split
  ·
   simpa using h
  rename_i h1 h2;have:t.length<256:=by
   apply atO;intro hn;unfold eG at he;rw[if_neg h2,if_neg h1,if_pos (show 256<=t.length by omega)]at he;split at he<;>omega
  have hp:=SN t c.r.p;simp only[adr,atq,af0,atD];omega
 exact h
def hO:List Rt->List Ch->List Rt×Int
 |t,[]=>(t,0)
 |t,c::l=>if eG t c=0 then hO (jc t c) l else(t,eG t c)
theorem SV{t:List Rt}{l:List Ch}{i:Nat}{c:Ch}(hc:l[i]? =some c):hO t (l.drop i)=if eG t c=0 then hO (jc t c) (l.drop (i+1))else(t,eG t c):=by
 obtain⟨hi,rfl⟩:=zz.1 hc;rw[avr hi,hO]
def dh(t:List Rt)(l:List Ch):Int:=if cL t=true then(hO t l).2 else 1
def bH(t:List Rt)(l:List Ch):List Rt:=if dh t l=0 then(hO t l).1 else t
end Go.Kb
namespace Go.ax
def uK:Nat->Value->Value->Prop
 |0, .int k _, .int k' _=>k=k'
 |1, .bool _, .bool _=>True
 |2, .string _, .string _=>True
 |_,_,_=>False
def rk:Value->Bool
 | .agg _=>true
 |_=>false
def A2(P:Program)(d:Nat)(t:TypeId)(ku:Bool)(ks:List Nat):Prop:=
 ∀(w:World) (x y:Value),rk x=ku->rk y=ku->x.cells.size=ks.length->y.cells.size=ks.length->
  (∀(i k:Nat),ks[i]? =some k-> ∃u v,x.cells[i]? =some u/\y.cells[i]? =some v/\uK k u v)->
  ∃r:Bool,(Op.equalIn d t x y).run P w= .ok r w/\(r=true↔ ∀i,i<ks.length->x.cells[i]? =y.cells[i]?)
section
variable {P:Program} {d:Nat} {t:TypeId}
theorem cells_one{x:Value}(h:rk x=false):x.cells= #[x]:=by
 cases x<;>simp_all[rk,Value.cells]
theorem Lp{q:IntKind}(hu:P.underlying t=some (.int q)):A2 P (d+1) t false [0]:=fun w x y hx hy _ _ hk=>by
 obtain⟨u,v,h1,h2,h3⟩:=hk 0 0 rfl;rw[cells_one hx]at h1⊢;rw[cells_one hy]at h2⊢;simp at h1 h2;subst h1 h2
 cases x<;>cases y<;>simp only[uK]at h3
 subst h3;exact⟨_,run_equalIn_int w d t _ q _ _ hu,by simp⟩
theorem SW{e:TypeId}{ku:Bool}{n:Nat}(hA: ∃de,P.underlying e=some de/\wK de=ku)(hn:(P.info? e).map (·.size)=some n)(h1:ku=false->n=1)
  {xs:Array Value} {off:Nat} (bn:off+n<=xs.size) (hp: ∀i u,off<=i->i<off+n->xs[i]? =some u->rk u=false) (w:World):
  ∃a,(part e xs off).run P w= .ok a w/\rk a=ku/\a.cells.size=n/\ ∀i,i<n->a.cells[i]? =xs[off+i]? :=by
 obtain⟨de,hu,hr⟩:=hA
 cases ku with
 |true=>
  refine⟨.agg (xs.extract off (off+n)),?_,rfl,by simp[Value.cells];omega,fun i hi=>?_⟩
  ·
   simp only[part,Sem.run_bind,B4 w hu,hr,Result.andThen_ok,if_true,lN w hn,Sem.run_pure]
  ·
   simp[Value.cells,Array.getElem?_extract];intro h;omega
 |false=>
  have:=h1 rfl;subst this;have hx:xs[off]? =some xs[off]:=by simp[show off<xs.size by omega]
  have Lr:=hp off _ (att _) (by omega) hx;refine⟨xs[off],?_,Lr,by rw[cells_one Lr];rfl,fun i hi=>?_⟩
  ·
   simp only[part,Sem.run_bind,B4 w hu,hr,Result.andThen_ok,hx,at1,if_false,Sem.run_pure]
  ·
   obtain rfl:i=0:=by omega
   rw[cells_one Lr,auH,hx];rfl
theorem SX{k:Nat}{u v:Value}(h:uK k u v):rk u=false/\rk v=false:=by
 unfold uK at h;split at h<;>simp_all[rk]
structure tk(P:Program)(d:Nat)(e:TypeId)(ku:Bool)(ks:List Nat):Prop where
 row: ∃de,P.underlying e=some de/\wK de=ku
 size:(P.info? e).map (·.size)=some ks.length
 one:ku=false->ks.length=1
 eq:A2 P d e ku ks
theorem SY{e:TypeId}{ku:Bool}{ks:List Nat}(he:tk P d e ku ks){xs ys:Array Value}{off:Nat}(hx:off+ks.length<=xs.size)(hy:off+ks.length<=ys.size)
  (hk: ∀(i k:Nat),ks[i]? =some k-> ∃u v,xs[off+i]? =some u/\ys[off+i]? =some v/\uK k u v) (w:World):
  ∃a b r,(part e xs off).run P w= .ok a w/\(part e ys off).run P w= .ok b w/\(Op.equalIn d e a b).run P w= .ok r w/\(r=true↔ ∀i,i<ks.length->xs[off+i]? =ys[off+i]?):=by
 have plain: ∀i,off<=i->i<off+ks.length-> ∃u v k,xs[i]? =some u/\ys[i]? =some v/\uK k u v:=fun i h1 h2=>by
  obtain⟨u,v,h3,h4,h5⟩:=hk (i -off) _ (atp (by omega));rw[show off+(i -off)=i by omega]at h3 h4;exact⟨u,v,_,h3,h4,h5⟩
 obtain⟨a,a1,a2,a3,a4⟩:=SW he.row he.size he.one hx (fun i u h1 h2 h3=>by
  obtain⟨u',v,k,h4,h5,h6⟩:=plain i h1 h2;rw[h4]at h3;cases h3;exact(SX h6).1) w
 obtain⟨b,b1,b2,b3,b4⟩:=SW he.row he.size he.one hy (fun i u h1 h2 h3=>by
  obtain⟨u',v,k,h4,h5,h6⟩:=plain i h1 h2;rw[h5]at h3;cases h3;exact(SX h6).2) w
 obtain⟨r,r1,r2⟩:=he.eq w a b a2 b2 a3 b3 (fun i k ov=>by
  obtain⟨u,v,h1,h2,h3⟩:=hk i k ov;have hi:i<ks.length:=(zz.1 ov).1;exact⟨u,v,by rw[a4 i hi];exact h1,by rw[b4 i hi];exact h2,h3⟩)
 refine⟨a,b,r,a1,b1,r1,r2.trans ⟨fun h i hi=>?_,fun h i hi=>?_⟩⟩
 ·
  rw[←a4 i hi,←b4 i hi];exact h i hi
 ·
  rw[a4 i hi,b4 i hi];exact h i hi
theorem SZ{e:TypeId}{ku:Bool}{ks:List Nat}(he:tk P d e ku ks){xs ys:Array Value}(w:World): ∀(is:List Nat),
  (∀j∈is,j*ks.length+ks.length<=xs.size/\j*ks.length+ks.length<=ys.size/\ ∀(i k:Nat),ks[i]? =some k-> ∃u v,xs[j*ks.length+i]? =some u/\ys[j*ks.length+i]? =some v/\uK k u v)->
  ∃r:Bool,(Op.eqItems d e ks.length xs ys is).run P w= .ok r w/\(r=true↔ ∀j∈is,∀i,i<ks.length->xs[j*ks.length+i]? =ys[j*ks.length+i]?)
 |[],_=>⟨true,by simp[Op.eqItems],by simp⟩
 |j::is,h=>by
  obtain⟨h1,h2,h3⟩:=h j (by simp);obtain⟨a,b,r,p1,p2,p3,vW⟩:=SY he h1 h2 h3 w;obtain⟨r',Ls,Lt⟩:=SZ he w is (fun j' jg=>h j' (by simp[jg]));simp only[Op.eqItems,Sem.run_bind,p1,p2,p3,Result.andThen_ok]
  cases r
  ·
   refine⟨false,by simp,?_⟩;simp only[at1,false_iff];intro e;exact absurd (vW.2 (e j (by simp))) (by simp)
  ·
   refine⟨r',by simpa using Ls,?_⟩;rw[Lt];have:=vW.1 rfl;constructor
   ·
    intro e j' jg;rcases atv.1 jg with rfl|jg
    ·
     exact this
    ·
     exact e j' jg
   ·
    intro e j' jg;exact e j' (by simp[jg])
theorem AG{ks:List Nat}: ∀{n j i:Nat},j<n->i<ks.length->(List.replicate n ks).flatten[j*ks.length+i]? =ks[i]?
 |0,j,i,h,_=>by omega
 |n+1,0,i,_,hi=>by
  rw[awb,auM,Nat.zero_mul,auf,atN hi]
 |n+1,j+1,i,h,hi=>by
  rw[awb,auM,atz (by rw[atU];omega),atU,show j*ks.length+1*ks.length+i -ks.length=j*ks.length+i by omega];exact AG (by omega) hi
theorem adY{e:TypeId}{n:Nat}{ku:Bool}{ks:List Nat}(hu:P.underlying t=some (.array n e))(he:tk P d e ku ks):A2 P (d+1) t true (List.replicate n ks).flatten:=fun w x y hx hy sx sy hk=>by
 cases x<;>simp only[rk,at1]at hx
 cases y<;>simp only[rk,at1]at hy
 rename_i xs ys;simp only[Value.cells]at sx sy hk⊢;have hl:(List.replicate n ks).flatten.length=n*ks.length:=by simp
 rw[hl]at sx sy⊢;obtain⟨i,hi⟩: ∃i,P.info? e=some i:=by
  cases h:P.info? e with
  |none=>have:=he.size;simp[h]at this
  |some i=>exact⟨i,rfl⟩
 have hc:P.cellsOf e=ks.length:=by have:=he.size;simp[Program.cellsOf,hi]at this⊢;exact this
 have bound: ∀j,j<n->j*ks.length+ks.length<=n*ks.length:=fun j hj=>by
  rw[←Nat.succ_mul];exact atG _ hj
 obtain⟨r,hr,vW⟩:=SZ he (xs:=xs) (ys:=ys) w (List.range n) (fun j hj=>by
  have jg:=atX.1 hj;have:=bound j jg;refine⟨by omega,by omega,fun i k ov=>?_⟩;have fg:i<ks.length:=(zz.1 ov).1;exact hk (j*ks.length+i) k (by rw[AG jg fg];exact ov))
 refine⟨r,by rw[run_equalIn_array w d xs ys hu hi,hc];exact hr,vW.trans ⟨fun h q hq=>?_,fun h j hj i hi=>?_⟩⟩
 ·
  have xz:0<ks.length:=by
   rcases avu ks.length with h0|h0
   ·
    rw[h0]at hq;omega
   exact h0
  have h1:q/ks.length<n:=Nat.div_lt_of_lt_mul (by rw[auP];exact hq);have h2:=h (q/ks.length) (atX.2 h1) (q%ks.length) (ave _ xz);rw[Nat.div_add_mod']at h2;exact h2
 have:=bound j (atX.1 hj);exact h _ (by omega)
def G7(P:Program)(d:Nat):Nat->List Field->List Nat->Prop
 |_,[],ks=>ks=[]
 |off,f::fs,ks=>f.name≠ "_" ∧f.offset=off∧ ∃ku k1 k2,ks=k1++k2∧tk P d f.type ku k1∧G7 P d (off+k1.length) fs k2
theorem S0{xs ys:Array Value}(w:World): ∀(fs:List Field) (off:Nat) (ks:List Nat),G7 P d off fs ks->off+ks.length<=xs.size->off+ks.length<=ys.size->
  (∀(i k:Nat),ks[i]? =some k-> ∃u v,xs[off+i]? =some u/\ys[off+i]? =some v/\uK k u v)->
  ∃r:Bool,(Op.eqFields d xs ys fs).run P w= .ok r w/\(r=true↔ ∀i,i<ks.length->xs[off+i]? =ys[off+i]?)
 |[],off,ks,h,_,_,_=>by
  simp only[G7]at h;subst h;exact⟨true,by simp[Op.eqFields],by simp⟩
 |f::fs,off,ks,h,hx,hy,hk=>by
  obtain⟨hn,ho,ku,k1,k2,rfl,hp,FK⟩:=h;simp only[adr]at hx hy;obtain⟨a,b,r,p1,p2,p3,vW⟩:=SY hp (xs:=xs) (ys:=ys) (off:=off) (by omega) (by omega) (fun i k ov=>by
   have hi:i<k1.length:=(zz.1 ov).1;exact hk i k (by rw[atN hi];exact ov)) w
  obtain⟨r',Ls,Lt⟩:=S0 (xs:=xs) (ys:=ys) w fs (off+k1.length) k2 FK (by omega) (by omega) (fun i k ov=>by
   have:=hk (k1.length+i) k (by rw[atz (by omega)];simpa using ov);rw[auW];exact this)
  subst ho;simp only[Op.eqFields,hn,ne_eq,not_false_eq_true,if_true,Sem.run_bind,p1,p2,p3,Result.andThen_ok]
  cases r
  ·
   refine⟨false,by simp,?_⟩;simp only[at1,false_iff];intro e;exact absurd (vW.2 fun i hi=>e i (by simp;omega)) (by simp)
  ·
   refine⟨r',by simpa using Ls,?_⟩;rw[Lt];have:=vW.1 rfl;simp only[adr];constructor
   ·
    intro e i hi
    by_cases h1:i<k1.length
    ·
     exact this i h1
    ·
     have:=e (i -k1.length) (by omega);rw[show f.offset+k1.length+(i -k1.length)=f.offset+i by omega]at this;exact this
   ·
    intro e i hi;have:=e (k1.length+i) (by omega);rw[auW];exact this
theorem Lu{fs:Array Field}{ks:List Nat}(hu:P.underlying t=some (.struct fs))(hp:P.stoodInHeld t=false)(hf:G7 P d 0 fs.toList ks):A2 P (d+1) t true ks:=fun w x y hx hy sx sy hk=>by
 cases x<;>simp only[rk,at1]at hx
 cases y<;>simp only[rk,at1]at hy
 rename_i xs ys;simp only[Value.cells]at sx sy hk⊢;have lC:P.fieldsOf t=fs:=by simp[Program.fieldsOf,hu]
 obtain⟨r,hr,vW⟩:=S0 (xs:=xs) (ys:=ys) w fs.toList 0 ks hf (by omega) (by omega) (fun i k ov=>by
  have:=hk i k ov;simpa using this)
 refine⟨r,?_,by simpa using vW⟩;rw[run_equalIn_struct w d t xs ys (by rw[lC];exact hu) hp,lC];exact hr
theorem A2.val{ku:Bool}{ks:List Nat}(h:A2 P 10000 t ku ks)(hA:ku=true)(hg:P.eqGuardType P.depth t=false){xs ys:Array Value}{r:Bool}(sx:xs.size=ks.length)(sy:ys.size=ks.length)
  (hk: ∀(i k:Nat),ks[i]? =some k-> ∃u v,xs[i]? =some u/\ys[i]? =some v/\uK k u v) (hr:xs=ys↔r=true):yq P t (.agg xs) (.agg ys) r where
 h w:=by
  subst hA;obtain⟨q,h1,h2⟩:=h w (.agg xs) (.agg ys) rfl rfl sx sy hk;have:q=r:=by
   rw[avL,h2,←hr];simp only[Value.cells];constructor
   ·
    intro e;apply aut;intro i
    by_cases hi:i<ks.length
    ·
     exact e i hi
    ·
     simp[show ¬i<xs.size by omega,show ¬i<ys.size by omega]
   ·
    rintro rfl i _;rfl
  rw[h1,this]
 plain:=hg
 agg:=⟨xs,ys,rfl,rfl⟩
end
end Go.ax
namespace Go.Proofs.YtkggjjnhnjjokaaGreatDoor
open Go.ax Go.Kb
instance (k:Key):gn (bR k) 16:=⟨eL k,by
 rw[at4];intro v hv;simp only[bR,List.mem_toArray,auq]at hv;obtain⟨i,_,rfl⟩:=hv;rfl⟩
instance (p:cH):gn (cR p) 18:=⟨oq p,by
 have h:(bR p.key).all (·.oneCell')=true:=(inferInstance:gn (bR p.key) 16).one;rw[cR,av9,h];simp[Value.oneCell']⟩
instance (p:cH):bQ (cR p) 0 (.int .i64 p.bits):=⟨yH p⟩
instance (p:cH):bQ (cR p) 1 (.int .i64 p.len):=⟨yI p⟩
instance (p:cH):mY (cR p) 2 16 (bR p.key):=⟨eL _,fun j _=>qR p j⟩
theorem adZ(d:Nat):tk Tryz.prog (d+1) 5 false [0]:=⟨⟨_,Tryz.underlying5,rfl⟩,by kernel_rfl,fun _=>rfl,Lp Tryz.underlying5⟩
theorem Di(d:Nat):tk Tryz.prog (d+1) 3 false [0]:=⟨⟨_,Tryz.underlying3,rfl⟩,by kernel_rfl,fun _=>rfl,Lp Tryz.underlying3⟩
theorem Lw(d:Nat):tk Tryz.prog (d+1+1) 25 true (List.replicate 16 [0]).flatten:=⟨⟨_,Tryz.underlying25,rfl⟩,by kernel_rfl,(fun h=>by cases h),adY Tryz.underlying25 (adZ d)⟩
theorem ad0:Tryz.prog.stoodInHeld 32=false:=by kernel_rfl
theorem S1(d:Nat):tk Tryz.prog (d+1+1+1) 32 true ([0]++([0]++((List.replicate 16 [0]).flatten++[]))):=⟨⟨_,Tryz.underlying32,rfl⟩,by kernel_rfl,(fun h=>by cases h),
 Lu Tryz.underlying32 ad0 ⟨by decide,rfl,_,_,_,rfl,Di _,by decide,rfl,_,_,_,rfl,Di _,by decide,rfl,_,_,_,rfl,Lw _,rfl⟩⟩
theorem ad1:Tryz.prog.eqGuardType Tryz.prog.depth 25=false:=by kernel_rfl
theorem ad3:Tryz.prog.eqGuardType Tryz.prog.depth 32=false:=by kernel_rfl
instance (a b:Key):yq Tryz.prog 25 (.agg (bR a)) (.agg (bR b)) (decide (a=b)):=
 (Lw 9998).eq.val rfl ad1 (eL a) (eL b) (fun i k hk=>by
  have hi:i<16:=(zz.1 hk).1;have h0:k=0:=by
   have:k∈(List.replicate 16 [0]).flatten:=alM hk;simpa using this
  subst h0;exact⟨_,_,jh a i hi,jh b i hi,rfl⟩) (by rw[decide_eq_true_iff];exact⟨Jp,fun h=>by rw[h]⟩)
instance (a b:cH):yq Tryz.prog 32 (.agg (cR a)) (.agg (cR b)) (decide (a=b)):=
 (S1 9997).eq.val rfl ad3 (oq a) (oq b) (fun i k hk=>by
  have h0:k=0:=by
   have:k∈([0]++([0]++((List.replicate 16 [0]).flatten++[]))):=alM hk;simpa using this
  subst h0;have hi:i<18:=(zz.1 hk).1
  match i,hi with
  |0,_=>exact⟨_,_,yH a,yH b,rfl⟩
  |1,_=>exact⟨_,_,yI a,yI b,rfl⟩
  |j+2,hi=>rw[avT j 2];exact⟨_,_,(qR a j).trans (jh _ j (by omega)),(qR b j).trans (jh _ j (by omega)),rfl⟩) (by rw[decide_eq_true_iff];exact⟨O7,fun h=>by rw[h]⟩)
theorem tl:bR 0#128=(List.replicate 16 (Value.int .u8 0)).toArray:=by
 apply av6;simp only[bR];refine List.eq_replicate_iff.2 ⟨by simp,fun v hv=>?_⟩;simp only[auq]at hv;obtain⟨i,_,rfl⟩:=hv;simp[bf]
instance (n m:Int)(k:Key):su Tryz.prog 32 [(0, .int .i64 n),(1, .int .i64 m),(2, .agg (bR k))] (.agg (cR ⟨n,m,k⟩)):=⟨fun w=>by kernel_rfl⟩
instance:eP Tryz.prog 25 (.agg (bR 0#128)):=⟨by rw[tl];kernel_rfl⟩
instance:eP Tryz.prog 32 (.agg (cR ⟨0,0,0#128⟩)):=⟨by unfold cR;rw[tl];kernel_rfl⟩
theorem ad4(n:Int):rF Tryz.prog 126 [.int .i64 n] (.bool (decide (n=32)||decide (n=128))):=⟨fun w=>by
 refine ct Tryz.func126 rfl Tryz.ntmps126 rfl ?_;refine aZ ?_;refine bJ rfl rfl rfl (fun hg=>(bo rfl).yl) (bJ rfl rfl rfl (fun hg=>(fE (aF hg rfl) rfl rfl).yl) (al ?_));refine ez (.inl rfl) (ob rfl rfl) (fun w hw=>?_);exact⟨rfl,hw.sub (aur _)⟩⟩
instance ao7(n:Int):rF Tryz.prog 126 [.int .i64 n] (.bool (decide (n=32)||decide (n=128))):=ad4 n
theorem ad5(k:Key)(h:Nat)(hh:h<=16):over (bR 0#128) 0 ((bR k).extract 0 h)=bR (ff k ((8*h:Nat):Int)):=by
 refine Jo (by simp[over,eL];omega) fun i hi=>?_;have hl:((bR k).extract 0 h).size=h:=by simp[eL];omega
 rw[Cv k (8*h) i hi];simp only[over,hl,atW,aug,auf,auT]
 by_cases h1:i<h
 ·
  rw[atN (by simp[eL];omega),if_pos oM];have:=jh k i hi;simpa[h1]using this
 rw[atz (by simp[eL];omega),if_neg oM];have h2:(bR 0#128)[i]? =some (.int .u8 ((0:Nat):Int)):=by rw[jh _ i hi];simp[bf]
 simp only[avq,hl,auC,show h+(i -h)=i by omega];rw[Array.getElem?_toList,h2]
 by_cases h3:8*i<=8*h
 ·
  rw[if_pos h3,show 8 -(8*h -8*i)=8 by omega,Nat.div_eq_of_lt (jC k i),Nat.zero_mul]
 rw[if_neg h3]
theorem ad6(b r:Nat)(hb:b<256)(hr:r<=8):mX .andNot .u8 b ((255/2^r:Nat):Int)=some (.int .u8 ((b/2^(8 -r)*2^(8 -r):Nat):Int)):=by
 have hm:255/2^r<256:=au8 (Nat.div_le_self _ _) oM;rw[X4 hb hm];have key:b&&&(256 -1 -255/2^r)=b/2^(8 -r)*2^(8 -r):=by
  have e1:255/2^r=2^(8 -r) -1:=by
   match r,hr with
   |0,_|1,_|2,_|3,_|4,_|5,_|6,_|7,_|8,_=>rfl
   |n+9,h=>omega
  rw[e1];apply Nat.eq_of_testBit_eq;intro j;have e2:256 -1 -(2^(8 -r) -1)=2^8 -(2^(8 -r) -1+1):=by omega
  rw[Nat.testBit_and,e2,Nat.testBit_two_pow_sub_succ (by have:2^(8 -r)<=2^8:=auR (by decide) oM;have:=Nat.two_pow_pos (8 -r);omega),Nat.testBit_two_pow_sub_one,Nat.testBit_mul_two_pow,Nat.testBit_div_two_pow]
  by_cases hj:8 -r<=j
  ·
   simp only[hj,show ¬j<8 -r by omega,decide_true,decide_false,avo,Bool.and_true,aup,show j -(8 -r)+(8 -r)=j by omega]
   by_cases h8:j<8
   ·
    simp[h8]
   have:b.testBit j=false:=Nat.testBit_lt_two_pow (au0 hb (by have:=auR (n:=2) (by decide) (show 8<=j by omega);simpa using this));simp[this]
  simp[hj,show j<8 -r by omega]
 show some (Value.int .u8 ((b&&&(256 -1 -255/2^r):Nat):Int))=_;rw[key]
theorem ad7(k:Key)(n:Int)(h0:1<=n)(h1:n<128)(h2:0<n%8):(bR (ff k ((8*(n/8).toNat:Nat):Int))).setIfInBounds (n/8).toNat (.int .u8 ((bf k (n/8).toNat/2^(8 -(n%8).toNat)*2^(8 -(n%8).toNat):Nat):Int))=bR (ff k n):=by
 have hb:=jC k (n/8).toNat;rw[Y0 _ _ _ oM (au8 (Nat.div_mul_le_self _ _) hb)];congr 1;refine uc fun i hi=>?_;rw[O4 _ _ _ i hi (au8 (Nat.div_mul_le_self _ _) hb),Cv k _ i hi];have e:ff k n=ff k ((n.toNat:Nat):Int):=by rw[aun oM]
 rw[e,Cv k n.toNat i hi]
 by_cases hj:i=(n/8).toNat
 ·
  rw[if_pos hj,if_neg oM,if_pos oM,hj,show n.toNat -8*(n/8).toNat=(n%8).toNat by omega]
 rw[if_neg hj]
 by_cases bn:i<(n/8).toNat
 ·
  rw[if_pos oM,if_pos oM]
 rw[if_neg oM,if_neg oM,if_neg oM,if_neg oM]
theorem ad8(k:Key)(n:Int)(h0:1<=n)(h2: ¬0<n%8):ff k ((8*(n/8).toNat:Nat):Int)=ff k n:=by
 congr 1;omega
theorem ad9(k:Key)(n:Int):rF Tryz.prog 22 [.agg (bR k), .int .i64 n] (.agg (bR (ff k n))):=⟨fun w=>by
 refine dz Tryz.func22 rfl Tryz.ntmps22 rfl ?_;refine Gc ?_;refine cm rfl fun b2=>bt fun b4=>ar ?_;refine lO rfl (fun h0=>?_) (fun h0=>?_)
 ·
  have h0:=of_decide_eq_true h0;refine ar ?_;refine ez (.inl rfl) (EY rfl rfl) (fun w hw=>?_);exact⟨by rw[O6 k n oM],hw.sub (aur _)⟩
 have h0:=of_decide_eq_false h0;refine Gc ?_;refine bt fun b5=>ar ?_;refine lO rfl (fun h1=>?_) (fun h1=>?_)
 ·
  have h1:=of_decide_eq_true h1;refine ar ?_;refine ez (.inl rfl) (EY rfl rfl) (fun w hw=>?_);exact⟨by rw[Y1 k n oM],hw.sub (aur _)⟩
 have h1:=of_decide_eq_false h1;refine av ?_;refine ag (n9 rfl rfl oM oM) (Gs ?_);refine kD ?_;refine wO 4 [] oK oK ?_;simp only[auD,atW];refine Gq ?_;refine cr (IT rfl rfl oM oM) (Gq ?_);refine cr (IT rfl rfl oM oM) (vm (vn ?_));simp only[au3,auI];refine I1 (vs:=(bR k).extract 0 (n/8).toNat) rfl rfl (by have e:Nat.min (n/8).toNat (n/8).toNat=(n/8).toNat:=Nat.min_self _;rw[e,Array.size_extract,eL];omega) (fun w hw j hj=>by rw[Addr.gT,hw.cell (Has.h (b:=b2)),auf];simp at hj;simp[hj]) (X7 (gn.one (cs:=bR k)) _ _) (by rw[Array.size_extract,eL,eL];omega) (ad5 k _ oM) (av ?_);refine ag (B7 rfl rfl oM oM) (aQ ?_);refine lO rfl (fun h2=>?_) (fun h2=>?_)
 ·
  have h2:=of_decide_eq_true h2;refine wO 8 [] oK oK ?_;simp only[auD,atW];refine av ?_;refine cr (n8 rfl rfl oM oM) (cr (zQ rfl (jh _ _ oM)) (Gq ?_));refine cr (wM (p:=255) rfl rfl (by decide) oM) (cr (fE rfl rfl (ad6 _ _ (jC _ _) oM)) (cr (n8 rfl rfl oM oM) (vm (vn ?_))));simp only[au3,auI];refine dO rfl rfl (by rw[eL];omega) rfl (ad7 k n oM oM h2) (ar ?_);refine ez (.inl rfl) (EY rfl rfl) (fun w hw=>?_);exact⟨rfl,hw.sub (aur _)⟩
 have h2:=of_decide_eq_false h2;refine ar ?_;refine ez (.inl rfl) (EY rfl rfl) (fun w hw=>?_);exact⟨by rw[ad8 k n oM h2],hw.sub (aur _)⟩⟩
instance ao8(k:Key)(n:Int):rF Tryz.prog 22 [.agg (bR k), .int .i64 n] (.agg (bR (ff k n))):=ad9 k n
theorem aea(p:cH):rF Tryz.prog 57 [.agg (cR p)] (.bool (bm p)):=⟨fun w=>by
 refine ct Tryz.func57 rfl Tryz.ntmps57 rfl ?_;refine Gc ?_;refine cm rfl fun b1=>ar ?_;refine cO (zS rfl) (av ?_);refine bJ rfl rfl rfl (fun hg=>(aN (o':=1) rfl rfl).yl) (bJ rfl rfl rfl (fun hg=>(bI (aF hg rfl)).yl) (bJ rfl rfl rfl (fun hg=>(fE (aF hg rfl) rfl rfl).yl) (av ?_)));refine bJ rfl rfl rfl (fun hg=>(aN (o':=1) rfl rfl).yl) (bJ rfl rfl rfl (fun hg=>(bI (aF hg rfl)).yl) (bJ rfl rfl rfl (fun hg=>(aN (o':=0) rfl rfl).yl) (bJ rfl rfl rfl (fun hg=>(bI (aF hg rfl)).yl) (bJ rfl rfl rfl (fun hg=>(fE (aF hg rfl) (aF hg rfl) rfl).yl) (av ?_)))));refine lO rfl (fun h0=>?_) (fun h0=>?_)
 ·
  refine al ?_;refine ez (.inl rfl) (ob rfl rfl) (fun w hw=>?_);refine⟨?_,hw.sub (aur _)⟩;have:bm p=false:=by unfold bm;simp at h0⊢;omega
  rw[this]
 refine Gc ?_;refine kf oK oK (Gq ?_);refine cr (fW rfl) (av ?_);refine wN (zS rfl) (Gq ?_);refine cr (fW rfl) (cr (IQ rfl rfl) (av ?_));refine ez (.inl rfl) (ob rfl rfl) (fun w hw=>?_);refine⟨?_,hw.sub (aur _)⟩;congr 2;unfold bm;simp at h0⊢;obtain⟨⟨h1,h2⟩,h3⟩:=h0;simp[h2,h3,show p.bits=32\/p.bits=128 by omega]⟩
instance ao9(p:cH):rF Tryz.prog 57 [.agg (cR p)] (.bool (bm p)):=aea p
open Go.RowKit
def tm(k:Key):List Int:=(List.range 16).map fun i=>(bf k i:Int)
theorem S2(k:Key)(j:Nat)(x:Int)(h:(tm k)[j]? =some x):j<16/\x=bf k j:=by
 have hl:j<16:=by have:=(zz.1 h).1;simpa[tm]using this
 refine⟨hl,?_⟩;simp[tm,hl]at h;exact h.symm
theorem aeb{x y:UInt8}{xs ys:List UInt8}:Lib.compareBytes (x::xs) (y::ys)=if x.toNat<y.toNat then -1 else if y.toNat<x.toNat then 1 else Lib.compareBytes xs ys:=by
 simp[Lib.compareBytes,UInt8.lt_iff_toNat_lt]
theorem S3(a b:Key): ∀(n i:Nat),i+n=16->(∀j,j<i->bf a j=bf b j)->
  Lib.compareBytes ((List.range' i n).map fun j=>(bf a j).toUInt8) ((List.range' i n).map fun j=>(bf b j).toUInt8)=rJ a b
 |0,i,hi,hs=>by
  have:a=b:=uc fun j hj=>hs j (by omega);subst this;simp[Lib.compareBytes,rJ]
 |n+1,i,hi,hs=>by
  have ha:=jC a i;have hb:=jC b i;rw[List.range'_succ,atI,atI,aeb];have ea:(bf a i).toUInt8.toNat=bf a i:=by simp;omega
  have eb:(bf b i).toUInt8.toNat=bf b i:=by simp;omega
  rw[ea,eb]
  by_cases h1:bf a i<bf b i
  ·
   rw[if_pos h1];have:=O9 (by omega) hs h1;unfold rJ;rw[if_pos this]
  ·
   rw[if_neg h1]
   by_cases h2:bf b i<bf a i
   ·
    rw[if_pos h2];have:=O9 (by omega) (fun j hj=>(hs j hj).symm) h2;unfold rJ;rw[if_neg (by omega),if_pos this]
   ·
    rw[if_neg h2];exact S3 a b n (i+1) (by omega) fun j hj=>by
     by_cases e:j=i
     ·
      subst e;omega
     ·
      exact hs j (by omega)
theorem S4(k:Key):(⟨ByteArray.empty.data++(Lib.bytesOf (tm k)).toArray⟩:ByteArray).data.toList=(List.range' 0 16).map fun j=>(bf k j).toUInt8:=by
 simp[Lib.bytesOf,tm,List.range_eq_range']
theorem aec(a b:Key)(p q:Addr)(c c':Nat)(w:World)(hp: ∀j,j<16->w.cell? (p.add j)=some (.int .u8 (bf a j)))(hq: ∀j,j<16->w.cell? (q.add j)=some (.int .u8 (bf b j))):
  Calls Tryz.prog 66 [.slice (some p) 16 c, .slice (some q) 16 c'].toArray w fun e w'=>e= .returned (.int .i64 (rJ a b))/\Mem w [] w':=by
 refine yA (args:=[_,_]) Tryz.func66 rfl Tryz.ntmps66 rfl ?_;change Cw _ _ _ _ _ [(0, .slice (some p) 16 c),(1, .slice (some q) 16 c')] [];refine ET ?_;refine EU ?_;refine ag (gS rfl) ?_;refine ER ?_;refine EW ?_;refine ET ?_;refine EU ?_;refine ag (bo rfl) ?_;refine ag (bo rfl) ?_;refine ag (v:= .int .i64 (rJ a b)) ?_ ?_
 ·
  intro aa w1 ha hw;have vX: ∀j,j<16->w1.cell? (p.add j)=some (.int .u8 (bf a j)):=fun j hj=>by
   rw[←hp j hj];exact hw.below.cell (block_lt_of_cell (hp j hj))
  have hqb: ∀j,j<16->w1.cell? (q.add j)=some (.int .u8 (bf b j)):=fun j hj=>by
   rw[←hq j hj];exact hw.below.cell (block_lt_of_cell (hq j hj))
  have r1:=Lib.run_loadBytesX (P:=Tryz.prog) w1 (tm a) p .empty (fun j x hx=>by obtain⟨h1,rfl⟩:=S2 a j x hx;exact vX j h1);have r2:=Lib.run_loadBytesX (P:=Tryz.prog) w1 (tm b) q .empty (fun j x hx=>by obtain⟨h1,rfl⟩:=S2 b j x hx;exact hqb j h1);have l1:(tm a).length=16:=by simp[tm]
  have l2:(tm b).length=16:=by simp[tm]
  rw[l1]at r1;rw[l2]at r2;have e5:=ha.ev (x:= .tmp 5) (v:= .slice (some p) 16 c) rfl;have e6:=ha.ev (x:= .tmp 6) (v:= .slice (some q) 16 c') rfl;have gK:(callFunc 136 #[.slice (some p) 16 c, .slice (some q) 16 c']).run Tryz.prog w1= .ok (.value (.int .i64 (rJ a b))) w1:=by
   rw[run_callFunc_extern Tryz.func136 (by kernel_rfl) (by kernel_rfl) (by kernel_rfl) (e:=Extern.BytealgCompare.compare) (by kernel_rfl)];have:(Extern.BytealgCompare.compare #[.slice (some p) 16 c, .slice (some q) 16 c']).run Tryz.prog w1= .ok (.int .i64 (rJ a b)) w1:=by
    change Sem.run Tryz.prog (do pure (goInt (Extern.BytealgCompare.cmp (←Extern.Bytes.bytesOf (.slice (some p) 16 c)) (←Extern.Bytes.bytesOf (.slice (some q) 16 c'))))) w1=_;simp only[Extern.Bytes.bytesOf,Sem.run_bind,r1,r2,Sem.run_pure,Result.andThen];rw[Lib.cmp_eq,S4,S4,S3 a b 16 0 rfl (fun j h=>by omega)];rfl
   rw[this];rfl
  simp[execOp,resolve,Act.eval,Deferred.ofValue,invoke]at e5 e6⊢;rw[e5,e6,gK]
 refine ag (gS rfl) ?_;refine ER ?_;refine EW ?_;refine I3 ?_;refine ez (.inl rfl) (ob rfl rfl) (fun w hw=>?_);exact⟨rfl,hw.sub (aur _)⟩
theorem S5{w0 w:World}{L:List ai}{b:Nat}{p:cH}{T:TypeId}{i:Nat}(hw:Mem w0 L w)[hh:Has L b (cR p) T i](j:Nat)(hj:j<16):w.cell? ((⟨b,2,none⟩:Addr).add j)=some (.int .u8 (bf p.key j)):=by
 rw[Addr.gT,hw.cell hh.h,qR,jh _ j hj]
theorem Ly{p q:cH}(h1:bm p=true)(h2:bm q=true):eA p q=(if p.bits≠q.bits then decide (p.bits=32)else if p.key≠q.key then decide (p.key.toNat<q.key.toNat)else decide (p.len<q.len)):=by
 unfold eA;rw[h1,h2];rfl
theorem aed(p q:cH):rF Tryz.prog 58 [.agg (cR p), .agg (cR q)] (.bool (eA p q)):=⟨fun w=>by
 refine dz Tryz.func58 rfl Tryz.ntmps58 rfl ?_;refine Gc ?_;refine cm rfl fun b2=>cm rfl fun b3=>al ?_;refine cO (zS rfl) (av ?_);refine bJ rfl rfl rfl (fun hg=>(kC rfl).yl) (bJ rfl rfl rfl (fun hg=>zS (fa (aF hg rfl) iZ)) (bJ rfl rfl rfl (fun hg=>(nC (aF hg rfl)).yl) (av ?_)));refine lO rfl (fun h0=>?_) (fun h0=>?_)
 ·
  simp at h0;refine al ?_;refine ez (.inl rfl) (ob rfl rfl) (fun w hw=>?_);refine⟨?_,hw.sub (aur _)⟩;have:eA p q=false:=by unfold eA;cases h1:bm p<;>cases h2:bm q<;>simp_all
  rw[this]
 simp at h0;obtain⟨m1,m2⟩:=h0;refine di ?_;refine lO rfl (fun h1=>?_) (fun h1=>?_)
 ·
  simp at h1;refine aZ ?_;refine ez (.inl rfl) (ob rfl rfl) (fun w hw=>?_);exact⟨by rw[Ly m1 m2,if_pos h1],hw.sub (aur _)⟩
 simp at h1;refine Gc ?_;refine kf oK oK (Gq ?_);refine cr (yu rfl) (Gq ?_);refine cr (yu rfl) (wN (B6 rfl (fun w hw=>aec p.key q.key _ _ _ _ w (S5 hw) (S5 hw))) (aQ ?_));refine lO rfl (fun h2=>?_) (fun h2=>?_)
 ·
  simp at h2;refine aQ ?_;refine ez (.inl rfl) (ob rfl rfl) (fun w hw=>?_);exact⟨by rw[Ly m1 m2,if_neg (by simpa using h1),if_pos (fun e=>h2 ((Pa _ _).2 e)),decide_eq_decide.2 (Y7 _ _)],hw.sub (aur _)⟩
 simp at h2;refine fI ?_;refine ez (.inl rfl) (ob rfl rfl) (fun w hw=>?_);exact⟨by rw[Ly m1 m2,if_neg (by simpa using h1),if_neg (by simpa using(Pa _ _).1 h2)],hw.sub (aur _)⟩⟩
instance apa(p q:cH):rF Tryz.prog 58 [.agg (cR p), .agg (cR q)] (.bool (eA p q)):=aed p q
instance apb:eK Tryz.prog 22 34 19 40:=⟨Tryz.underlying22,by kernel_rfl⟩
instance apc:eK Tryz.prog 45 47 20 48:=⟨Tryz.underlying45,by kernel_rfl⟩
instance apd:eP Tryz.prog 53 (.slice none 0 0):=⟨by kernel_rfl⟩
instance ape:eK Tryz.prog 53 5 1 1:=⟨Tryz.underlying53,by kernel_rfl⟩
instance apf:eK Tryz.prog 56 180 4 48:=⟨Tryz.underlying56,by kernel_rfl⟩
instance apg:eK Tryz.prog 57 97 4 16:=⟨Tryz.underlying57,by kernel_rfl⟩
instance aph:eK Tryz.prog 60 3 1 8:=⟨Tryz.underlying60,by kernel_rfl⟩
instance api:eK Tryz.prog 74 73 38 80:=⟨Tryz.underlying74,by kernel_rfl⟩
instance apj:eK Tryz.prog 155 9 1 16:=⟨Tryz.underlying155,by kernel_rfl⟩
instance apk:eK Tryz.prog 178 53 1 24:=⟨Tryz.underlying178,by kernel_rfl⟩
instance apl:eK Tryz.prog 191 269 2 32:=⟨Tryz.underlying191,by kernel_rfl⟩
instance apm:eK Tryz.prog 366 60 1 24:=⟨Tryz.underlying366,by kernel_rfl⟩
instance apn:eK Tryz.prog 396 178 1 24:=⟨Tryz.underlying396,by kernel_rfl⟩
instance apo:eK Tryz.prog 399 402 4 32:=⟨Tryz.underlying399,by kernel_rfl⟩
instance apq:eK Tryz.prog 443 433 1 8:=⟨Tryz.underlying443,by kernel_rfl⟩
instance:bp ay 19:=⟨gN,fun r=>by
 have h:(cR r.p).all (·.oneCell')=true:=(inferInstance:gn (cR r.p) 18).one;rw[ay,av9,h];simp[Value.oneCell']⟩
instance:Deep Rt:=Deep.flat ay 19
instance:gD Rt ay 19:=⟨rfl,fun _=>rfl⟩
instance (r:Rt):gn (ay r) 19:=⟨gN r,bp.one r⟩
instance (r:Rt):mY (ay r) 0 18 (cR r.p):=⟨oq _,fun j hj=>by rw[auf];exact nJ r j hj⟩
instance (r:Rt):bQ (ay r) 18 (.int .u16 r.dN.toNat):=⟨ue r⟩
instance (r:Rt):bQ (ay r) 0 (.int .i64 r.p.bits):=⟨(nJ r 0 (by decide)).trans (yH r.p)⟩
instance (r:Rt):bQ (ay r) 1 (.int .i64 r.p.len):=⟨(nJ r 1 (by decide)).trans (yI r.p)⟩
theorem aee(d:Nat):tk Tryz.prog (d+1) 27 false [0]:=⟨⟨_,Tryz.underlying27,rfl⟩,by kernel_rfl,fun _=>rfl,Lp Tryz.underlying27⟩
theorem aef:Tryz.prog.stoodInHeld 34=false:=by kernel_rfl
theorem S6(d:Nat):tk Tryz.prog (d+1+1+1+1) 34 true (([0]++([0]++((List.replicate 16 [0]).flatten++[])))++([0]++[])):=⟨⟨_,Tryz.underlying34,rfl⟩,by kernel_rfl,(fun h=>by cases h),
 Lu Tryz.underlying34 aef ⟨by decide,rfl,_,_,_,rfl,S1 _,by decide,rfl,_,_,_,rfl,aee _,rfl⟩⟩
theorem aeg:Tryz.prog.eqGuardType Tryz.prog.depth 34=false:=by kernel_rfl
instance (a b:Rt):yq Tryz.prog 34 (.agg (ay a)) (.agg (ay b)) (decide (a=b)):=
 (S6 9996).eq.val rfl aeg (gN a) (gN b) (fun i k hk=>by
  have h0:k=0:=by
   have:k∈(([0]++([0]++((List.replicate 16 [0]).flatten++[])))++([0]++[])):=alM hk;simpa using this
  subst h0;have hi:i<19:=(zz.1 hk).1
  match i,hi with
  |0,_=>exact⟨_,_,(inferInstance:bQ (ay a) 0 _).h,(inferInstance:bQ (ay b) 0 _).h,rfl⟩
  |1,_=>exact⟨_,_,(inferInstance:bQ (ay a) 1 _).h,(inferInstance:bQ (ay b) 1 _).h,rfl⟩
  |j+2,hi=>
   rcases atA j 16 with h|h
   ·
    rw[avT j 2];exact⟨_,_,(nJ a _ (by omega)).trans ((qR a.p j).trans (jh _ j h)),(nJ b _ (by omega)).trans ((qR b.p j).trans (jh _ j h)),rfl⟩
   obtain rfl:j=16:=by omega
   exact⟨_,_,ue a,ue b,rfl⟩) (by rw[decide_eq_true_iff];exact⟨Pg,fun h=>by rw[h]⟩)
instance:su Tryz.prog 34 [] (.agg (ay bO)):=⟨fun w=>by unfold ay cR bO;rw[tl];kernel_rfl⟩
instance (p:cH)(h:UInt16):su Tryz.prog 34 [(0, .agg (cR p)),(1, .int .u16 h.toNat)] (.agg (ay ⟨p,h⟩)):=⟨fun w=>by kernel_rfl⟩
instance:eP Tryz.prog 34 (.agg (ay bO)):=⟨by unfold ay cR bO;rw[tl];kernel_rfl⟩
end Go.Proofs.YtkggjjnhnjjokaaGreatDoor
namespace Go.Kb
open Go.ax
instance:Plain Rt:=⟨fun _=>rfl⟩
instance:gv Rt:=gv.flat fun _ _=>trivial
structure bS where
 ak:cA
 table:Sl Rt
def dI(x:bS):Array Value:= #[.int .i64 x.ak.ae.pages, .int .i64 x.ak.ae.size,x.ak.ae.blocks.sv.val, .int .i64 x.ak.ae.ops, .bool x.ak.ae.off,x.ak.ae.aD.sv.val,x.ak.at_.sv.val, .int .u64 x.ak.gen.toNat, .int .i64 x.ak.last,x.table.sv.val]
instance:bp dI 10:=⟨fun _=>rfl,fun x=>by
 simp only[dI,avc,avl,avw,Sv.one,uu,uv,au4]⟩
instance (x:bS):gn (dI x) 10:=⟨rfl,bp.one x⟩
instance (x:bS):bQ (dI x) 1 (.int .i64 x.ak.ae.size):=⟨rfl⟩
instance (x:bS):bQ (dI x) 6 (x.ak.at_.sv.val):=⟨rfl⟩
instance (x:bS):bQ (dI x) 7 (.int .u64 x.ak.gen.toNat):=⟨rfl⟩
instance (x:bS):bQ (dI x) 8 (.int .i64 x.ak.last):=⟨rfl⟩
instance (x:bS):bQ (dI x) 9 (x.table.sv.val):=⟨rfl⟩
instance (x:bS):mY (dI x) 0 9 (cD x.ak):=⟨rfl,fun j hj=>by
 match j,hj with
 |0,_=>rfl
 |1,_=>rfl
 |2,_=>rfl
 |3,_=>rfl
 |4,_=>rfl
 |5,_=>rfl
 |6,_=>rfl
 |7,_=>rfl
 |8,_=>rfl⟩
instance (x:bS):mY (dI x) 0 6 (aV x.ak.ae):=⟨rfl,fun j hj=>by
 match j,hj with
 |0,_=>rfl
 |1,_=>rfl
 |2,_=>rfl
 |3,_=>rfl
 |4,_=>rfl
 |5,_=>rfl⟩
instance:Deep bS where
 c:=10
 cells:=dI
 size:=bp.size
 one:=bp.one
 cK h x:=Deep.cK h x.ak/\Deep.cK h x.table
 cz x:= .two (Deep.cz x.ak) (Deep.cz x.table)
 jA h x hs:=⟨Deep.jA h x.ak hs.1,Deep.jA h x.table hs.2.1⟩
 mono w w' x hg hb:=⟨Deep.mono w w' x.ak hg.1 hb,Deep.mono w w' x.table hg.2 hb⟩
instance:gv bS where
 reach x k:=gv.reach x.ak k\/gv.reach x.table k
 congr h h' x e hg:=⟨gv.congr h h' x.ak (fun k hk=>e k (.inl hk)) hg.1,gv.congr h h' x.table (fun k hk=>e k (.inr hk)) hg.2⟩
variable {w0:World}{L:List ai}
instance{x:bS}[q:aX w0 L x]:aX w0 L x.ak:=⟨fun w hw=>(q.h w hw).1⟩
instance{x:bS}[q:aX w0 L x]:aX w0 L x.table:=⟨fun w hw=>(q.h w hw).2⟩
instance{ak:cA}{table:Sl Rt}[q0:aX w0 L ak][q1:aX w0 L table]:aX w0 L (bS.mk ak table):=⟨fun w hw=>⟨q0.h w hw,q1.h w hw⟩⟩
def nr:bS:=⟨mH,⟨Sv.none,[]⟩⟩
structure FV where
 ak:VV
 table:List Rt
 deriving DecidableEq
def aM(f:bS):FV:=⟨vv f.ak,f.table.xs⟩
def rV:FV:=⟨lY,[]⟩
def za(b p s:Int):Int:=min (uH b p/2) (kJ s)
def xI(b p s:Int):Int:=jq (za b p s) (dW s)
def eE(c:CV):Int:=za c.blocks.length c.pages c.size
def eX(c:CV):Int:=xI c.blocks.length c.pages c.size
def eN(c:CV)(y:Int):List UInt8:=if y -1<0 then[]else jl c y
def cE(v:VV):List (List UInt8):=v.at_.map (eN v.ae)
def cJ(c:CV):FV×Int:=
 if eX c=0 then(rV,1)
 else if(bE c).2≠0 then(rV,(bE c).2)
 else if((bE c).1.at_.length:Int)≠eE c then(rV,2)
 else if lE (cE (bE c).1)≠0 then(rV,2)
 else(⟨(bE c).1,jV (cE (bE c).1)⟩,0)
def lF(c:CV):List (List UInt8):=if(cJ c).2=0 then cE (bE c).1 else[]
theorem S7{c:CV}(h:eX c=0):cJ c=(rV,1)/\lF c=[]:=by
 have e:cJ c=(rV,1):=by rw[cJ,if_pos h]
 exact⟨e,by rw[lF,e];rfl⟩
theorem S8{c:CV}(h: ¬eX c=0)(h1:(bE c).2≠0):cJ c=(rV,(bE c).2)/\lF c=[]:=by
 have e:cJ c=(rV,(bE c).2):=by rw[cJ,if_neg h,if_pos h1]
 exact⟨e,by rw[lF,e,if_neg h1]⟩
theorem S9{c:CV}(h: ¬eX c=0)(h1:(bE c).2=0)(h2:((bE c).1.at_.length:Int)≠eE c):cJ c=(rV,2)/\lF c=[]:=by
 have e:cJ c=(rV,2):=by rw[cJ,if_neg h,if_neg (fun g=>g h1),if_pos h2]
 exact⟨e,by rw[lF,e];rfl⟩
theorem Ta{c:CV}(h: ¬eX c=0)(h1:(bE c).2=0)(h2:((bE c).1.at_.length:Int)=eE c)(h3:lE (cE (bE c).1)≠0):cJ c=(rV,2)/\lF c=[]:=by
 have e:cJ c=(rV,2):=by rw[cJ,if_neg h,if_neg (fun g=>g h1),if_neg (fun g=>g h2),if_pos h3]
 exact⟨e,by rw[lF,e];rfl⟩
theorem Dj{c:CV}(h: ¬eX c=0)(h1:(bE c).2=0)(h2:((bE c).1.at_.length:Int)=eE c)(h3:lE (cE (bE c).1)=0):cJ c=(⟨(bE c).1,jV (cE (bE c).1)⟩,0)/\lF c=cE (bE c).1:=by
 have e:cJ c=(⟨(bE c).1,jV (cE (bE c).1)⟩,0):=by rw[cJ,if_neg h,if_neg (fun g=>g h1),if_neg (fun g=>g h2),if_neg (fun g=>g h3)]
 exact⟨e,by rw[lF,e,if_pos rfl]⟩
theorem Dk{c:CV}(h:(cJ c).2=0): ¬eX c=0/\(bE c).2=0/\((bE c).1.at_.length:Int)=eE c/\lE (cE (bE c).1)=0:=by
 by_cases h0:eX c=0
 ·
  rw[(S7 h0).1]at h;cases h
 by_cases h1:(bE c).2=0
 ·
  by_cases h2:((bE c).1.at_.length:Int)=eE c
  ·
   by_cases h3:lE (cE (bE c).1)=0
   ·
    exact⟨h0,h1,h2,h3⟩
   rw[(Ta h0 h1 h2 h3).1]at h;cases h
  rw[(S9 h0 h1 h2).1]at h;cases h
 rw[(S8 h0 h1).1]at h;exact absurd h h1
def jI(f:FV):Bool:=decide ((cJ {f.ak.ae with off:=false}).2=0)&&decide (f.ak.gen=(cJ {f.ak.ae with off:=false}).1.ak.gen)&&decide (f.ak.last=(cJ {f.ak.ae with off:=false}).1.ak.last)&&decide (f.ak.at_=(cJ {f.ak.ae with off:=false}).1.ak.at_)&&decide (f.table=(cJ {f.ak.ae with off:=false}).1.table)
theorem Lz{f:FV}:jI f=true↔(cJ {f.ak.ae with off:=false}).2=0/\f.ak.gen=(cJ {f.ak.ae with off:=false}).1.ak.gen/\f.ak.last=(cJ {f.ak.ae with off:=false}).1.ak.last/\f.ak.at_=(cJ {f.ak.ae with off:=false}).1.ak.at_/\f.table=(cJ {f.ak.ae with off:=false}).1.table:=by
 simp only[jI,ad2,decide_eq_true_eq,and_assoc]
theorem aeh{f:FV}:jI f=(decide ((cJ {f.ak.ae with off:=false}).2=0)&&mK f.ak&&decide ((cJ {f.ak.ae with off:=false}).1.table=f.table)):=by
 rw[avL,Lz];simp only[mK,ad2,decide_eq_true_eq];constructor
 ·
  rintro⟨h1,h2,h3,h4,h5⟩;obtain⟨g0,g1,g2,g3⟩:=Dk h1;rw[(Dj g0 g1 g2 g3).1]at h2 h3 h4;exact⟨⟨h1,⟨⟨g1,h2.symm⟩,h3.symm⟩,h4.symm⟩,h5.symm⟩
 rintro⟨⟨h1,⟨⟨g4,h2⟩,h3⟩,h4⟩,h5⟩;obtain⟨g0,g1,g2,g3⟩:=Dk h1;rw[(Dj g0 g1 g2 g3).1]at h5⊢;exact⟨rfl,h2.symm,h3.symm,h4.symm,h5.symm⟩
theorem Tb{bs:List (List UInt8)}(h:lE bs=0):cL (jV bs)=true:=by
 unfold lE jV at*
 cases hu:hK bs with
 |none=>rw[hu]at h;cases h
 |some t=>
  rw[hu]at h;simp only at h⊢
  by_cases ht:cL t=true
  ·
   rw[if_pos ht];exact ht
  rw[if_neg ht]at h;cases h
def bK(f:FV)(l:List Ch):FV×Int:=
 if jI f=false then(f,1)
 else if dh f.table l≠0 then(f,dh f.table l)
 else if jH (bH f.table l) (eE f.ak.ae) (dW f.ak.ae.size)≠0 then(f,jH (bH f.table l) (eE f.ak.ae) (dW f.ak.ae.size))
 else if fk (lF {f.ak.ae with off:=false}) (lD (bH f.table l) (eE f.ak.ae) (dW f.ak.ae.size))=[]then(⟨f.ak,bH f.table l⟩,0)
 else(⟨(eW f.ak (fk (lF {f.ak.ae with off:=false}) (lD (bH f.table l) (eE f.ak.ae) (dW f.ak.ae.size)))).1,if(eW f.ak (fk (lF {f.ak.ae with off:=false}) (lD (bH f.table l) (eE f.ak.ae) (dW f.ak.ae.size)))).2≠0 then f.table else bH f.table l⟩,(eW f.ak (fk (lF {f.ak.ae with off:=false}) (lD (bH f.table l) (eE f.ak.ae) (dW f.ak.ae.size)))).2)
def kP(c:CV):FV×Int:=if eX c=0 then(⟨⟨c,[],0,0⟩,[]⟩,1)else(⟨(pO c (eE c)).1,[]⟩,(pO c (eE c)).2)
def pQ(f:FV)(k:Key)(bits:Int):Rt:=if jI f=true then A1 f.table k bits else bO
def tn(f:FV)(k:Key)(bits:Int):Int:=if jI f=true then xH f.table k bits else 1
theorem Dl{w0 w:World}{L:List ai}{a:Sl Rt}(h:Mem w0 (own ay 19 a.sv a.xs::L) w):Mem w0 (fz a::L) w:=Gm (fun _ _ h=>h) (fun _ _=>trivial) h
theorem G8{w0 w:World}{L:List ai}{f:bS}(h:Mem w0 (fz f.ak.ae::fz f.ak.at_::fz f.table::L) w):Mem w0 (fz f::L) w:=by
 refine Mem.freeze (es:=[fz f.ak.ae,fz f.ak.at_,fz f.table]) f ⟨⟨h.sat (fz f.ak.ae) (by simp),h.sat (fz f.ak.at_) (by simp)⟩,h.sat (fz f.table) (by simp)⟩ (fun k hk=>?_) h;rcases hk with(hk|hk)|hk
 ·
  exact⟨fz f.ak.ae,by simp,hk⟩
 ·
  exact⟨fz f.ak.at_,by simp,hk⟩
 exact⟨fz f.table,by simp,hk⟩
theorem Tc{w0 w:World}{L:List ai}{f:bS}(h:Mem w0 (fz f.ak.ae::own cf 1 f.ak.at_.sv f.ak.at_.xs::own ay 19 f.table.sv f.table.xs::L) w):Mem w0 (fz f::L) w:=by
 have h1:=yU (a:=f.ak.at_) (h.perm (List.Perm.swap _ _ _));have h2:=Dl (a:=f.table) (h1.perm ((List.Perm.cons _ (List.Perm.swap _ _ _)).trans (List.Perm.swap _ _ _)));exact G8 (h2.perm ((List.Perm.cons _ (List.Perm.swap _ _ _)).trans ((List.Perm.swap _ _ _).trans (List.Perm.cons _ (List.Perm.swap _ _ _)))))
theorem G9{w0 w:World}{L:List ai}(h:Mem w0 L w):Mem w0 (fz nr::L) w:=
 Mem.freeze (es:=[]) nr ⟨⟨⟨wX,wX⟩,wX⟩,wX⟩ (fun k hk=>by
  rcases hk with(((⟨cd,_⟩|⟨x,hx,_⟩)|⟨cd,_⟩|⟨x,hx,_⟩)|⟨cd,_⟩|⟨x,hx,_⟩)|⟨cd,_⟩|⟨x,hx,_⟩
  all_goals first|exact absurd rfl cd|cases hx) h
theorem A3{w0 w:World}{L:List ai}:Mem w0 L w->Mem w0 (fz (⟨Sv.none,[]⟩:Sl (Sl UInt8))::L) w:=
 Mem.freeze (es:=[]) _ wX (fun k hk=>by
  rcases hk with⟨cd,_⟩|⟨x,hx,_⟩
  ·
   exact absurd rfl cd
  cases hx)
theorem Td(s:Int):0<=kJ s/\kJ s<=64:=by
 rw[kJ,dW];split
 ·
  rename_i h;have:=sZ.1 h;omega
 omega
theorem LA(c:CV):eE c<=64:=by
 have:=Td c.size;rw[eE,za];omega
theorem aei(b p:Int):0<=uH b p/\uH b p<=448:=by
 rw[uH];split
 ·
  omega
 rename_i h;have h1:0<=b -4/\b -4<=28:=by omega
 have h2:1<=p/\p<=16:=by omega
 exact⟨Int.mul_nonneg h1.1 (by omega),Int.le_trans (awl h1.2 h2.2 (by omega) (by omega)) (by decide)⟩
theorem LB{c:CV}(h:(bE c).2=0):(bE c).1.ae=c:=by
 obtain⟨_,_,e⟩:=KO h;rw[e]
theorem aej{c:CV}(h:(bE c).2=0):c.off=false:=by
 cases ho:c.off with
 |false=>rfl
 |true=>rw[bE,if_neg (by rw[KN h];simp),if_pos ho]at h;cases h
theorem Te{c:CV}(h:(bE c).2=0):mK (bE c).1=true:=by
 have e:{(bE c).1.ae with off:=false}=c:=by rw[LB h,←aej h]
 simp only[mK,e,h,decide_true,au4]
theorem aek(c:CV)(n:Int):(jl c n).length<=65536:=by
 rw[jl];split
 ·
  exact KJ _
 simp
theorem A4(v:VV):(cE v).length=v.at_.length:=by rw[cE,atM]
theorem ael(c:CV)(n:Int):(eN c n).length<=65536:=by
 rw[eN];split
 ·
  simp
 exact aek c n
theorem aem(c:CV):(lF c).length<=64:=by
 rw[lF];split
 ·
  rename_i h;obtain⟨g0,g1,g2,g3⟩:=Dk h;have:=LA c;rw[A4];omega
 simp
def eO(f:FV):List (List UInt8):=lF {f.ak.ae with off:=false}
def xJ(f:FV)(l:List Ch):Int:=jH (bH f.table l) (eE f.ak.ae) (dW f.ak.ae.size)
def dJ(f:FV)(l:List Ch):List (List UInt8):=lD (bH f.table l) (eE f.ak.ae) (dW f.ak.ae.size)
theorem aen{f:FV}{l:List Ch}(h0:jI f=false):bK f l=(f,1):=by rw[bK,if_pos h0]
theorem Ha(f:FV)(l:List Ch):bK f l=(if jI f=false then(f,1)
 else if dh f.table l≠0 then(f,dh f.table l)
 else if xJ f l≠0 then(f,xJ f l)
 else if fk (eO f) (dJ f l)=[]then(⟨f.ak,bH f.table l⟩,0)
 else(⟨(eW f.ak (fk (eO f) (dJ f l))).1,if(eW f.ak (fk (eO f) (dJ f l))).2≠0 then f.table else bH f.table l⟩,(eW f.ak (fk (eO f) (dJ f l))).2)):=rfl
theorem Tf{f:FV}{l:List Ch}(h0:jI f=true)(h1:dh f.table l≠0):bK f l=(f,dh f.table l):=by
 rw[Ha,if_neg (by rw[h0];simp),if_pos h1]
theorem Tg{f:FV}{l:List Ch}(h0:jI f=true)(h1:dh f.table l=0)(h2:xJ f l≠0):bK f l=(f,xJ f l):=by
 rw[Ha,if_neg (by rw[h0];simp),if_neg (fun h=>h h1),if_pos h2]
theorem Th{f:FV}{l:List Ch}(h0:jI f=true)(h1:dh f.table l=0)(h2:xJ f l=0)(h3:fk (eO f) (dJ f l)=[]):bK f l=(⟨f.ak,bH f.table l⟩,0):=by
 rw[Ha,if_neg (by rw[h0];simp),if_neg (fun h=>h h1),if_neg (fun h=>h h2),if_pos h3]
theorem Hb{f:FV}{l:List Ch}(h0:jI f=true)(h1:dh f.table l=0)(h2:xJ f l=0)(h3: ¬fk (eO f) (dJ f l)=[]):bK f l=(⟨(eW f.ak (fk (eO f) (dJ f l))).1,if(eW f.ak (fk (eO f) (dJ f l))).2≠0 then f.table else bH f.table l⟩,(eW f.ak (fk (eO f) (dJ f l))).2):=by
 rw[Ha,if_neg (by rw[h0];simp),if_neg (fun h=>h h1),if_neg (fun h=>h h2),if_neg h3]
def zb(f:FV):Bool:=aW f.ak.ae&&decide (f.ak.at_.length<=1000000)&&decide (f.table.length<=1000000)
end Go.Kb
namespace Go.Proofs.YtkggjjnhnjjokaaGreatDoor
open Go.ax Go.Kb
theorem aeo(a b:Int):rF Tryz.prog 74 [.int .i64 a, .int .i64 b] (.int .i64 (jq a b)):=⟨fun w=>by
 refine dz Tryz.func74 rfl Tryz.ntmps74 rfl ?_;refine aZ ?_;refine bJ rfl rfl rfl (fun hg=>(bo rfl).yl) (bJ rfl rfl rfl (fun hg=>(fE (aF hg rfl) rfl rfl).yl) (av ?_));refine bJ rfl rfl rfl (fun hg=>(bo rfl).yl) (bJ rfl rfl rfl (fun hg=>(fE (aF hg rfl) rfl rfl).yl) (av ?_));refine bJ rfl rfl rfl (fun hg=>(bo rfl).yl) (bJ rfl rfl rfl (fun hg=>(fE (aF hg rfl) rfl rfl).yl) (av ?_));refine lO rfl (fun h0=>?_) (fun h0=>?_)
 ·
  simp only[auA,decide_eq_true_eq]at h0;refine al ?_;refine ez (.inl rfl) (ob rfl rfl) (fun w hw=>?_);exact⟨congrArg (fun b=>Ending.returned (Value.int .i64 b)) ((if_pos oM).symm),hw.sub (aur _)⟩
 simp only[Bool.or_eq_false_iff,decide_eq_false_iff_not]at h0;have hq:b/20<=12:=by omega
 have xK:0<=b/20:=by omega
 have hm:a*(b/20)<=64*12:=awl oM hq xK (by decide);have oN:0<=a*(b/20):=au6 oM xK;refine al ?_;refine ag (n9 rfl rfl oM oM) (ag (vl rfl rfl oM) (ag (IU rfl rfl) (av ?_)));refine ez (.inl rfl) (ob rfl rfl) (fun w hw=>?_);exact⟨congrArg (fun b=>Ending.returned (Value.int .i64 b)) ((if_neg oM).symm),hw.sub (aur _)⟩⟩
instance apr(a b:Int):rF Tryz.prog 74 [.int .i64 a, .int .i64 b] (.int .i64 (jq a b)):=aeo a b
def Dm:Array Value:=Array.replicate 20 (.int .u8 0)
theorem tr:Dm.size=20:=by simp[Dm]
instance:eP Tryz.prog 317 (.agg Dm):=⟨by kernel_rfl⟩
theorem Ti(k:Key):(bR k).all (·.oneCell')=true:=(inferInstance:gn (bR k) 16).one
theorem aep(w0 w:World)(L:List ai)(s:Sv)(xs:List UInt8)(r:Rt)(hw:Mem w0 (own aO 1 s xs::L) w)(hl:xs.length<=1000000):Calls Tryz.prog 170 #[s.val, .agg (ay r)] w fun e w'=> ∃s':Sv,e= .returned s'.val/\s'.Ok/\s'.len=xs.length+20/\Mem w0 (own aO 1 s' (xs++fj r)::L) w':=by
 refine gV (args:=[_,_]) Tryz.func170 rfl Tryz.ntmps170 rfl hw ?_;change Cw _ _ _ _ _ [(0,s.val),(1, .agg (ay r))] (own aO 1 s xs::L);refine Gc ?_;refine cm rfl fun b3=>av ?_;refine bt fun b5=>aZ ?_;refine lO rfl (fun h0=>?_) (fun h0=>?_)
 ·
  simp only[decide_eq_true_eq]at h0;refine Gi ?_;refine ag (n8 rfl rfl oM oM) (dO rfl rfl (by simp[tr]) rfl rfl (ar ?_));refine ag (vk rfl (AI _)) (ag (n8 rfl rfl oM oM) (dO rfl rfl (by simp[tr]) rfl rfl (kD ?_)));refine wO 4 [] oK oK ?_;simp only[auD,atW];refine cr (Oe rfl rfl (by decide) (by decide)) (av ?_);refine cr (yu rfl) (vm (vn ?_));simp only[au3,auI];refine I1 (vs:=bR r.p.key) rfl rfl (by rw[eL];rfl) (fun w hw j hj=>by rw[Addr.gT,hw.cell (i:=1) rfl];exact(nJ r (2+j) (by rw[eL]at hj;omega)).trans (qR r.p j)) (Ti _) (by simp[eL,tr]) rfl (al ?_);refine ag (wM (p:=r.dN.toNat) rfl rfl (au0 r.dN.toNat_lt (by decide)) (by decide)) (ag (Ci (n:=r.dN.toNat/256) rfl rfl) (ag (n8 rfl rfl oM oM) (dO rfl rfl (by simp[ph,eL,tr]) rfl rfl (al ?_))));refine ag (Ci (n:=r.dN.toNat) rfl rfl) (ag (n8 rfl rfl oM oM) (dO rfl rfl (by simp[ph,eL,tr]) rfl rfl (av ?_)));refine ag (yu rfl) (nf (ys:=fj r) rfl rfl (by decide) (fun w hw=>jy (s:=⟨false,b5,0,20,20,none⟩) Tryz.underlying53 (by decide) (E7 (Rs r (by simp[tr]) (by simp[Dm,h0])) (re r) (by decide) w hw)) (by rw[re];omega) (by rw[re];omega) fun LC LD LF=>av ?_);refine ez (.inl rfl) (ob rfl rfl) (fun w hw=>?_);exact⟨LC,rfl,LD,LF.trans (by rw[adr,re]),hw.sub (List.Sublist.cons _ (List.Sublist.cons _ (List.Sublist.refl _)))⟩
 simp only[decide_eq_false_iff_not]at h0;refine ar ?_;refine ag (vk rfl (AI _)) (ag (n8 rfl rfl oM oM) (dO rfl rfl (by simp[tr]) rfl rfl (kD ?_)));refine wO 4 [] oK oK ?_;simp only[auD,atW];refine cr (Oe rfl rfl (by decide) (by decide)) (av ?_);refine cr (yu rfl) (vm (vn ?_));simp only[au3,auI];refine I1 (vs:=bR r.p.key) rfl rfl (by rw[eL];rfl) (fun w hw j hj=>by rw[Addr.gT,hw.cell (i:=1) rfl];exact(nJ r (2+j) (by rw[eL]at hj;omega)).trans (qR r.p j)) (Ti _) (by simp[eL,tr]) rfl (al ?_);refine ag (wM (p:=r.dN.toNat) rfl rfl (au0 r.dN.toNat_lt (by decide)) (by decide)) (ag (Ci (n:=r.dN.toNat/256) rfl rfl) (ag (n8 rfl rfl oM oM) (dO rfl rfl (by simp[ph,eL,tr]) rfl rfl (al ?_))));refine ag (Ci (n:=r.dN.toNat) rfl rfl) (ag (n8 rfl rfl oM oM) (dO rfl rfl (by simp[ph,eL,tr]) rfl rfl (av ?_)));refine ag (yu rfl) (nf (ys:=fj r) rfl rfl (by decide) (fun w hw=>jy (s:=⟨false,b5,0,20,20,none⟩) Tryz.underlying53 (by decide) (E7 (Rs r (by simp[tr]) (by simp[Dm,h0])) (re r) (by decide) w hw)) (by rw[re];omega) (by rw[re];omega) fun LC LD LF=>av ?_);refine ez (.inl rfl) (ob rfl rfl) (fun w hw=>?_);exact⟨LC,rfl,LD,LF.trans (by rw[adr,re]),hw.sub (List.Sublist.cons _ (List.Sublist.cons _ (List.Sublist.refl _)))⟩
theorem aeq(w:World)(s:Sv)(xs:List Rt)(hs:eJ ay 19 (hp w) s xs):Calls Tryz.prog 13 #[s.val] w fun e w'=>e= .returned (.bool (cL xs))/\Mem w [] w':=by
 refine ct Tryz.func13 rfl Tryz.ntmps13 rfl ?_;refine ar ?_;refine ag (Cd rfl hs.ok hs.len) (av ?_);refine lO rfl (fun h0=>?_) (fun h0=>?_)
 ·
  simp only[decide_eq_true_eq]at h0;refine al ?_;refine ez (.inl rfl) (ob rfl rfl) (fun w hw=>?_);exact⟨congrArg (fun b=>Ending.returned (Value.bool b)) ((Pc oM).symm),hw.sub (aur _)⟩
 simp only[decide_eq_false_iff_not]at h0;refine av ?_;refine ag (Cd rfl hs.ok hs.len) (av ?_);refine ck (X:=Nat) (fun i=>[(10, .int .i64 (i:Nat)),(9, .int .i64 (xs.length:Nat)),(8,s.val),(0,s.val)]) (fun i=>[]) (fun i=>i<=xs.length/\sL xs i=true) (fun i=>xs.length -i) 0 ⟨by omega,Pb xs⟩ sb (fun w hw=>hw) ?_;rintro i ⟨bl,aL⟩;refine al ?_;refine lO rfl (fun h1=>?_) (fun h1=>?_)
 ·
  simp only[decide_eq_true_eq]at h1;have bn:i<xs.length:=by omega
  obtain⟨r,hr⟩:=get_some bn;obtain⟨q,hq⟩:=get_some (xs:=xs) (i:=i -1) oM;refine av ?_;refine ag (pd rfl rfl rfl hs.ok (by rw[hs.len];omega)) (ag (Oz rfl (I6 hs) hr rfl) (bt fun b4=>ar ?_));refine ag (fW rfl) (cO (zS rfl) (av ?_));refine lO rfl (fun h2=>?_) (fun h2=>?_)
  ·
   refine al ?_;refine ez (.inl rfl) (ob rfl rfl) (fun w hw=>?_);exact⟨congrArg (fun b=>Ending.returned (Value.bool b)) ((Fp bn (Pe hr (by simpa using h2))).symm),hw.sub (aur _)⟩
  refine Gc ?_;refine kf oK oK (al ?_);refine gp rfl rfl rfl (fun hg=>(bo rfl).yl) (gp rfl rfl rfl (fun hg=>(bo rfl).yl) (gp rfl rfl rfl (fun hg=>(zT (aF hg rfl) rfl oM).yl) (gp rfl rfl rfl (fun hg=>(pd (i:=i -1) (aF hg rfl) (aF hg rfl) (by have:=of_decide_eq_true hg;omega) hs.ok (by rw[hs.len];omega)).yl) (gp rfl rfl rfl (fun hg=>(aN (aF hg rfl) rfl).yl) (gp rfl rfl rfl (fun hg=>(OA (j:=0) (aF hg rfl) (I6 hs) hq rfl (by decide)).yl) (gp rfl rfl rfl (fun hg=>(aN (o':=0) rfl rfl).yl) (gp rfl rfl rfl (fun hg=>(fW (aF hg rfl)).yl) (gp rfl rfl rfl (fun hg=>zS (fa (aF hg rfl) (fa (aF hg rfl) iZ))) (gp rfl rfl rfl (fun hg=>(nC (aF hg rfl)).yl) (av ?_))))))))));refine lO rfl (fun h3=>?_) (fun h3=>?_)
  ·
   refine al ?_;refine ez (.inl rfl) (ob rfl rfl) (fun w hw=>?_);exact⟨congrArg (fun b=>Ending.returned (Value.bool b)) ((Fp bn (by rw[Pf hr hq,h3];simp)).symm),hw.sub (aur _)⟩
  refine al ?_;refine Gi ?_;exact bw (i+1) ⟨by omega,by rw[Jq,aL,Pf hr hq,h3];simpa using h2⟩ oM sb (fun w hw=>hw.sub (aur _))
 simp only[decide_eq_false_iff_not]at h1;refine al ?_;refine ez (.inl rfl) (ob rfl rfl) (fun w hw=>?_);exact⟨congrArg (fun b=>Ending.returned (Value.bool b)) ((Pd oM (by rwa [show i=xs.length by omega]at aL)).symm),hw.sub (aur _)⟩
variable {w0:World}{L:List ai}
instance aps{s:Sv}{ss:List Rt}[h:dy w0 L ay 19 s ss]:bU Tryz.prog 13 w0 L [s.val] (.bool (cL ss)) True:=⟨fun _ w hw=>aeq w s ss (h.h w hw)⟩
instance:bp cR 18:=⟨oq,fun p=>(inferInstance:gn (cR p) 18).one⟩
theorem aer(w:World)(b2 b3:Nat)(s:Sv)(ss:List Rt)(q:cH)(j:Nat)(h2:eJ tW 1 (hp w) ⟨false,b2,0,1,1,none⟩ [s])(h3:eJ cR 18 (hp w) ⟨false,b3,0,1,1,none⟩ [q])(hs:eJ ay 19 (hp w) s ss)(hj:j<ss.length):Calls Tryz.prog 130 #[.int .i64 (j:Nat), .pointer (some ⟨b2,0,none⟩), .pointer (some ⟨b3,0,none⟩)] w fun e w'=>e= .returned (.bool (behind ss q j))/\Mem w [] w':=by
 have g2:Gv w ⟨false,b2,0,1,1,none⟩ tW 1 [s]:=⟨h2⟩;have g3:Gv w ⟨false,b3,0,1,1,none⟩ cR 18 [q]:=⟨h3⟩;have gs:Gv w s ay 19 ss:=⟨hs⟩;refine um Tryz.func130 rfl Tryz.ntmps130 rfl ?_;refine al ?_;refine kf oK oK (cr (bT (s:=⟨false,b2,0,1,1,none⟩) (enc:=tW) (c:=1) (xs:=[s]) (a:=s) (j:=0) (v:=s.val) rfl 0 rfl rfl (by decide)) (Gq ?_));obtain⟨r,hr⟩:=get_some (xs:=ss) (i:=j) oM;refine cr (bh rfl rfl j rfl oM) (cr (aN rfl rfl) (cr (E8 (j:=0) rfl j hr rfl (by decide)) (cr (iJ (s:=⟨false,b3,0,1,1,none⟩) (enc:=cR) (c:=18) (xs:=[q]) (a:=q) rfl 0 rfl rfl) (wN (bM rfl trivial) (al ?_)))));refine Gr fun w1 hw=>?_;exact Ge ((by simp only[behind,hr])) hw
theorem aes(w:World)(n:Nat)(p:Nat->Bool)(f:FuncId)[hf:aI Tryz.prog f](lU:Array Value)(hF: ∀w',Mem w [] w'-> ∀j:Nat,j<n->Calls Tryz.prog f ([Value.int .i64 (j:Nat)]++lU.toList).toArray w' fun e qM=>e= .returned (.bool (p j))/\Mem w' [] qM)(hn:n<=1000000000):Calls Tryz.prog 129 #[.int .i64 (n:Nat), .func (.func f) #[] lU] w fun e w'=>e= .returned (.int .i64 (bs p n:Nat))/\Mem w [] w':=by
 refine dz Tryz.func129 rfl Tryz.ntmps129 rfl ?_;refine di ?_;refine ck (X:=Nat×Nat) (fun U=>[(5, .int .i64 (U.1:Nat)),(6, .int .i64 (U.2:Nat)),(1, .func (.func f) #[] lU)]) (fun U=>[]) (fun U=>U.1<=U.2/\U.2<=n/\me p (n+1) U.1 U.2=bs p n) (fun U=>U.2 -U.1) (0,n) ⟨Nat.zero_le _,Nat.le_refl _,rfl⟩ sb (fun w hw=>ah.mem hw) ?_;rintro⟨i,j⟩ ⟨bl,aL,bC⟩;dsimp only;simp only at bl aL bC;refine aQ ?_;refine Gb ?_ ?_<;>intro h0
 ·
  refine ar ?_;refine ag (kX (n:=i+j) rfl (by simp only[nb];omega)) (ag (wM (p:=i+j) rfl rfl (by simp only[nb];omega) oM) (ag (kX (n:=(i+j)/2^1) rfl (by simp only[nb];omega)) (ar ?_)));refine cO (FQ rfl rfl (fun w1 mr=>hF w1 mr ((i+j)/2) oM)) (av ?_);refine Gb ?_ ?_<;>intro h1
  ·
   refine Gi ?_;refine al ?_;refine gu ?_;exact bw (x:=(i,j)) ((i+j)/2+1,j) ⟨oF,aL,by rw[←bC,SL (show i<j by first|omega|(simp only[];omega)) oF,if_neg (by rw[h1];simp)]⟩ (by simp only;omega) sb (fun w hw=>ah.mem hw)
  refine Gi ?_;refine av ?_;refine gu ?_;exact bw (x:=(i,j)) (i,(i+j)/2) ⟨oF,oF,by rw[←bC,SL (show i<j by first|omega|(simp only[];omega)) oF,if_pos h1]⟩ (by simp only;omega) sb (fun w hw=>ah.mem hw)
 refine ar ?_;refine Gr fun w1 hw=>?_;exact Gf ((by rw[←bC,adS oM oM])) hw
instance apt{t:Sv}{ts:List Rt}{p:cH}[ht:dy w0 L ay 19 t ts]:bU Tryz.prog 62 w0 L [t.val, .agg (cR p)] (.tuple #[.int .i64 ((db ts p:Nat):Int), .bool (mQ ts p)]) (ts.length<=1000000):=⟨fun aA w hw=>by
 have ht:=ht.h w hw;have Dn:Gv w t ay 19 ts:=⟨ht⟩;refine dz Tryz.func62 rfl Tryz.ntmps62 rfl ?_;refine Gc ?_;refine I0 rfl fun b2=>cm rfl fun b3=>aQ ?_;refine ag (J2 (vs:=[.pointer (some ⟨b2,0,none⟩), .pointer (some ⟨b3,0,none⟩)]) rfl) ?_;refine cO (B6 (v:= .int .i64 (db ts p:Nat)) rfl (fun w1 mr=>aes (f:=130) w1 ts.length (behind ts p) #[.pointer (some ⟨b2,0,none⟩), .pointer (some ⟨b3,0,none⟩)] (fun w2 fx j hj=>aer w2 b2 b3 t ts p j ((E7 (b:=b2) (cs:=t.val.cells) (enc:=tW) (xs:=[t]) (n:=1) (by rw[Sv.jM];rfl) rfl (by decide) w1 mr).mono fx.below) ((E7 (b:=b3) (cs:=cR p) (enc:=cR) (c:=18) (xs:=[p]) (n:=1) (by simp[aJ]) rfl (by decide) w1 mr).mono fx.below) (((inferInstance:Hd w _ t ay 19 ts).h w1 mr).mono fx.below) hj) oM)) ?_;refine av ?_;refine kf oK oK (aZ ?_);refine gp rfl rfl rfl (fun hg=>(Ry.yl (bI rfl))) (Gh ?_);refine gp rfl rfl rfl (fun hg=>(Ry.yl (bh (aF hg rfl) (aF hg rfl) (db ts p) rfl (by simp only[Z0,Z1,Z2,Z3,Z4,Z5,Z6,Z7,Z8,Z9]at hg;omega)))) (gp rfl rfl rfl (fun hg=>(Ry.yl (aN (aF hg rfl) rfl))) (gp rfl rfl rfl (fun hg=>(Ry.yl (E8 (j:=0) (aF hg rfl) (db ts p) (po (xs:=ts) (i:=(db ts p)) (d:=bO) (by simp only[Z0,Z1,Z2,Z3,Z4,Z5,Z6,Z7,Z8,Z9]at hg;omega)) rfl (by decide)))) (gp rfl rfl rfl (fun hg=>(Ry.yl (kC rfl))) (gp rfl rfl rfl (fun hg=>(Ry.yl (IQ (aF hg rfl) (aF hg rfl)))) (ar ?_)))));refine Gr fun w1 hw=>?_;exact⟨(by rw[adT]),ah.mem hw⟩⟩
instance apu{t:Sv}{ts:List Rt}{k:Key}{bits:Int}[ht:dy w0 L ay 19 t ts]:bU Tryz.prog 15 w0 L [t.val, .agg (bR k), .int .i64 bits] (.tuple #[.agg (ay (A1 ts k bits)), .int .i64 (xH ts k bits)]) (True):=⟨fun aA w hw=>by
 have ht:=ht.h w hw;have Dn:Gv w t ay 19 ts:=⟨ht⟩;refine um Tryz.func15 rfl Tryz.ntmps15 rfl ?_;refine Gc ?_;refine cm rfl fun b4=>bt fun b6=>fI ?_;refine bJ rfl rfl rfl (fun hg=>(Ry.yl (kC rfl))) (bJ rfl rfl rfl (fun hg=>(Ry.yl (fP (B8 (aF hg rfl) (B8 (aF hg rfl) (B8 (aF hg rfl) Oc)))))) (bJ rfl rfl rfl (fun hg=>bM (fa (aF hg rfl) iZ) trivial) (bJ rfl rfl rfl (fun hg=>(Ry.yl (nC (aF hg rfl)))) (av ?_))));refine Gb ?_ ?_<;>intro h0
 ·
  have hk:A0 ts k bits=false:=by rw[A0];rcases h0 with h|h;rw[h];rfl;rw[h];simp
  refine Gc ?_;refine ag (fP rfl) (al ?_);refine Gr fun w1 hw=>?_;exact⟨(by rw[A1,if_neg (by rw[hk];simp),xH,if_neg (by rw[hk];simp)]),ah.mem hw⟩
 have hr:cL ts=true:=by simpa using h0.1
 have hk:A0 ts k bits=true:=by rw[A0,hr];simpa using h0.2
 have hlen:=xd hr;have hb:bits=32\/bits=128:=((vB _).1 (by simpa using h0.2:bm ⟨bits,bits,k⟩=true)).1;refine ar ?_;refine ck (X:=Int) (fun U=>[(8, .int .i64 U),(0,t.val),(2, .int .i64 bits),(4, .pointer (some ⟨b4,0,none⟩)),(6, .pointer (some ⟨b6,0,none⟩))]) (fun U=>[aq b6 (ay bO) 34,aq b4 (bR k) 25]) (fun U=> -1<=U/\U<=bits/\(U<0->uJ ts k bits bits.toNat=none)/\(∀m:Nat,U=m->uJ ts k bits bits.toNat=uJ ts k bits m)) (fun U=>(U+1).toNat) bits ⟨oF,aul _,fun h=>by first|omega|(simp only[];omega),fun m h=>by rw[h];rfl⟩ sb (fun w hw=>ah.mem hw) ?_;rintro n ⟨vY,zd,xL,LG⟩;refine ar ?_;refine Gb ?_ ?_<;>intro h1
 ·
  obtain⟨m,rfl⟩: ∃m:Nat,n=(m:Int):=⟨n.toNat,by omega⟩;refine aZ ?_;refine ag (fP rfl) (bt fun b9=>ar ?_);refine cO (bM rfl oM) (Gs ?_);refine ag (aE (v:= .int .i64 ((db ts (⟨bits,((m:Nat):Int),(ff k ((m:Nat):Int))⟩:cH):Nat):Int)) rfl rfl) (ag (aE (v:= .bool (mQ ts (⟨bits,((m:Nat):Int),(ff k ((m:Nat):Int))⟩:cH))) rfl rfl) (aQ ?_));refine Gb ?_ ?_<;>intro h2
  ·
   have Ay: ∃r,ts[db ts ⟨bits,m,ff k m⟩]? =some r/\AZ ts k bits m=some r:=by obtain⟨r,_,h8,_⟩:=Dg h2;exact⟨r,h8,by rw[AZ,if_pos h2,h8]⟩
   obtain⟨r,gz,vZ⟩:=Ay;have v7:uJ ts k bits bits.toNat=some r:=by rw[LG m rfl];cases m with|zero=>exact vZ|succ m=>rw[uJ,vZ]
   refine al ?_;refine ag (bh rfl rfl (db ts ⟨bits,m,ff k m⟩) oM (zz.1 gz).1) ?_;refine ag (iJ rfl (db ts ⟨bits,m,ff k m⟩) gz rfl) (al ?_);refine Gr fun w1 hw=>?_;exact⟨(by rw[A1,if_pos hk,xH,if_pos hk,v7];rfl),ah.mem hw⟩
  have Ay:AZ ts k bits m=none:=by rw[AZ,if_neg (by rw[h2];simp)]
  refine ar ?_;refine Gi ?_;exact bw (x:=((m:Nat):Int)) ((m:Int) -1) ⟨oF,oF,fun h=>by obtain rfl:m=0:=oF;rw[LG 0 rfl];exact Ay,fun m2 h=>by obtain rfl:m=m2+1:=oF;rw[LG _ rfl,uJ,Ay]⟩ oF sb (fun w hw=>ah.mem hw)
 have mR:uJ ts k bits bits.toNat=none:=xL oM;refine Gc ?_;refine ag (fP rfl) (al ?_);refine Gr fun w1 hw=>?_;exact⟨(by rw[A1,if_pos hk,xH,if_pos hk,mR];rfl),ah.mem hw⟩⟩
instance apv{s:Sv}{ss:List Rt}[hs:dy w0 L ay 19 s ss]:bV Tryz.prog 68 w0 L [s.val] (Sv) (fun U=>U.val) (fun U=>own ay 19 U ss::L) (fun U=>True) (ss.length<=1000000):=⟨fun aA w hw=>Gk (fun U=>[own ay 19 U ss]) hw (by
 have hs:=hs.h w hw;have ze:Gv w s ay 19 ss:=⟨hs⟩;refine ct Tryz.func68 rfl Tryz.ntmps68 rfl ?_;refine ar ?_;refine ag (vw Tryz.underlying22 rfl) (Gc ?_);refine Gb ?_ ?_<;>intro h0
 ·
  have e0:ss=[]:=atJ.1 (by have:=hs.ok.nil h0;have:=hs.len;omega);refine al ?_;refine Gr fun w1 hw=>?_;exact⟨Sv.none,rfl,trivial,by rw[e0];exact(ah.mem hw:Mem w [] _).dK ay 19⟩
 refine Gc ?_;refine wW ay fun b5=>Gs ?_;refine nf (s:=⟨false,b5,0,0,0,none⟩) (ys:=ss) rfl rfl (by decide) (fun w hw=>jy (s:=s) Tryz.underlying22 (by decide) ((inferInstance:Hd _ _ s ay 19 ss).h w hw)) (by simp only[adr,af0,anc];omega) (by simp only[adr,af0,anc];omega) fun s7 zf xM=>?_;refine av ?_;refine Gr fun w1 hw=>?_;exact⟨s7,rfl,trivial,by simpa using hw⟩)⟩
instance:QQ Tryz.prog 200 22 4:=⟨⟨Tryz.f200,Tryz.func200,by kernel_rfl,by kernel_rfl,by kernel_rfl,by kernel_rfl⟩⟩
theorem aet(w0 w:World)(L:List ai)(s:Sv)(ss:List Rt)(n:Nat)(m:Nat)(hw:Mem w0 (own ay 19 s ss::L) w)(aA:n<=m/\m<=ss.length):Calls Tryz.prog 138 #[s.val, .int .i64 (n:Nat), .int .i64 (m:Nat)] w fun e w'=> ∃U:Sv,e= .returned (U.val)/\(True)/\Mem w0 (own ay 19 U (ss.take n++ss.drop m)::L) w':=by
 obtain⟨mf,jF⟩:=aA;refine gV (args:=[_,_,_]) Tryz.func138 rfl Tryz.ntmps138 rfl hw ?_;change Cw _ _ _ _ _ [(0,s.val),(1, .int .i64 (n:Nat)),(2, .int .i64 (m:Nat))] (own ay 19 s ss::L);refine fI ?_;refine ag (QO (l:=n) (h:=m) (m:=ss.length) rfl rfl rfl rfl rfl rfl rfl oM oM oM) (aQ ?_);refine Gb ?_ ?_<;>intro h0
 ·
  obtain rfl:n=m:=by omega
  refine ar ?_;refine Gr fun w1 hw=>?_;exact⟨s,rfl,trivial,by rw[auc];exact hw⟩
 refine kD ?_;refine YF s fun apw=>?_;have bn:n<m:=by omega
 refine QK (s:=s) inferInstance (by decide) oM fun pre mid T ca vr pz ft bN qj=>?_;have hle:=bN.le;have kg:=bN.bd;have xN:(aJ ay (ss.drop m)).length=(ss.length -m)*19:=by rw[ia,atD]
 have Tj:(aJ ay (ss.take n)).length=n*19:=by rw[ia,atq];congr 1;omega
 have v8:(aJ ay ss).length=ss.length*19:=ia ss;have exs:aJ ay ss=aJ ay (ss.take m)++aJ ay (ss.drop m):=by rw[←yS,auc]
 have hlm:(aJ ay (ss.take m)).length=m*19:=by rw[ia,atq];congr 1;omega
 obtain⟨X,hX⟩: ∃X,aJ ay ss=aJ ay (ss.take n)++X:=⟨aJ ay (ss.drop n),by rw[←yS,auc]⟩;have hXl:n*19+X.length=ss.length*19:=by rw[←v8,hX,adr,Tj]
 obtain⟨r1,gz⟩: ∃r:Sv,r=(⟨false,s.b,s.o,n+(ss.length -m),s.cap,none⟩:Sv):=⟨_,rfl⟩;refine Gi ?_;refine Gs ?_;refine ag (Cd rfl bN qj) (Gs ?_);refine kD ?_;refine wO 6 [] oK oK ?_;simp only[auD,atW];refine av ?_;have Tk:Rg 0 n ss.length:=⟨by omega⟩;refine cr (wQ (h:=n) rfl rfl rfl bN oM) (av ?_);have aeu:Rg m ss.length ss.length:=⟨by omega⟩;refine cr (tT (l:=m) (n:=ss.length) rfl rfl rfl bN qj oM) (vm (vn ?_));simp only[au3,auI];refine abZ (D:=s.sub 19 0 n) (S:=s.sub 19 m ss.length) (b:=s.b) (o:=s.o+n*19) (n:=ss.length -m) (vs:=aJ ay (ss.drop m)) (R:=r1) (cs':=(pre++(aJ ay (ss.take n)++(aJ ay (ss.drop m)++(X++mid).drop (aJ ay (ss.drop m)).length))).toArray) rfl rfl pz ft rfl (by rw[Sv.CQ];rfl) pz ft rfl rfl xN (by show n -0+_<=s.cap -0;omega) (fun w hw j v hj=>by
  have j9:=(zz.1 hj).1;rw[xN]at j9;rw[Sv.xm oM];show w.cell? ⟨s.b,_,none⟩=_;rw[hw.cell (inferInstance:Has _ s.b _ _ _).h,auT,atz oM,atN oM,exs,atz oM,←hj];congr 1;omega) (vp _) (by simp only[auj,adr];omega) (by rw[hX,atw,←atw pre,Az (by rw[adr];omega),atw]) (by rw[gz,Sv.CQ];rfl) ?_
 refine ar ?_;refine ag (Cd (n:=n+(ss.length -m)) (s:=r1) rfl (by rw[gz];exact⟨(fun h=>by cases h),by simp only;omega,by simp only;omega,fun _=>rfl⟩) (by rw[gz])) (Gs ?_);refine ag (EZ (s:=r1) (l:=n+(ss.length -m)) (h:=ss.length) rfl rfl rfl rfl rfl (by rw[gz];exact⟨(fun h=>by cases h),by simp only;omega,by simp only;omega,fun _=>rfl⟩) oM (by rw[gz];simp only;omega)) ?_;refine ab1 (D:=r1.sub 19 (n+(ss.length -m)) ss.length) (b:=s.b) (o:=s.o+(n+(ss.length -m))*19) (n:=m -n) (z:= .agg (ay bO)) rfl (by rw[gz];rfl) (by rw[gz];rfl) (by rw[gz];rfl) (by rw[gz,Sv.xm (by show _<s.cap;omega)]) (by show ss.length -(n+(ss.length -m))=_;omega) oM (show(ay bO).all (·.oneCell')=true from(inferInstance:bp ay 19).one bO) (by simp only[auj,adr,atD];omega) fun Z hZ=>?_;refine ar ?_;refine Gr fun w1 hw=>?_;refine⟨r1,rfl,trivial,?_⟩;rw[show(pre++(aJ ay (ss.take n)++(aJ ay (ss.drop m)++(X++mid).drop (aJ ay (ss.drop m)).length)))=(pre++(aJ ay (ss.take n)++aJ ay (ss.drop m)))++(X++mid).drop (aJ ay (ss.drop m)).length from by simp only[atw],Az (A:=pre++(aJ ay (ss.take n)++aJ ay (ss.drop m))) (by simp only[adr];omega),←yS,atw pre]at hw;have fx:=Kk (enc:=ay) (i:=0) (xs:=ss.take n++ss.drop m) (pre:=pre) hw rfl r1 (by rw[gz];exact⟨(fun h=>by cases h),by simp only;omega,by simp only;omega,fun _=>rfl⟩) (by rw[gz]) (by rw[gz]) (by rw[gz]) (by rw[gz];exact ca.symm) (by rw[gz];simp only[adr,atq,atD];omega) (by rw[gz];simp only[adr,atq,atD];omega);exact fx
instance apx{w0:World}{L R:List ai}{i:Nat}{s:Sv}{ss:List Rt}{n:Nat}{m:Nat}[q:fX L s ay 19 ss i][d:cn L i R]:bV Tryz.prog 138 w0 L [s.val, .int .i64 (n:Nat), .int .i64 (m:Nat)] (Sv) (fun U=>U.val) (fun U=>own ay 19 U (ss.take n++ss.drop m)::R) (fun U=>True) (n<=m/\m<=ss.length):=⟨fun hp w hw=>aet w0 w R s ss n m (FP q.h d.h hw) hp⟩
theorem aev(w0 w:World)(L:List ai)(s:Sv)(ss:List Rt)(v:Sv)(r:Rt)(n:Nat)(hw:Mem w0 (own ay 19 s ss::own ay 19 v [r]::L) w)(aA:n<=ss.length/\ss.length<=1000000):Calls Tryz.prog 139 #[s.val, .int .i64 (n:Nat),v.val] w fun e w'=> ∃U:Sv,e= .returned (U.val)/\(True)/\Mem w0 (own ay 19 U (ss.take n++r::ss.drop n)::L) w':=by
 obtain⟨mf,jF⟩:=aA;refine gV (args:=[_,_,_]) Tryz.func139 rfl Tryz.ntmps139 rfl hw ?_;change Cw _ _ _ _ _ [(0,s.val),(1, .int .i64 (n:Nat)),(2,v.val)] (own ay 19 s ss::own ay 19 v [r]::L);refine aQ ?_;have aew:Rg n ss.length ss.length:=⟨by omega⟩;refine ag (Cm rfl rfl n rfl aew.h.1) (av ?_);refine ag (Ry.to (v':= .int .i64 (1:Nat)) (tY rfl) rfl) (aQ ?_);refine Gb ?_ ?_<;>intro h0
 ·
  exfalso;omega
 refine ja ?_;refine Gb ?_ ?_<;>intro h1
 ·
  refine al ?_;refine nf (s:=s) (ys:=[r]) rfl rfl (by decide) (fun w hw=>jy (s:=v) Tryz.underlying22 (by decide) ((inferInstance:Hd _ _ v ay 19 [r]).h w hw)) (by simp only[af0,anc];omega) (by simp only[af0,anc];omega) fun s25 apy apz=>?_;refine av ?_;refine Gr fun w1 hw=>?_;exact⟨s25,rfl,trivial,by rw[atC oM,List.drop_of_length_le oM];exact ah.mem hw⟩
 refine J1 ?_;have bn:n<ss.length:=by omega
 refine F5 (s:=v) (enc:=ay) inferInstance (by simp) fun Tl zM apA A5=>?_;have Tm:v.len=1:=A5;refine QK (s:=s) inferInstance (by decide) oM fun pre mid T ca vr pz ft bN qj=>?_;have hle:=bN.le;have kg:=bN.bd;obtain⟨x,hx⟩:=get_some (xs:=ss) (i:=n) oM;have hA:(aJ ay (ss.take n)).length=n*19:=by rw[ia,atq];congr 1;omega
 have hB:(aJ ay (ss.drop n)).length=(ss.length -n)*19:=by rw[ia,atD]
 have oO:(aJ ay [r]).length=19:=by rw[ia];rfl
 have LH:(aJ ay [x]).length=19:=by rw[ia];rfl
 have zg:aJ ay ss=(aJ ay (ss.take n))++(aJ ay (ss.drop n)):=by rw[←yS,auc]
 have Tn:(aJ ay (ss.drop n))=(aJ ay [x])++(aJ ay (ss.drop (n+1))):=by rw[←yS,avr bn,show ss[n]=x from(zz.1 hx).2];rfl
 have v8:(aJ ay ss).length=ss.length*19:=ia ss;have A6:aJ ay (ss.take n++r::ss.drop n)=(aJ ay (ss.take n))++((aJ ay [r])++(aJ ay (ss.drop n))):=by rw[yS,←yS [r]];rfl
 have Hc:(ss.take n++r::ss.drop n).length=ss.length+1:=by simp only[adr,atq,af0,atD];omega
 have gU: ∀(w1:World) L',Mem w0 (aq s.b (pre++(aJ ay ss++mid)).toArray T::L') w1-> ∀j u,(aJ ay ss)[j]? =some u->w1.cell? ⟨s.b,s.o+j,none⟩=some u:=fun w1 L' mr j u hj=>abV mr ca hj;refine Gi ?_;refine ar ?_;refine ag (ab2 (n:=s.cap) rfl pz rfl) (av ?_);refine Gb ?_ ?_<;>intro h2
 ·
  refine al ?_;refine ag (wQ (h:=n) rfl rfl rfl bN oM) (aQ ?_);refine ab0 (D:=s.sub 19 0 n) (k:=ss.length+1 -n) (p:=n) (m:=ss.length+1) (olds:=(aJ ay (ss.take n))) rfl oM rfl rfl oM oM pz ft (by decide) Tryz.underlying3 hA (fun w hw j u hj=>by
   have j9:=(zz.1 hj).1;rw[Sv.CQ];exact gU w _ hw j u (by rw[zg,atN j9];exact hj)) (by show s.cap -0<n -0+_;omega) (by show(n -0+_)*_<=_;omega) (by show n -0+_<=_;omega) fun xO xP Dp apB apC=>?_
  refine ar ?_;refine ag (tT (s:=(⟨false,xO,0,ss.length+1,xP,none⟩:Sv)) (l:=n) (n:=ss.length+1) rfl rfl rfl ⟨(fun h=>by cases h),by simp only;omega,by simp only;omega,fun _=>rfl⟩ rfl oM) (Gs ?_);refine F6 (D:=(⟨false,xO,0,ss.length+1,xP,none⟩:Sv).sub 19 n (ss.length+1)) (S:=v) (b:=xO) (o:=n*19) (n:=1) (vs:=(aJ ay [r])) (cs':=((aJ ay (ss.take n))++((aJ ay [r])++Dp.drop 19)).toArray) rfl rfl rfl rfl rfl (by rw[Sv.xm (by show n<xP;omega)];exact auf _) Tl zM (by rw[Tm];exact Kj (b:=ss.length+1 -n) oM) (by rw[oO]) (fun w hw j u hj=>QL (enc:=ay) (xs:=[r]) (by decide) inferInstance hw hj) (vp _) (by simp only[auj,adr];omega) (by rw[Az (A:=(aJ ay (ss.take n))) hA.symm,oO]) ?_;refine kD ?_;refine wO 8 [] oK oK ?_;simp only[auD,atW];refine ar ?_;refine cr (tT (s:=(⟨false,xO,0,ss.length+1,xP,none⟩:Sv)) (l:=n+1) (n:=ss.length+1) rfl rfl rfl ⟨(fun h=>by cases h),by simp only;omega,by simp only;omega,fun _=>rfl⟩ rfl oM) (av ?_);refine cr (tT (l:=n) (n:=ss.length) rfl rfl rfl bN qj oM) (vm (vn ?_));simp only[au3,auI];refine F6 (D:=(⟨false,xO,0,ss.length+1,xP,none⟩:Sv).sub 19 (n+1) (ss.length+1)) (S:=s.sub 19 n ss.length) (b:=xO) (o:=(n+1)*19) (n:=ss.length -n) (vs:=(aJ ay (ss.drop n))) (cs':=(((aJ ay (ss.take n))++(aJ ay [r]))++((aJ ay (ss.drop n))++(Dp.drop 19).drop (aJ ay (ss.drop n)).length)).toArray) rfl rfl rfl rfl rfl (by rw[Sv.xm (by show n+1<xP;omega)];exact auf _) pz ft (Kj (a:=ss.length -n) (b:=ss.length+1 -(n+1)) oM) hB (fun w hw j u hj=>by
   rw[Sv.xm oM,auW];exact gU w _ (hw.sub (by first|exact List.Sublist.refl _|exact auK _ _)) (n*19+j) u (by rw[zg,atz oM,hA,aua];exact hj)) (vp _) (by simp only[auj,adr,atD];omega) (by rw[←atw,Az (A:=(aJ ay (ss.take n))++(aJ ay [r])) (by rw[adr,hA,oO];omega)]) ?_
  refine ar ?_;refine Gr fun w1 hw=>?_;refine⟨(⟨false,xO,0,ss.length+1,xP,none⟩:Sv),rfl,trivial,?_⟩;rw[show((aJ ay (ss.take n))++(aJ ay [r]))++((aJ ay (ss.drop n))++(Dp.drop 19).drop (aJ ay (ss.drop n)).length)=[]++(aJ ay (ss.take n++r::ss.drop n)++(Dp.drop 19).drop (aJ ay (ss.drop n)).length)from by rw[A6];simp only[atw,aug]]at hw;have fx:=Kk (enc:=ay) (i:=0) (xs:=ss.take n++r::ss.drop n) (pre:=[]) (mid:=(Dp.drop 19).drop (aJ ay (ss.drop n)).length) hw rfl (⟨false,xO,0,ss.length+1,xP,none⟩:Sv) ⟨(fun h=>by cases h),by simp only;omega,by simp only;omega,fun _=>rfl⟩ rfl rfl rfl rfl (by rw[Hc]) (by rw[Hc];simp only[anc,atD];omega);rw[auN]at fx;exact ah.mem fx
 obtain⟨s1,gm⟩: ∃z:Sv,z=⟨false,s.b,s.o,ss.length+1,s.cap,none⟩:=⟨_,rfl⟩;refine aQ ?_;refine ag (Ry.to (v':=s1.val) (wQ (h:=ss.length+1) rfl rfl rfl bN oM) (by rw[gm,Sv.sub_eq pz ft])) (di ?_);refine ag (tT (s:=s1) (l:=n+1) (n:=ss.length+1) rfl rfl rfl (by rw[gm];exact⟨(fun h=>by cases h),by simp only;omega,by simp only;omega,fun _=>rfl⟩) (by rw[gm]) oM) (ag (ab3 (V:=v) (D:=s1.sub 19 (n+1) (ss.length+1)) (b:=s.b) (xs:=[r]) rfl rfl (by decide) (by simp) (by rw[gm];rfl) (by rw[gm];rfl) (by rw[gm];rfl) (by simp only[auj,adr];omega)) (av ?_));refine lO rfl (fun h3=>?_) (fun h3=>?_)
 ·
  replace h3:=bz h3;refine Gi ?_;refine wO 8 [] oK oK ?_;simp only[auD,atW];refine ar ?_;refine cr (tT (s:=s1) (l:=n+1) (n:=ss.length+1) rfl rfl rfl (by rw[gm];exact⟨(fun h=>by cases h),by simp only;omega,by simp only;omega,fun _=>rfl⟩) (by rw[gm]) oM) (av ?_);refine cr (tT (s:=s1) (l:=n) (n:=ss.length+1) rfl rfl rfl (by rw[gm];exact⟨(fun h=>by cases h),by simp only;omega,by simp only;omega,fun _=>rfl⟩) (by rw[gm]) oM) (vm (vn ?_));simp only[au3,auI];refine F6 (D:=s1.sub 19 (n+1) (ss.length+1)) (S:=s1.sub 19 n (ss.length+1)) (b:=s.b) (o:=s.o+(n+1)*19) (n:=ss.length -n) (vs:=(aJ ay (ss.drop n))) (cs':=(pre++((aJ ay (ss.take n))++((aJ ay [x])++((aJ ay (ss.drop n))++((aJ ay (ss.drop (n+1)))++mid).drop (aJ ay (ss.drop n)).length)))).toArray) rfl rfl (by rw[gm];rfl) (by rw[gm];rfl) (by rw[gm];rfl) (by rw[gm,Sv.xm (by show _<s.cap;omega)]) (by rw[gm];rfl) (by rw[gm];rfl) (by rw[show ss.length -n=ss.length+1 -(n+1)from by omega];exact abT (a:=ss.length+1 -n) oM) hB (fun w hw j u hj=>by
   rw[gm,Sv.xm (by show _<s.cap;omega),auW];exact gU w _ hw (n*19+j) u (by rw[zg,atz oM,hA,aua];exact hj)) (vp _) (by simp only[auj,adr];omega) (by
   rw[zg,show pre++(((aJ ay (ss.take n))++(aJ ay (ss.drop n)))++mid)=(pre++((aJ ay (ss.take n))++(aJ ay [x])))++((aJ ay (ss.drop (n+1)))++mid)from by rw[Tn];simp only[atw],Az (A:=pre++((aJ ay (ss.take n))++(aJ ay [x]))) (by simp only[adr];omega)];simp only[atw]) ?_
  refine al ?_;refine ag (tT (s:=s1) (l:=n) (n:=ss.length+1) rfl rfl rfl (by rw[gm];exact⟨(fun h=>by cases h),by simp only;omega,by simp only;omega,fun _=>rfl⟩) (by rw[gm]) oM) (Gs ?_);refine F6 (D:=s1.sub 19 n (ss.length+1)) (S:=v) (b:=s.b) (o:=s.o+n*19) (n:=1) (vs:=(aJ ay [r])) (cs':=(pre++((aJ ay (ss.take n))++((aJ ay [r])++((aJ ay (ss.drop n))++((aJ ay (ss.drop (n+1)))++mid).drop (aJ ay (ss.drop n)).length)))).toArray) rfl rfl (by rw[gm];rfl) (by rw[gm];rfl) (by rw[gm];rfl) (by rw[gm,Sv.xm (by show _<s.cap;omega)]) Tl zM (by rw[Tm];exact Kj (b:=ss.length+1 -n) oM) (by rw[oO]) (fun w hw j u hj=>QL (enc:=ay) (xs:=[r]) (by decide) inferInstance hw hj) (vp _) (by simp only[auj,adr];omega) (by
   rw[←atw pre,Az (A:=pre++(aJ ay (ss.take n))) (by rw[adr];omega),oO,←LH,List.drop_left,atw]) ?_
  refine ar ?_;refine Gr fun w1 hw=>?_;refine⟨s1,rfl,trivial,?_⟩;rw[show pre++((aJ ay (ss.take n))++((aJ ay [r])++((aJ ay (ss.drop n))++((aJ ay (ss.drop (n+1)))++mid).drop (aJ ay (ss.drop n)).length)))=pre++(aJ ay (ss.take n++r::ss.drop n)++((aJ ay (ss.drop (n+1)))++mid).drop (aJ ay (ss.drop n)).length)from by rw[A6];simp only[atw]]at hw;have fx:=Kk (enc:=ay) (i:=0) (xs:=ss.take n++r::ss.drop n) (pre:=pre) (mid:=((aJ ay (ss.drop (n+1)))++mid).drop (aJ ay (ss.drop n)).length) hw rfl s1 (by rw[gm];exact⟨(fun h=>by cases h),by simp only;omega,by simp only;omega,fun _=>rfl⟩) (by rw[gm]) (by rw[gm]) (by rw[gm]) (by rw[gm];exact ca.symm) (by rw[gm,Hc]) (by rw[gm,Hc];have:=congrArg List.length Tn;simp only[adr,atD]at this⊢;omega);rw[auN]at fx;exact ah.mem fx
 exfalso;simp at h3
instance apD{w0:World}{L R1 L2:List ai}{i j:Nat}{s:Sv}{ss:List Rt}{v:Sv}{r:Rt}{n:Nat}[h:fX L s ay 19 ss i][d1:cn L i R1][q:fX R1 v ay 19 [r] j][d2:cn R1 j L2]:bV Tryz.prog 139 w0 L [s.val, .int .i64 (n:Nat),v.val] (Sv) (fun U=>U.val) (fun U=>own ay 19 U (ss.take n++r::ss.drop n)::L2) (fun U=>True) (n<=ss.length/\ss.length<=1000000):=⟨fun hp w hw=>aev w0 w L2 s ss v r n (px h.h d1.h q.h d2.h hw) hp⟩
instance:bp dB 20:=⟨SR,fun x=>by
 have h:(ay x.r).all (·.oneCell')=true:=bp.one x.r;rw[dB,av9,h];simp[Value.oneCell']⟩
instance:Deep Ch:=Deep.flat dB 20
instance (x:Ch):gn (dB x) 20:=⟨SR x,bp.one x⟩
instance (x:Ch):mY (dB x) 0 19 (ay x.r):=⟨gN _,fun j hj=>by rw[auf];exact SS x j hj⟩
instance (x:Ch):mY (dB x) 0 18 (cR x.r.p):=⟨oq _,fun j hj=>by rw[auf];exact(SS x j oM).trans (nJ x.r j hj)⟩
instance (x:Ch):bQ (dB x) 19 (.bool x.gone):=⟨adX x⟩
instance:eP Tryz.prog 47 (.agg (dB SQ)):=⟨by unfold dB ay cR SQ bO;rw[tl];kernel_rfl⟩
theorem aex{cs vs:Array Value}(h:cs.size=vs.size):over cs 0 vs=vs:=by
 unfold over;apply av6;simp[←h]
theorem aey(w0 w:World)(L:List ai)(t:Sv)(ts:List Rt)(g:Ch)(hw:Mem w0 (own ay 19 t ts::L) w)(aA:ts.length<=1000):Calls Tryz.prog 69 #[t.val, .agg (dB g)] w fun e w'=> ∃U:Sv,e= .returned (.tuple #[U.val, .int .i64 (eG ts g)])/\(True)/\Mem w0 (own ay 19 U (jc ts g)::L) w':=by
 have Dq:=SN ts g.r.p;refine gV (args:=[_,_]) Tryz.func69 rfl Tryz.ntmps69 rfl hw ?_;change Cw _ _ _ _ _ [(0,t.val),(1, .agg (dB g))] (own ay 19 t ts::L);refine Gc ?_;refine cm rfl fun b3=>aQ ?_;refine ag (fW rfl) (al ?_);refine Gb ?_ ?_<;>intro h0
 ·
  have hm:bm g.r.p=false:=h0;have he:eG ts g=1:=by rw[eG,if_neg (by rw[hm];simp)]
  refine aQ ?_;refine Gr fun w1 hw=>?_;exact⟨t,by rw[he],trivial,by rw[jc,if_neg (by rw[he];decide)];exact ah.mem hw⟩
 have hm:bm g.r.p=true:=h0;refine ar ?_;refine ag (fW rfl) (cO (bM rfl oM) (Gs ?_));refine ag (aE (v:= .int .i64 ((db ts g.r.p:Nat):Int)) rfl rfl) (ag (aE (v:= .bool (mQ ts g.r.p)) rfl rfl) (di ?_));refine jw rfl rfl rfl (fun hg=>(Ry.yl (nC (aF hg rfl)))) (al ?_);refine Gb ?_ ?_<;>intro h1
 ·
  have he:eG ts g=6:=by rw[eG,if_pos hm,if_neg (by rw[h1.2];simp),if_pos h1.1]
  refine aQ ?_;refine Gr fun w1 hw=>?_;exact⟨t,by rw[he],trivial,by rw[jc,if_neg (by rw[he];decide)];exact ah.mem hw⟩
 refine aQ ?_;refine Gb ?_ ?_<;>intro h2
 ·
  have hb:mQ ts g.r.p=true:=by rcases h1 with h|h;(rw[h2]at h;cases h);exact h
  have he:eG ts g=0:=by rw[eG,if_pos hm,if_pos hb]
  have hl:jc ts g=ts.take (db ts g.r.p)++ts.drop ((db ts g.r.p)+1):=by rw[jc,if_pos he,if_pos h2]
  obtain⟨r0,_,oO,_⟩:=Dg hb;have ca:=(zz.1 oO).1;refine ar ?_;refine ag (Ry.to (v':= .int .i64 (((db ts g.r.p)+1:Nat):Int)) (yt rfl rfl oM) rfl) (bb rfl ⟨by omega,by omega⟩ fun mS To=>al ?_);refine Gr fun w1 hw=>?_;exact⟨mS,by rw[he],trivial,by rw[hl];exact ah.mem hw⟩
 refine ar ?_;refine Gb ?_ ?_<;>intro h3
 ·
  have hb:mQ ts g.r.p=true:=h3;have he:eG ts g=0:=by rw[eG,if_pos hm,if_pos hb]
  have hl:jc ts g=ts.set (db ts g.r.p) g.r:=by rw[jc,if_pos he,if_neg (by rw[h2];simp),if_pos hb]
  obtain⟨r0,_,oO,_⟩:=Dg hb;have ca:=(zz.1 oO).1;refine ar ?_;refine ag (fW rfl) (ag (bh rfl rfl (db ts g.r.p) rfl ca) (mv (n:=19) (k:=(db ts g.r.p)) (j:=0) (a:=r0) (a':=g.r) (xs:=ts) (enc:=ay) (c:=19) (v:= .agg (ay g.r)) oK rfl rfl rfl oO (bp.one g.r) (gN g.r) (by decide) (aex (by rw[gN];exact(gN g.r).symm)) (aQ ?_)));refine Gr fun w1 hw=>?_;exact⟨t,by rw[he],trivial,by rw[hl];exact ah.mem hw⟩
 refine aZ ?_;refine Gb ?_ ?_<;>intro h4
 ·
  have he:eG ts g=5:=by rw[eG,if_pos hm,if_neg (by rw[h3];simp),if_neg (by rw[h2];simp),if_pos oM]
  refine aQ ?_;refine Gr fun w1 hw=>?_;exact⟨t,by rw[he],trivial,by rw[jc,if_neg (by rw[he];decide)];exact ah.mem hw⟩
 have he:eG ts g=0:=by rw[eG,if_pos hm,if_neg (by rw[h3];simp),if_neg (by rw[h2];simp),if_neg oM]
 have hl:jc ts g=ts.take (db ts g.r.p)++g.r::ts.drop (db ts g.r.p):=by rw[jc,if_pos he,if_neg (by rw[h2];simp),if_neg (by rw[h3];simp)]
 refine ar ?_;refine ag (fW rfl) ?_;refine om (enc:=ay) (vals:=[_]) [g.r] rfl rfl rfl (by decide) (by decide) fun b55=>?_;refine bb rfl ⟨by omega,by omega⟩ fun He LK=>al ?_;refine Gr fun w1 hw=>?_;exact⟨He,by rw[he],trivial,by rw[hl];exact ah.mem hw⟩
instance apE{w0:World}{L R:List ai}{i:Nat}{t:Sv}{ts:List Rt}{g:Ch}[q:fX L t ay 19 ts i][d:cn L i R]:bV Tryz.prog 69 w0 L [t.val, .agg (dB g)] (Sv) (fun U=> .tuple #[U.val, .int .i64 (eG ts g)]) (fun U=>own ay 19 U (jc ts g)::R) (fun U=>True) (ts.length<=1000):=⟨fun hp w hw=>aey w0 w R t ts g (FP q.h d.h hw) hp⟩
instance apF{t:Sv}{ts:List Rt}{l:Sv}{ls:List Ch}[ht:dy w0 L ay 19 t ts][hl:dy w0 L dB 20 l ls]:bV Tryz.prog 19 w0 L [t.val,l.val] (Sv) (fun U=> .tuple #[U.val, .int .i64 (dh ts ls)]) (fun U=>own ay 19 U (bH ts ls)::L) (fun U=>True) (ts.length<=1000000):=⟨fun aA w hw=>Gk (fun U=>[own ay 19 U (bH ts ls)]) hw (by
 have ht:=ht.h w hw;have hl:=hl.h w hw;have Dn:Gv w t ay 19 ts:=⟨ht⟩;have qx:Gv w l dB 20 ls:=⟨hl⟩;have uL:=hl.bd;refine dz Tryz.func19 rfl Tryz.ntmps19 rfl ?_;refine fI ?_;refine Gb ?_ ?_<;>intro h0
 ·
  have he:dh ts ls=1:=if_neg (by rw[h0];simp);have ha:bH ts ls=ts:=by rw[bH,if_neg (by rw[he];decide)]
  refine av ?_;refine bb rfl oM fun nV A7=>al ?_;refine Gr fun w1 hw=>?_;exact⟨nV,by rw[he],trivial,by rw[ha];exact ah.mem hw⟩
 have hr:cL ts=true:=h0;have hlen:=xd hr;refine av ?_;refine bb rfl oM fun aC lG=>aZ ?_;refine ck (X:=Nat×Sv×List Rt) (fun U=>[(19, .int .i64 (U.1:Nat)),(6,U.2.1.val),(0,t.val),(17,l.val),(18, .int .i64 (ls.length:Nat))]) (fun U=>[own ay 19 U.2.1 U.2.2]) (fun U=>U.1<=ls.length/\hO ts ls=hO U.2.2 (ls.drop U.1)/\U.2.2.length<=256) (fun U=>ls.length -U.1) (0,aC,ts) ⟨Nat.zero_le _,rfl,hlen⟩ sb (fun w hw=>ah.mem hw) ?_;rintro⟨i,s1,q⟩ ⟨bl,aL,bC⟩;dsimp only;simp only at bl aL bC;refine al ?_;refine Gb ?_ ?_<;>intro h1
 ·
  refine mB ?_;obtain⟨g,hg⟩:=get_some (xs:=ls) (i:=i) oM;refine ag (bh rfl rfl i rfl oM) (ag (iJ rfl i hg rfl) (bt fun b8=>aZ ?_));refine bb rfl oM fun lH tt=>Gs ?_;refine ag (aE (v:=lH.val) rfl rfl) (ag (aE (v:= .int .i64 (eG q g)) rfl rfl) (aZ ?_));refine Gb ?_ ?_<;>intro h2
  ·
   have Tp: ¬eG q g=0:=h2;have ef:hO ts ls=(q,eG q g):=by rw[aL,SV hg,if_neg Tp]
   have he:dh ts ls=eG q g:=by rw[dh,if_pos hr,ef]
   have ha:bH ts ls=ts:=by rw[bH,if_neg (by rw[he];exact Tp)]
   refine av ?_;refine bb rfl oM fun aB wa=>ar ?_;refine Gr fun w1 hw=>?_;exact⟨aB,by rw[he],trivial,by rw[ha];exact ah.mem hw⟩
  refine al ?_;refine Gi ?_;exact bw (x:=(i,s1,q)) (i+1,lH,jc q g) ⟨oF,by rw[aL,SV hg,if_pos h2],SU bC g⟩ (by simp only;omega) sb (fun w hw=>ah.mem hw)
 obtain rfl:i=ls.length:=by omega
 have ef:hO ts ls=(q,0):=by rw[aL,avG];rfl
 have he:dh ts ls=0:=by rw[dh,if_pos hr,ef]
 have ha:bH ts ls=q:=by rw[bH,if_pos he,ef]
 refine aQ ?_;refine Gr fun w1 hw=>?_;exact⟨s1,by rw[he],trivial,by rw[ha];exact ah.mem hw⟩)⟩
end Go.Proofs.YtkggjjnhnjjokaaGreatDoor
namespace Go.ax
open Go.RowKit
section
variable {P:Program} {N:cC} {w0:World} {env:Env} {L:List ai} {d:Option Tmp} {ty:TypeId} {ps:String} {af:Array Edge} {gd:Option (Nat×Bool)}
class nt(w0:World)(L:List ai)(b:Nat)(cs:outParam (Array Value))(T:outParam TypeId):Prop where
 h: ∀w,Mem w0 L w->w.heap[b]? =some (.cells cs T (0,0))
class rW(w0:World)(b:Nat)(cs:outParam (Array Value))(T:outParam TypeId):Prop where
 h:w0.heap[b]? =some (.cells cs T (0,0))
instance (priority:=high) nt.has {b i:Nat}{cs:Array Value}{T:TypeId}[q:Has L b cs T i]:nt w0 L b cs T:=⟨fun w hw=>hw.block q.h⟩
instance nt.A8{b:Nat}{cs:Array Value}{T:TypeId}[q:rW w0 b cs T]:nt w0 L b cs T:=⟨fun w hw=>by
 have bn:b<w0.heap.size:=by
  rcases atA b w0.heap.size with h|h
  ·
   exact h
  have:=q.h;simp[atQ h]at this
 rw[hw.below.block b bn];exact q.h⟩
theorem nt.cell{b:Nat}{cs:Array Value}{T:TypeId}(q:nt w0 L b cs T){w:World}(hw:Mem w0 L w)(o:Nat):w.cell? ⟨b,o,none⟩=cs[o]? :=by
 simp[World.cell?,q.h w hw]
theorem oP{t:TypeId}{x:Operand}{b o:Nat}{cs:Array Value}{T:TypeId}{v:Value}(hx:ev env x=some (.pointer (some ⟨b,o,none⟩)))[ht:gL P t][hi:nt w0 L b cs T][hc:bQ cs o v]:
  Ry P N w0 env L ⟨d, .load t x,ty,ps,af,gd⟩ v:=zP ht hx fun w hw=>by rw[hi.cell hw];exact hc.h
theorem aez{t:TypeId}{x:Operand}{b o n:Nat}{cs sub:Array Value}{T:TypeId}(hx:ev env x=some (.pointer (some ⟨b,o,none⟩)))[ht:gC P t n][hi:nt w0 L b cs T][hs:mY cs o n sub]:
  Ry P N w0 env L ⟨d, .load t x,ty,ps,af,gd⟩ (.agg sub):=B5 ht hx hs.size fun w hw j hj=>by rw[Addr.gT,hi.cell hw];exact hs.h j hj
end
section
variable {w0:World} {L:List ai}
theorem wb{w0 w:World}{L R1 R2 R3:List ai}{e1 e2 e3:ai}{i j k:Nat}(h1:L[i]? =some e1)(d1:L.eraseIdx i=R1)(h2:R1[j]? =some e2)(d2:R1.eraseIdx j=R2)(h3:R2[k]? =some e3)(d3:R2.eraseIdx k=R3)(h:Mem w0 L w):Mem w0 (e1::e2::e3::R3) w:=by
 subst d1;subst d2;subst d3;exact h.perm ((pn h1).trans (((pn h2).trans ((pn h3).cons _)).cons _))
theorem Tq{w0 w:World}{L R1 R2 R3 R4:List ai}{e1 e2 e3 e4:ai}{i j k l:Nat}(h1:L[i]? =some e1)(d1:L.eraseIdx i=R1)(h2:R1[j]? =some e2)(d2:R1.eraseIdx j=R2)(h3:R2[k]? =some e3)(d3:R2.eraseIdx k=R3)(h4:R3[l]? =some e4)(d4:R3.eraseIdx l=R4)(h:Mem w0 L w):Mem w0 (e1::e2::e3::e4::R4) w:=by
 subst d1;subst d2;subst d3;subst d4;exact h.perm ((pn h1).trans (((pn h2).trans (((pn h3).trans ((pn h4).cons _)).cons _)).cons _))
end
variable {w0:World}{L:List ai}
instance (priority:=low) Hd.tail{e:ai}{s:Sv}{α:Type}{enc:α->Array Value}{c:Nat}{xs:List α}[q:Hd w0 L s enc c xs]:Hd w0 (e::L) s enc c xs:=⟨fun w hw=>q.h w (hw.sub (auK _ _))⟩
instance (priority:=low) aX.tail{e:ai}{τ:Type}[Deep τ]{a:τ}[q:aX w0 L a]:aX w0 (e::L) a:=⟨fun w hw=>q.h w (hw.sub (auK _ _))⟩
theorem aeA{P:Program}{N:cC}{env:Env}{α:Type}{enc:α->Array Value}{c n:Nat}{t e:TypeId}{cw:Nat}{z:Value}{x y:Operand}{d:Option Tmp}{ty:TypeId}{ps:String}{af:Array Edge}{gd:Option (Nat×Bool)}{k k':IntKind}{ix iy:Int}[he:bp enc c][ht:eK P t e c cw][hz:eP P e z](x0:α)(h0:enc x0=z.cells)(hx:ev env x=some (.int k ix))(hy:ev env y=some (.int k' iy))(ex:ix=(n:Int))(ey:iy=(n:Int))(hb:cw*n<=281474976710656)(ib:n<=140737488355328):
  ∀a,dw N env a->vC P ⟨d, .makeSlice t x y,ty,ps,af,gd⟩ a.eval (qm enc c n (List.replicate n x0)):=fun a ha w0 w L hw=>by
 subst ex ey;obtain⟨w',h1,h2⟩:=Jb ht hz (k:=k) (k':=k') (n:=n) x0 h0 (att _) hb ib w;exact⟨w.heap.size,w',by simp only[execOp,ha.ev hx,ha.ev hy,Sem.run_bind,h1,Result.andThen,Sem.run_pure],hw.call h2⟩
def uM(f:FuncId):Array Value:= #[.func (.func f) #[] #[]]
instance:bp uM 1:=⟨fun _=>rfl,fun _=>by simp[uM,Value.oneCell']⟩
instance (f:FuncId):bQ (uM f) 0 (.func (.func f) #[] #[]):=⟨rfl⟩
class tu(P:Program)(w0:World)(L:List ai)(f:FuncId)(lU:Array Value){α:outParam Type}(enc:outParam (α->Array Value))(R:outParam (α->Bool)):Prop where
 fn:aI P f
 h: ∀w,Mem w0 L w-> ∀x,Calls P f ((Value.agg (enc x)::lU.toList).toArray) w fun e w'=>e= .returned (.bool (R x))/\Mem w [] w'
theorem tu.at{P:Program}{w0:World}{L:List ai}{f:FuncId}{lU:Array Value}{α:Type}{enc:α->Array Value}{R:α->Bool}(q:tu P w0 L f lU enc R){w:World}(hw:Mem w0 L w):tu P w [] f lU enc R:=
 ⟨q.fn,fun w1 h1 x=>q.h w1 (by simpa using hw.call h1) x⟩
end Go.ax
namespace Go.Kb
section
variable {α:Type} (f:α->Nat)
variable {f}
end
section
variable {α:Type} {f:α->Nat} {xs ys zs:List α} {a b m i j k s e:Nat}
def Ts(xs:List α)(i j:Nat):List α:=(xs.drop i).take (j -i)
theorem parts(h1:a<=b)(h2:b<=xs.length):xs=xs.take a++Ts xs a b++xs.drop b:=by
 rw[Ts,atw]
 conv=>lhs;rw[←auc a xs,←auc (b -a) (xs.drop a),avp,show a+(b -a)=b by omega]
end
end Go.Kb
namespace Go.ax
open Go.RowKit Go.Kb
section
variable {P:Program} {w0 w:World} {L:List ai} {α:Type} {enc:α->Array Value} {c:Nat} {s:Sv} {xs:List α}
end
section
variable {P:Program} {N:cC} {w0:World} {env:Env} {L:List ai} {l:List Oper} {Q:Exit->Act->World->Prop} {rest:List Oper} {d:Option Tmp} {ty:TypeId} {ps:String} {af:Array Edge} {gd:Option (Nat×Bool)}
theorem aeB{f:FuncId}{fn:Func}{e:Array Value→Sem Value}{xs:List Operand}{ts:Array TypeId}{vs:List Value}(hf:P.funcs[f]? =some fn)(aeC:(fn.name== "runtime.NumGoroutine")=false)(hb:fn.body.isNone=true)(hn:Extern.findNext fn=none)(he:Extern.find fn=some e)(hx:iz env xs=some vs)
  (h: ∀w,Mem w0 L w-> ∃v w' L',(e vs.toArray).run P w= .ok v w'/\Mem w0 L' w'/\Sq P N w0 l Q rest (cy env d v) L') (hd:dx N d=true:=by rfl):
  Sq P N w0 l Q (⟨d, .call {callee:= .value (.func f),args:=xs.toArray,argTypes:=ts},ty,ps,af,none⟩::rest) env L:=
 nD rfl hd fun a w ha hw=>by
  obtain⟨v,w',L',h1,h2,h3⟩:=h w hw;refine⟨v,w',L',?_,h2,h3⟩;have hm:=ha.iz hx;have hr:=run_callFunc_extern hf aeC hb hn he vs.toArray w;rw[h1]at hr;simp[execOp,resolve,Act.eval,Deferred.ofValue,invoke,←hm]at hr⊢;rw[hr]
end
theorem jW{P:Program}{fn:Func}{N:cC}{env:Env}{w0:World}{L:List ai}(hf:fn.results= #[]): ∀a w,dw N env a->Mem w0 L w->(results fn a.tmps).run P w= .ok (.tuple #[]) w:=fun a w _ _=>by
 simp[results,hf]
section
variable {P:Program} {w0:World} {env:Env}
theorem Tt{N:cC}{L:List ai}{d:Option Tmp}{ty:TypeId}{ps:String}{af:Array Edge}{gd:Option (Nat×Bool)}{t:TypeId}{x:Operand}{p:Addr}{v:Value}[ht:gL P t](hx:ev env x=some (.pointer (some p)))(hc:w0.cell? p=some v):Ry P N w0 env L ⟨d, .load t x,ty,ps,af,gd⟩ v:=
 zP ht hx fun w hw=>(hw.below.cell (by
  unfold World.cell? at hc
  cases ho:w0.heap[p.block]?with
  |none=>simp[ho]at hc
  |some o=>exact(au5.1 ho).1)).trans hc
end
section
variable {P:Program} {N:cC} {w0:World} {env:Env} {L:List ai} {l:List Oper} {Q:Exit->Act->World->Prop} {rest:List Oper} {d:Option Tmp} {ty:TypeId} {ps:String} {af:Array Edge} {K:Value->List ai->Prop}
instance bQ.one{v:Value}:bQ #[v] 0 v:=⟨rfl⟩
theorem aeD{t:TypeId}{x:Operand}{v:Value}(hc:v.cells= #[v])(hx:ev env x=some v)(hk: ∀b,Sq P N w0 l Q rest (cy env d (.pointer (some ⟨b,0,none⟩))) (aq b #[v] t::L))(hd:dx N d=true:=by rfl):
  Sq P N w0 l Q (⟨d, .box t x,ty,ps,af,none⟩::rest) env L:=I0 hx (by rw[hc];exact hk) hd
theorem aeE{t:TypeId}{z:Value}[hz:eP P t z](hc:z.cells= #[z])(hk: ∀b,Sq P N w0 l Q rest (cy env d (.pointer (some ⟨b,0,none⟩))) (aq b #[z] t::L))(hd:dx N d=true:=by rfl):
  Sq P N w0 l Q (⟨d, .alloc t,ty,ps,af,none⟩::rest) env L:=Oj (z:=z) (by rw[hc];exact hk) hd
theorem aeF{t:TypeId}{x y:Operand}{i b:Nat}{u:Value}{T:TypeId}{v:Value}(hv:v.oneCell'=true)(hx:ev env x=some (.pointer (some ⟨b,0,none⟩)))(hy:ev env y=some v)[ht:gL P t][hh:Has L b #[u] T i]{L':List ai}[hu:fO L i (aq b #[v] T) L'](hk:Sq P N w0 l Q rest env L'):
  Sq P N w0 l Q (⟨none, .store t x y,ty,ps,af,none⟩::rest) env L:=dO (cs':= #[v]) hx hy (by show 0<1;decide) hv rfl hk
end
theorem aeG{P:Program}{N:cC}{w0:World}{env:Env}{L:List ai}{l:List Oper}{Q:Exit->Act->World->Prop}{rest:List Oper}{ty:TypeId}{ps:String}{af:Array Edge}{t:TypeId}{x y:Operand}{i k p:Nat}{s:Sv}{xs:List UInt8}{a v:UInt8}[ht:gL P t](hx:ev env x=some (.pointer (some ⟨s.b,p,none⟩)))(hy:ev env y=some (.int .u8 v.toNat))[q:fX L s aO 1 xs i](ha:xs[k]? =some a)(iI:p=s.o+k*1){L':List ai}[hu:fO L i (own aO 1 s (xs.set k v)) L'](hk:Sq P N w0 l Q rest env L'):
  Sq P N w0 l Q (⟨none, .store t x y,ty,ps,af,none⟩::rest) env L:=
 mv (j:=0) (n:=1) (a':=v) ht.size hx hy (q:=q) (by omega) ha (by simp[Value.cells,Value.oneCell']) rfl (by omega) (by rfl) hk
end Go.ax
namespace Go.Proofs.YtkggjjnhnjjokaaGreatDoor
open Go.ax Go.Kb Go.RowKit
structure bX where
 pR:bS
 batch:Sl Ch
 Tu:Option Nat
 told:Sl UInt8
def bZ(x:bX):Array Value:= #[.int .i64 x.pR.ak.ae.pages, .int .i64 x.pR.ak.ae.size,x.pR.ak.ae.blocks.sv.val, .int .i64 x.pR.ak.ae.ops, .bool x.pR.ak.ae.off,x.pR.ak.ae.aD.sv.val,x.pR.ak.at_.sv.val, .int .u64 x.pR.ak.gen.toNat, .int .i64 x.pR.ak.last,x.pR.table.sv.val,x.batch.sv.val, .pointer (x.Tu.map fun b=>⟨b,11,none⟩),x.told.sv.val]
instance (x:bX):bQ (bZ x) 3 (.int .i64 x.pR.ak.ae.ops):=⟨rfl⟩
instance (x:bX):bQ (bZ x) 5 (x.pR.ak.ae.aD.sv.val):=⟨rfl⟩
instance (x:bX):bQ (bZ x) 9 (x.pR.table.sv.val):=⟨rfl⟩
instance (x:bX):bQ (bZ x) 10 (x.batch.sv.val):=⟨rfl⟩
instance (x:bX):bQ (bZ x) 11 (.pointer (x.Tu.map fun b=>⟨b,11,none⟩)):=⟨rfl⟩
instance (x:bX):bQ (bZ x) 12 (x.told.sv.val):=⟨rfl⟩
instance (x:bX):mY (bZ x) 0 10 (dI x.pR):=⟨rfl,fun j hj=>by
 match j,hj with
 |0,_=>rfl
 |1,_=>rfl
 |2,_=>rfl
 |3,_=>rfl
 |4,_=>rfl
 |5,_=>rfl
 |6,_=>rfl
 |7,_=>rfl
 |8,_=>rfl
 |9,_=>rfl⟩
instance (x:bX):mY (bZ x) 0 6 (aV x.pR.ak.ae):=⟨rfl,fun j hj=>by
 match j,hj with
 |0,_=>rfl
 |1,_=>rfl
 |2,_=>rfl
 |3,_=>rfl
 |4,_=>rfl
 |5,_=>rfl⟩
def aeH:bX:=⟨nr,⟨Sv.none,[]⟩,none,⟨Sv.none,[]⟩⟩
instance:eP Tryz.prog 174 (.agg (bZ aeH)):=⟨by kernel_rfl⟩
theorem aeI(w0 w:World)(L:List ai)(k:Nat)(xf:bS)(xb:Sl Ch)(xa:Option Nat)(xt:Sl UInt8)(hw:Mem w0 (aq k (bZ (⟨xf,xb,xa,xt⟩:bX)) 174::L) w)(aA:xa=none\/xa=Option.some k):Calls Tryz.prog 265 #[.pointer (some ⟨k,11,none⟩)] w fun e w'=> ∃U:Unit,e= .returned (.tuple #[])/\(U=())/\Mem w0 (aq k (bZ (⟨xf,xb,Option.some k,xt⟩:bX)) 174::L) w':=by
 refine gV (args:=[_]) Tryz.func265 rfl Tryz.ntmps265 rfl hw ?_;change Cw _ _ _ _ _ [(0, .pointer (some ⟨k,11,none⟩))] (aq k (bZ (⟨xf,xb,xa,xt⟩:bX)) 174::L);refine ar ?_;refine ag (Ry.to (v':= .pointer (Option.map (fun b=>(⟨b,11,none⟩:Addr)) xa)) (bI rfl) rfl) (ag (aaH Tryz.underlying170 rfl rfl) (Gc ?_));refine Gb ?_ ?_<;>intro h0
 ·
  refine Gi ?_;refine av ?_;refine ag (aaB (j:=Option.get (Tryz.prog.info? 172) oK) Tryz.underlying170 Tryz.underlying333 oK (by decide+kernel) rfl ?_) ?_
  ·
   show 11<13;decide
  refine aeB (fn:=Option.get (Tryz.prog.funcs[316]?) oK) (e:=Extern.AbiNoEscape.same) oK oK oK oK oK rfl (fun w hw=>⟨_,_,_,rfl,hw,?_⟩);refine ag (aaC (j:=Option.get (Tryz.prog.info? 172) oK) Tryz.underlying333 Tryz.underlying170 oK rfl oK) (av ?_);refine dO (cs':=bZ (⟨xf,xb,(Option.some k),xt⟩:bX)) rfl rfl (by show 11<13;decide) rfl rfl (Gi ?_);refine ez (.inr rfl) (jW rfl) (fun w1 hw=>?_);exact⟨(),rfl,rfl,ah.mem hw⟩
 have Tw:xa=Option.some k:=by cases xa with|none=>cases h0|some b=>exact aA.resolve_left (fun g=>by cases g)
 refine ar ?_;refine ag (Ry.to (v':= .pointer (some ⟨k,11,none⟩)) (bI rfl) (by rw[Tw];rfl)) (Gs ?_);refine ag (aaI Tryz.underlying170 (j:=Option.get (Tryz.prog.info? 172) oK) oK rfl rfl) (Gc ?_);refine lO rfl (fun h1=>?_) (fun h1=>?_)
 ·
  exfalso;simp at h1
 replace h1:=bz h1;refine Gi ?_;refine ez (.inr rfl) (jW rfl) (fun w1 hw=>?_);exact⟨(),rfl,rfl,(by rw[←Tw];exact ah.mem hw)⟩
instance apG{w0:World}{L L2:List ai}{i0:Nat}{k:Nat}{xf:bS}{xb:Sl Ch}{xa:Option Nat}{xt:Sl UInt8}[q0:Has L k (bZ (⟨xf,xb,xa,xt⟩:bX)) 174 i0][d0:cn L i0 L2]:bV Tryz.prog 265 w0 L [.pointer (some ⟨k,11,none⟩)] (Unit) (fun U=> .tuple #[]) (fun U=>aq k (bZ (⟨xf,xb,Option.some k,xt⟩:bX)) 174::L2) (fun U=>U=()) (xa=none\/xa=Option.some k):=⟨fun hp w hw=>aeI w0 w L2 k xf xb xa xt (FP q0.h d0.h hw) hp⟩
theorem aeJ(w0 w:World)(L:List ai)(k:Nat)(xf:bS)(xb:Sl Ch)(xa:Option Nat)(xt:Sl UInt8)(s:List UInt8)(hw:Mem w0 (aq k (bZ (⟨xf,xb,xa,xt⟩:bX)) 174::dP 5 xt.sv xt.xs::L) w)(aA:xt.xs.length+s.length<=1000000000/\(xa=none\/xa=Option.some k)):Calls Tryz.prog 226 #[.pointer (some ⟨k,11,none⟩), .string ⟨s.toArray⟩] w fun e w'=> ∃U:Sv,e= .returned (.tuple #[.int .i64 (s.length:Nat), .nilIface])/\(True)/\Mem w0 (aq k (bZ (⟨xf,xb,(Option.some k),⟨U,xt.xs++s⟩⟩:bX)) 174::dP 5 U (xt.xs++s)::L) w':=by
 obtain⟨zh,fw⟩:=aA;refine gV (args:=[_,_]) Tryz.func226 rfl Tryz.ntmps226 rfl hw ?_;change Cw _ _ _ _ _ [(0, .pointer (some ⟨k,11,none⟩)),(1, .string ⟨s.toArray⟩)] (aq k (bZ (⟨xf,xb,xa,xt⟩:bX)) 174::dP 5 xt.sv xt.xs::L);refine aQ ?_;refine bb rfl fw fun x7 hp7=>aQ ?_;refine ag (Ry.to (v':=xt.sv.val) (bI rfl) rfl) (Gs ?_);refine Qe (s:=xt.sv) (ys:=s) rfl rfl (fun w _=>aaA Tryz.underlying9 s w) oM oM fun Dr=>av ?_;refine dO (cs':=bZ (⟨xf,xb,(Option.some k),⟨Dr,xt.xs++s⟩⟩:bX)) rfl rfl (by show 12<13;decide) (by first|rfl|exact Sv.one _) rfl (av ?_);refine ag (qQ (s:=s) Tryz.underlying9 rfl) (al ?_);refine Gr fun w1 hw=>?_;exact⟨Dr,rfl,trivial,ah.mem hw⟩
instance apH{w0:World}{L R1 L2:List ai}{i0 i1:Nat}{k:Nat}{xf:bS}{xb:Sl Ch}{xa:Option Nat}{xt:Sl UInt8}{s:List UInt8}[q0:Has L k (bZ (⟨xf,xb,xa,xt⟩:bX)) 174 i0][d0:cn L i0 R1][q1:mC R1 xt.sv 5 xt.xs i1][d1:cn R1 i1 L2]:bV Tryz.prog 226 w0 L [.pointer (some ⟨k,11,none⟩), .string ⟨s.toArray⟩] (Sv) (fun U=> .tuple #[.int .i64 (s.length:Nat), .nilIface]) (fun U=>aq k (bZ (⟨xf,xb,(Option.some k),⟨U,xt.xs++s⟩⟩:bX)) 174::dP 5 U (xt.xs++s)::L2) (fun U=>True) (xt.xs.length+s.length<=1000000000/\(xa=none\/xa=Option.some k)):=⟨fun hp w hw=>aeJ w0 w L2 k xf xb xa xt s (px q0.h d0.h q1.h d1.h hw) hp⟩
theorem aeK(w0 w:World)(L:List ai)(k:Nat)(xf:bS)(xb:Sl Ch)(xa:Option Nat)(xt:Sl UInt8)(c:UInt8)(hw:Mem w0 (aq k (bZ (⟨xf,xb,xa,xt⟩:bX)) 174::dP 5 xt.sv xt.xs::L) w)(aA:xt.xs.length+1<=1000000000/\(xa=none\/xa=Option.some k)):Calls Tryz.prog 250 #[.pointer (some ⟨k,11,none⟩), .int .u8 (c.toNat:Nat)] w fun e w'=> ∃U:Sv,e= .returned (.nilIface)/\(True)/\Mem w0 (aq k (bZ (⟨xf,xb,(Option.some k),⟨U,xt.xs++[c]⟩⟩:bX)) 174::dP 5 U (xt.xs++[c])::L) w':=by
 obtain⟨zh,fw⟩:=aA;refine gV (args:=[_,_]) Tryz.func250 rfl Tryz.ntmps250 rfl hw ?_;change Cw _ _ _ _ _ [(0, .pointer (some ⟨k,11,none⟩)),(1, .int .u8 (c.toNat:Nat))] (aq k (bZ (⟨xf,xb,xa,xt⟩:bX)) 174::dP 5 xt.sv xt.xs::L);refine ar ?_;refine bb rfl fw fun x6 LL=>aQ ?_;refine ag (Ry.to (v':=xt.sv.val) (bI rfl) rfl) (Gs ?_);refine om (enc:=aO) (vals:=[_]) [c] rfl rfl rfl (by decide) (by decide) fun jr=>?_;refine Qe (s:=xt.sv) (ys:=[c]) rfl rfl (fun w hw=>jy (s:=⟨false,jr,0,1,1,none⟩) Tryz.underlying53 (by decide) ((inferInstance:Hd _ _ ⟨false,jr,0,1,1,none⟩ aO 1 [c]).h w hw)) (by simp only[af0,anc];omega) (by simp only[af0,anc];omega) fun Dr=>?_;refine av ?_;refine dO (cs':=bZ (⟨xf,xb,(Option.some k),⟨Dr,xt.xs++[c]⟩⟩:bX)) rfl rfl (by show 12<13;decide) (by first|rfl|exact Sv.one _) rfl (al ?_);refine Gr fun w1 hw=>?_;exact⟨Dr,rfl,trivial,ah.mem hw⟩
instance apI{w0:World}{L R1 L2:List ai}{i0 i1:Nat}{k:Nat}{xf:bS}{xb:Sl Ch}{xa:Option Nat}{xt:Sl UInt8}{c:UInt8}[q0:Has L k (bZ (⟨xf,xb,xa,xt⟩:bX)) 174 i0][d0:cn L i0 R1][q1:mC R1 xt.sv 5 xt.xs i1][d1:cn R1 i1 L2]:bV Tryz.prog 250 w0 L [.pointer (some ⟨k,11,none⟩), .int .u8 (c.toNat:Nat)] (Sv) (fun U=> .nilIface) (fun U=>aq k (bZ (⟨xf,xb,(Option.some k),⟨U,xt.xs++[c]⟩⟩:bX)) 174::dP 5 U (xt.xs++[c])::L2) (fun U=>True) (xt.xs.length+1<=1000000000/\(xa=none\/xa=Option.some k)):=⟨fun hp w hw=>aeK w0 w L2 k xf xb xa xt c (px q0.h d0.h q1.h d1.h hw) hp⟩
theorem aeL(w0 w:World)(L:List ai)(k:Nat)(xf:bS)(xb:Sl Ch)(xa:Option Nat)(xt:Sl UInt8)(hw:Mem w0 (aq k (bZ (⟨xf,xb,xa,xt⟩:bX)) 174::dP 5 xt.sv xt.xs::L) w)(aA:True):Calls Tryz.prog 92 #[.pointer (some ⟨k,11,none⟩)] w fun e w'=> ∃U:Unit,e= .returned (.string ⟨xt.xs.toArray⟩)/\(True)/\Mem w0 (aq k (bZ (⟨xf,xb,xa,xt⟩:bX)) 174::L) w':=by
 have hu8:Tryz.prog.cellsOf 5=1:=by kernel_rfl
 refine gV (args:=[_]) Tryz.func92 rfl Tryz.ntmps92 rfl hw ?_;change Cw _ _ _ _ _ [(0, .pointer (some ⟨k,11,none⟩))] (aq k (bZ (⟨xf,xb,xa,xt⟩:bX)) 174::dP 5 xt.sv xt.xs::L);refine al ?_;refine ji [10,1002,1003,1004,1007,1008,1009] [[],[],[],[2],[2,3],[],[],[],[7],[7,8],[2,3,4,7,8,9],[2,3,4,7,8,9,10]] [0,1,2,3,4,5,6,7,8,9,10,11] [aq k (bZ (⟨xf,xb,xa,xt⟩:bX)) 174] (fun _ hw=>ah.mem hw) oK oK (an rfl (bo rfl) (an rfl (gq rfl) (gE rfl (aN (o':=12) rfl rfl) (gE rfl (Ry.to (v':=xt.sv.val) (bI rfl) rfl) (gE rfl (aaD (s:=xt.sv) rfl) (an rfl (bo rfl) (an rfl (gq rfl) (gE rfl (aN (o':=12) rfl rfl) (gE rfl (Ry.to (v':=xt.sv.val) (bI rfl) rfl) (gE rfl (tY rfl) (dr rfl (aaE Tryz.underlying256 hu8 rfl rfl rfl ⟨fun _ hw=>ah.mem hw,?_⟩))))))))))));refine an rfl (gS rfl) (Gc ?_);refine Gr fun w1 hw=>?_;exact⟨(),rfl,trivial,ah.mem hw⟩
instance apJ{w0:World}{L R1 L2:List ai}{i0 i1:Nat}{k:Nat}{xf:bS}{xb:Sl Ch}{xa:Option Nat}{xt:Sl UInt8}[q0:Has L k (bZ (⟨xf,xb,xa,xt⟩:bX)) 174 i0][d0:cn L i0 R1][q1:mC R1 xt.sv 5 xt.xs i1][d1:cn R1 i1 L2]:bV Tryz.prog 92 w0 L [.pointer (some ⟨k,11,none⟩)] (Unit) (fun U=> .string ⟨xt.xs.toArray⟩) (fun U=>aq k (bZ (⟨xf,xb,xa,xt⟩:bX)) 174::L2) (fun U=>True) (True):=⟨fun hp w hw=>aeL w0 w L2 k xf xb xa xt (px q0.h d0.h q1.h d1.h hw) hp⟩
end Go.Proofs.YtkggjjnhnjjokaaGreatDoor
namespace Go.Kb
open Go.ax
structure bj where
 f:FV
 batch:List Ch
 told:aH
def Tx:aH:=[101,114,114,111,114,32]
def qy:aH:=[111,107]
def qz:aH:=[114,111,117,116,101,115,32]
def mg(p:bj)(line:aH):bj:={p with told:=p.told++line++[10]}
def kv(line:aH)(e:Int):aH:=if e≠0 then Tx++dec e.toNat else line
def lI(p:bj)(line:aH)(e:Int):bj:=mg p (kv line e)
def nW(p:bj)(x:aS):bj:=
 if tn p.f x.key x.bits≠0 then lI p [] (tn p.f x.key x.bits)else lI p (iB (pQ p.f x.key x.bits)) (gW (bm (pQ p.f x.key x.bits).p))
def Ds(c:CV)(x:aS):CV:={c with aD:=c.aD++[⟨c.ops+x.n.toInt,decide (x.kind=6),decide (x.kind=5),0⟩]}
def qA(p:bj)(x:aS):bj:=
 if 64<=p.f.ak.ae.aD.length then p else{p with f:=⟨{p.f.ak with ae:=Ds p.f.ak.ae x},p.f.table⟩}
def jX(p:bj):bj:=
 if ll p.f.ak.ae []≠0 then lI p qy (ll p.f.ak.ae [])
 else if(cJ (lp p.f.ak.ae [])).2≠0 then lI p qy (cJ (lp p.f.ak.ae [])).2
 else lI {p with f:=(cJ (lp p.f.ak.ae [])).1} qy 0
def oQ(p:bj)(r:Rt):bj:=lI p (iB r) (gW (bm r.p))
def oR(p:bj):bj:=p.f.table.foldl oQ (mg p (qz++dec p.f.table.length))
def dC(p:bj)(x:aS):bj:=
 if x.kind=1 then{p with batch:=p.batch++[⟨x.r,false⟩]}
 else if x.kind=2 then{p with batch:=p.batch++[⟨x.r,true⟩]}
 else if x.kind=3 then lI {p with f:=(bK p.f p.batch).1,batch:=[]} qy (bK p.f p.batch).2
 else if x.kind=4 then nW p x
 else if x.kind=5\/x.kind=6 then qA p x
 else if x.kind=7 then jX p
 else if x.kind=8 then oR p
 else p
def ir(p:bj)(l:List aS):bj:=l.foldl dC p
theorem aeM{p:bj}{l:List aS}{i:Nat}{x:aS}(h:l[i]? =some x):ir p (l.take (i+1))=dC (ir p (l.take i)) x:=by
 rw[atr,h,ir,avf];rfl
def jd(f:FV):bj:=⟨f,[],[]⟩
def A9(l:List aS):Bool:=l.all fR
def kx(s:sV):FV×Int:=kP (fS s.b s.p s.s).1
def rX(s:sV):Bool:=decide (s.l.length<=300)&&A9 s.l&&decide ((fS s.b s.p s.s).2=0)&&decide ((kx s).2=0)
def uN(s:sV):aH:=if rX s=true then(ir (jd (kx s).1) s.l).told else[]
def uO(s:sV):Int:=gW (rX s)
def rl(p:bj):Bool:=zb p.f&&decide (p.batch.length<=1000)&&decide (p.told.length<=100000000)
def rY(p:bj):List aS->Bool
 |[]=>rl p
 |x::r=>rl p&&rY (dC p x) r
theorem sm_at: ∀{l:List aS} {p:bj} (i:Nat),rY p l=true->i<=l.length->rl (ir p (l.take i))=true
 |[],p,i,h,hi=>by
  obtain rfl:i=0:=by simpa using hi
  exact h
 |x::r,p,0,h,_=>by
  rw[rY,ad2]at h;exact h.1
 |x::r,p,i+1,h,hi=>by
  rw[rY,ad2]at h;exact sm_at (p:=dC p x) i h.2 (by simpa using hi)
def zj(s:sV):Bool:= !rX s||rY (jd (kx s).1) s.l
def uP(t:aH):aH:=if(fZ t).2.1≠0 then[]else uN (fZ t).1
def uQ(t:aH):Int:=if(fZ t).2.1≠0 then(fZ t).2.1 else uO (fZ t).1
def uR(t:aH):Int:=if(fZ t).2.1≠0 then(fZ t).2.2 else 0
def Er(e:Int):Prop:=0<=e/\e<=9
theorem er(n:Int)(h0:0<=n:=by decide)(h9:n<=9:=by decide):Er n:=⟨h0,h9⟩
theorem kQ{c:Prop}[Decidable c]{a b:Int}(ha:Er a)(hb:Er b):Er (if c then a else b):=by split<;>assumption
theorem Ty(f:Ft):Er (lW f):=kQ (er 7) (er 9)
theorem aeN(c:CV)(b g:Int)(p:List UInt8):Er (kj c b g p):=kQ (kQ (er 7) (kQ (er 9) (kQ (Ty _) (er 0)))) (er 1)
theorem Hf(c:CV)(b:Int)(p:List UInt8):Er (bA c b p):=aeN _ _ _ _
theorem Tz(c:CV)(b:Int):Er (dY c b):=kQ (kQ (er 7) (kQ (er 9) (kQ (Ty _) (er 0)))) (er 1)
theorem TA: ∀(n:Nat) (c:CV) (b:Int),Er (eS n c b).2
 |0,c,b=>Tz c b
 |n+1,c,b=>by
  rw[eS];split
  ·
   exact Hf _ _ _
  exact TA n _ b
theorem Dt(c:CV)(b:Int):Er (cG c b).2:=TA _ _ _
theorem aeO(c:CV)(fl:List Int)(b:Bool):Er (bg c fl b).2.2:=by
 rw[bg];split
 ·
  exact er 0
 split
 ·
  exact er 5
 split
 ·
  exact er 0
 exact Dt _ _
theorem LM(p:PV)(n:Int):Er (dt p n).2:=by
 rw[dt];split
 ·
  exact er 0
 exact er 1
theorem aeP(p:RV)(n:Int):Er (cX p n).2:=by
 rw[cX];split
 ·
  exact LM _ _
 exact er 1
theorem LN: ∀(n:Nat) (c:CV) (fl:List Int) (b:Bool) (p:List UInt8),Er (hH n c fl b p).2.2
 |0,_,_,_,_=>er 0
 |n+1,c,fl,b,p=>by
  rw[hH];split
  ·
   split
   ·
    exact er 0
   split
   ·
    exact Hf _ _ _
   exact LN n _ fl b p
  split
  ·
   exact aeO _ _ _
  exact LN n _ fl b p
theorem aeQ(c:CV)(fl:List Int)(b:Bool)(p:PV):Er (cT c fl b p).2.2:=by
 rw[cT];split
 ·
  exact LM _ _
 exact LN _ _ _ _ _
theorem aeR(c:CV)(l:Int):Er (aY c l).2.2:=by
 rw[aY];split
 ·
  exact er 0
 split
 ·
  exact er 0
 split
 ·
  exact er 9
 exact Tz _ _
theorem TB: ∀(n:Nat) (x:WV) (a:List Int) (b:List UInt8),Er (gh n x a b).2
 |0,_,_,_=>er 0
 |n+1,x,a,b=>by
  rw[gh];split
  ·
   exact aeR _ _
  split
  ·
   exact er 0
  split
  ·
   exact Hf _ _ _
  exact TB n _ a b
theorem TC(x:WV)(a:List Int):Er (dQ x a).2:=by
 rw[dQ];split
 ·
  exact aeP _ _
 exact TB _ _ _ _
theorem aeS(c:CV)(l:List az):Er (bY c l).2.2:=by
 rw[bY];split
 ·
  exact er 0
 split
 ·
  exact Dt _ _
 split
 ·
  exact Dt _ _
 exact er 6
theorem Hg{e:Int}(h:Er e):Er (jS e):=kQ (er 0) h
theorem LO(v:VV)(src tgt:Int): ∀(l:List Int) (id:Nat) (c:CV) (a:List Int) (e:Int),(cc v src tgt l id c a).e=some e->Er e
 |[],_,_,_,e,h=>by cases h
 |n::r,id,c,a,e,h=>by
  rw[cc]at h;split at h
  ·
   exact LO v src tgt r _ c a e h
  split at h
  ·
   obtain rfl:=atl h;exact er 6
  split at h
  ·
   obtain rfl:=atl h;exact LM _ _
  split at h
  ·
   obtain rfl:=atl h;exact Hg (Hf _ _ _)
  exact LO v src tgt r _ _ _ e h
theorem aeT(x:WV)(src tgt:Int):Er (cU x src tgt).2.2:=by
 rw[cU];split
 ·
  rename_i e h;exact LO _ _ _ _ _ _ _ _ h
 exact TC _ _
theorem aeU(c:CV)(l:List az)(i:Int):Er (cP c l i).2:=by
 rw[cP];split
 ·
  exact er 0
 exact aeS _ _
theorem aeV(x:WV)(l:List az)(i:Int):Er (eV x l i).2:=by
 rw[eV];split
 ·
  exact Hg (aeU _ _ _)
 split
 ·
  exact aeT _ _ _
 exact Hg (Dt _ _)
theorem TD(x:WV)(l:List az):Er (jo x l).2:=by
 rw[jo];split
 ·
  exact er 6
 exact Hg (Dt _ _)
theorem aeW(x:WV):Er (et x).2:=by
 rw[et];split
 ·
  split
  ·
   exact aeV _ _ _
  exact TD _ _
 exact TD _ _
theorem TE: ∀(n:Nat) (x:WV) (m:Int),Er (lA n x m).2
 |0,_,_=>er 0
 |n+1,x,m=>by
  rw[lA];split
  ·
   exact er 0
  split
  ·
   exact er 0
  split
  ·
   exact TE n _ m
  split
  ·
   exact aeW _
  split
  ·
   exact er 0
  exact er 5
theorem LP(v:VV)(b:Bool): ∀(l:List (Int×List UInt8)) (c:CV) (a:List Int),Er (fV v b l c a).2.2
 |[],_,_=>er 0
 |x::r,c,a=>by
  rw[fV];split
  ·
   exact LP v b r _ _
  split
  ·
   exact aeQ _ _ _ _
  exact LP v b r _ _
theorem aeX(x:WV)(l:List (Int×List UInt8)):Er (gy x l).2:=by
 rw[gy];split
 ·
  exact TE _ _ _
 split
 ·
  exact LP _ _ _ _ _
 exact TC _ _
theorem TF: ∀(n:Nat) (x:WV) (l:List (Int×List UInt8)),Er (lB n x l).2
 |0,_,_=>er 0
 |n+1,x,l=>by
  rw[lB];split
  ·
   exact TF n _ l
  exact aeX _ _
theorem aeY(v:VV)(l:List (Int×List UInt8)):Er (eW v l).2:=by
 rw[eW];split
 ·
  exact er 1
 split
 ·
  exact er 7
 exact TF _ _ _
theorem aeZ(t:List Rt)(c:Ch):Er (eG t c):=by
 rw[eG];exact kQ (kQ (er 0) (kQ (er 6) (kQ (er 5) (er 0)))) (er 1)
theorem TG: ∀(l:List Ch) (t:List Rt),Er (hO t l).2
 |[],_=>er 0
 |c::r,t=>by
  rw[hO];split
  ·
   exact TG r _
  exact aeZ _ _
theorem ae0(t:List Rt)(l:List Ch):Er (dh t l):=by
 rw[dh];exact kQ (TG l t) (er 1)
theorem ae1(t:List Rt)(a b:Int):Er (jH t a b):=by
 rw[jH];exact kQ (er 1) (kQ (er 5) (er 0))
theorem TH(f:FV)(l:List Ch):Er (bK f l).2:=by
 rw[bK];split
 ·
  exact er 1
 split
 ·
  exact ae0 _ _
 split
 ·
  exact ae1 _ _ _
 split
 ·
  exact er 0
 exact aeY _ _
theorem ae2(l:List (List UInt8)):Er (fT l).2.2:=by
 rw[fT];split
 ·
  exact er 0
 split
 ·
  exact er 6
 exact er 2
theorem ae3(c:CV):Er (bE c).2:=by
 rw[bE];split
 ·
  exact er 1
 split
 ·
  exact er 7
 split
 ·
  exact ae2 _
 split
 ·
  exact er 2
 exact er 0
theorem Hh(c:CV):Er (cJ c).2:=by
 rw[cJ];split
 ·
  exact er 1
 split
 ·
  exact ae3 _
 split
 ·
  exact er 2
 split
 ·
  exact er 2
 exact er 0
theorem ae4(t:List Rt)(k:Key)(b:Int):Er (xH t k b):=by
 rw[xH];exact kQ (kQ (er 0) (er 6)) (er 1)
theorem TI(f:FV)(k:Key)(b:Int):Er (tn f k b):=by
 rw[tn];exact kQ (ae4 _ _ _) (er 1)
theorem LQ(c:CV)(l:List Ft):Er (ll c l):=kQ (er 0) (er 1)
theorem Hi(b:Bool):Er (if b=true then 0 else 1):=kQ (er 0) (er 1)
end Go.Kb
namespace Go.Proofs.YtkggjjnhnjjokaaGreatDoor
open Go.ax Go.Kb Go.RowKit
theorem ae5(w0 w:World)(L:List ai)(k:Nat)(xf:bS)(xb:Sl Ch)(xa:Option Nat)(xt:Sl UInt8)(line:List UInt8)(hw:Mem w0 (aq k (bZ (⟨xf,xb,xa,xt⟩:bX)) 174::dP 5 xt.sv xt.xs::L) w)(aA:xt.xs.length+line.length+1<=1000000000/\(xa=none\/xa=Option.some k)):Calls Tryz.prog 214 #[.pointer (some ⟨k,0,none⟩), .string ⟨line.toArray⟩] w fun e w'=> ∃U:Sv,e= .returned (.tuple #[])/\(True)/\Mem w0 (aq k (bZ (⟨xf,xb,(Option.some k),⟨U,xt.xs++line++[10]⟩⟩:bX)) 174::dP 5 U (xt.xs++line++[10])::L) w':=by
 obtain⟨zh,fw⟩:=aA;refine gV (args:=[_,_]) Tryz.func214 rfl Tryz.ntmps214 rfl hw ?_;change Cw _ _ _ _ _ [(0, .pointer (some ⟨k,0,none⟩)),(1, .string ⟨line.toArray⟩)] (aq k (bZ (⟨xf,xb,xa,xt⟩:bX)) 174::dP 5 xt.sv xt.xs::L);refine aQ ?_;refine bb rfl ⟨by omega,fw⟩ fun x8 pS=>ar ?_;refine bb (vs:=[_, .int .u8 ((10:UInt8).toNat:Int)]) rfl ⟨by simp only[adr];omega, .inr rfl⟩ fun qB tv=>Gi ?_;refine ez (.inr rfl) (jW rfl) (fun w1 hw=>?_);exact⟨qB,rfl,trivial,ah.mem hw⟩
instance apK{w0:World}{L R1 L2:List ai}{i0 i1:Nat}{k:Nat}{xf:bS}{xb:Sl Ch}{xa:Option Nat}{xt:Sl UInt8}{line:List UInt8}[q0:Has L k (bZ (⟨xf,xb,xa,xt⟩:bX)) 174 i0][d0:cn L i0 R1][q1:mC R1 xt.sv 5 xt.xs i1][d1:cn R1 i1 L2]:bV Tryz.prog 214 w0 L [.pointer (some ⟨k,0,none⟩), .string ⟨line.toArray⟩] (Sv) (fun U=> .tuple #[]) (fun U=>aq k (bZ (⟨xf,xb,(Option.some k),⟨U,xt.xs++line++[10]⟩⟩:bX)) 174::dP 5 U (xt.xs++line++[10])::L2) (fun U=>True) (xt.xs.length+line.length+1<=1000000000/\(xa=none\/xa=Option.some k)):=⟨fun hp w hw=>ae5 w0 w L2 k xf xb xa xt line (px q0.h d0.h q1.h d1.h hw) hp⟩
theorem ae6(w0 w:World)[tb:iC w0](L:List ai)(k:Nat)(xf:bS)(xb:Sl Ch)(xa:Option Nat)(xt:Sl UInt8)(line:List UInt8)(er:Int)(hw:Mem w0 (aq k (bZ (⟨xf,xb,xa,xt⟩:bX)) 174::dP 5 xt.sv xt.xs::L) w)(aA:xt.xs.length+line.length<=900000000/\(xa=none\/xa=Option.some k)/\Er er):Calls Tryz.prog 157 #[.pointer (some ⟨k,0,none⟩), .string ⟨line.toArray⟩, .int .i64 er] w fun e w'=> ∃U:Sv,e= .returned (.tuple #[])/\(True)/\Mem w0 (aq k (bZ (⟨xf,xb,(Option.some k),⟨U,xt.xs++(kv line er)++[10]⟩⟩:bX)) 174::dP 5 U (xt.xs++(kv line er)++[10])::L) w':=by
 obtain⟨zh,fw,LH,he9⟩:=aA;have zk:=jB 1 er.toNat oM (by decide);refine gV (args:=[_,_,_]) Tryz.func157 rfl Tryz.ntmps157 rfl hw ?_;change Cw _ _ _ _ _ [(0, .pointer (some ⟨k,0,none⟩)),(1, .string ⟨line.toArray⟩),(2, .int .i64 er)] (aq k (bZ (⟨xf,xb,xa,xt⟩:bX)) 174::dP 5 xt.sv xt.xs::L);refine ar ?_;refine Gb ?_ ?_<;>intro h0
 ·
  have hr:kv line er=[101,114,114,111,114,32]++dec er.toNat:=by rw[kv,if_pos h0];rfl
  rw[hr];refine Gi ?_;refine Gs ?_;refine cO (bM rfl ⟨LH,by omega⟩) (ag (jO rfl rfl (by simp only[af0,anc];omega)) (ar ?_));refine bb rfl ⟨by first|omega|(simp only[adr,af0,anc];omega),fw⟩ fun zl TJ=>Gi ?_;refine ez (.inr rfl) (jW rfl) (fun w1 hw=>?_);exact⟨zl,rfl,trivial,ah.mem hw⟩
 have hr:kv line er=line:=by rw[kv,if_neg (fun g=>g h0)]
 rw[hr];refine al ?_;refine bb rfl ⟨by first|omega|(simp only[adr,af0,anc];omega),fw⟩ fun zl TJ=>Gi ?_;refine ez (.inr rfl) (jW rfl) (fun w1 hw=>?_);exact⟨zl,rfl,trivial,ah.mem hw⟩
instance apL{w0:World}[tb:iC w0]{L R1 L2:List ai}{i0 i1:Nat}{k:Nat}{xf:bS}{xb:Sl Ch}{xa:Option Nat}{xt:Sl UInt8}{line:List UInt8}{er:Int}[q0:Has L k (bZ (⟨xf,xb,xa,xt⟩:bX)) 174 i0][d0:cn L i0 R1][q1:mC R1 xt.sv 5 xt.xs i1][d1:cn R1 i1 L2]:bV Tryz.prog 157 w0 L [.pointer (some ⟨k,0,none⟩), .string ⟨line.toArray⟩, .int .i64 er] (Sv) (fun U=> .tuple #[]) (fun U=>aq k (bZ (⟨xf,xb,(Option.some k),⟨U,xt.xs++(kv line er)++[10]⟩⟩:bX)) 174::dP 5 U (xt.xs++(kv line er)++[10])::L2) (fun U=>True) (xt.xs.length+line.length<=900000000/\(xa=none\/xa=Option.some k)/\Er er):=⟨fun hp w hw=>ae6 w0 w L2 k xf xb xa xt line er (px q0.h d0.h q1.h d1.h hw) hp⟩
end Go.Proofs.YtkggjjnhnjjokaaGreatDoor
namespace Go.Kb
open Go.ax
def bG(x:aS):Array Value:= #[.int .i64 x.kind]++ay x.r++bR x.key++ #[.int .i64 x.bits, .int .i64 x.n.toInt]
theorem mT(x:aS):(bG x).size=38:=by
 unfold bG;rw[aud,aud,aud,gN,eL];rfl
theorem Ba(x:aS):(bG x)[0]? =some (.int .i64 x.kind):=by
 unfold bG;rw[auk (by rw[aud,aud,gN,eL];exact(by decide:0<1+19+16)),auk (by rw[aud,gN];exact(by decide:0<1+19)),auk (show 0<1 from by decide)];rfl
theorem zm(x:aS)(j:Nat)(h:j<19):(bG x)[1+j]? =(ay x.r)[j]? :=by
 have h1:(#[Value.int .i64 x.kind]).size=1:=rfl;unfold bG;rw[auk (by rw[aud,aud,gN,eL,h1];omega),auk (by rw[aud,gN,h1];omega),avD (by rw[h1];omega),h1,aua]
theorem Bb(x:aS)(j:Nat)(h:j<16):(bG x)[20+j]? =(bR x.key)[j]? :=by
 have h1:(#[Value.int .i64 x.kind]).size=1:=rfl;have h2:(#[Value.int .i64 x.kind]++ay x.r).size=20:=by rw[aud,gN,h1]
 unfold bG;rw[auk (by rw[aud,eL,h2];omega),avD (by rw[h2];omega),h2,aua]
theorem tw(x:aS)(j:Nat):(bG x)[36+j]? =(#[Value.int .i64 x.bits, .int .i64 x.n.toInt])[j]? :=by
 have h2:(#[Value.int .i64 x.kind]++ay x.r++bR x.key).size=36:=by rw[aud,aud,gN,eL];rfl
 unfold bG;rw[avD (by rw[h2];omega),h2,aua]
theorem ae7{a b:aS}(h:bG a=bG b):a=b:=by
 have h0:=(Ba a).symm.trans ((congrArg (fun z=>z[0]?) h).trans (Ba b));have hr:ay a.r=ay b.r:=aut fun j=>by
  rcases atA j 19 with hj|hj
  ·
   rw[←zm a j hj,←zm b j hj,h]
  rw[atQ (by rw[gN];exact hj),atQ (by rw[gN];exact hj)]
 have hk:bR a.key=bR b.key:=aut fun j=>by
  rcases atA j 16 with hj|hj
  ·
   rw[←Bb a j hj,←Bb b j hj,h]
  rw[atQ (by rw[eL];exact hj),atQ (by rw[eL];exact hj)]
 have h6:=(tw a 0).symm.trans ((congrArg (fun z=>z[36+0]?) h).trans (tw b 0));have h7:=(tw a 1).symm.trans ((congrArg (fun z=>z[36+1]?) h).trans (tw b 1));have e0:a.kind=b.kind:=by simpa using h0
 have e6:a.bits=b.bits:=by simpa using h6
 have e7:a.n.toInt=b.n.toInt:=by simpa using h7
 have er:=Pg hr;have ek:=Jp hk;obtain⟨a1,a2,a3,a4,a5⟩:=a;obtain⟨b1,b2,b3,b4,b5⟩:=b;simp only at e0 e6 e7 er ek;subst e0 e6 er ek;rw[Int64.toInt_inj.1 e7]
instance:bp bG 38:=⟨mT,fun x=>by
 have h:(ay x.r).all (·.oneCell')=true:=bp.one x.r;have k:(bR x.key).all (·.oneCell')=true:=(inferInstance:gn (bR x.key) 16).one;rw[bG,av9,av9,av9,h,k];simp[Value.oneCell']⟩
instance:Deep aS:=Deep.flat bG 38
instance:gD aS bG 38:=⟨rfl,fun _=>rfl⟩
instance (x:aS):gn (bG x) 38:=⟨mT x,bp.one x⟩
instance (x:aS):bQ (bG x) 0 (.int .i64 x.kind):=⟨Ba x⟩
instance (x:aS):mY (bG x) 1 19 (ay x.r):=⟨gN _,fun j hj=>zm x j hj⟩
instance (x:aS):mY (bG x) 1 18 (cR x.r.p):=⟨oq _,fun j hj=>(zm x j (by omega)).trans (nJ x.r j hj)⟩
instance (x:aS):mY (bG x) 20 16 (bR x.key):=⟨eL _,fun j hj=>Bb x j hj⟩
instance (x:aS):bQ (bG x) 36 (.int .i64 x.bits):=⟨tw x 0⟩
instance (x:aS):bQ (bG x) 37 (.int .i64 x.n.toInt):=⟨tw x 1⟩
theorem uS(x:aS)(k:Nat):(bG x)[k]? =if k=0 then some (.int .i64 x.kind)else if k<20 then(ay x.r)[k -1]?else if k<36 then(bR x.key)[k -20]?else(#[Value.int .i64 x.bits, .int .i64 x.n.toInt])[k -36]? :=by
 split
 ·
  rename_i h;subst h;exact Ba x
 split
 ·
  obtain⟨j,rfl⟩: ∃j,k=1+j:=⟨k -1,by omega⟩;rw[zm x j (by omega),aua]
 split
 ·
  obtain⟨j,rfl⟩: ∃j,k=20+j:=⟨k -20,by omega⟩;rw[Bb x j (by omega),aua]
 obtain⟨j,rfl⟩: ∃j,k=36+j:=⟨k -36,by omega⟩;rw[tw x j,aua]
theorem TK(y:aS)(r:Rt):over (bG y) 1 (ay r)=bG {y with r:=r}:=aut fun k=>by
 rw[tU (by rw[gN,mT];decide),uS,uS,gN]
 by_cases h0:k=0
 ·
  rw[if_neg (by omega),if_pos h0,if_pos h0]
 by_cases h1:k<20
 ·
  rw[if_pos (by omega),if_neg h0,if_pos h1]
 rw[if_neg (by omega),if_neg h0,if_neg h0,if_neg h1,if_neg h1]
theorem TL(y:aS)(p:cH):over (bG y) 1 (cR p)=bG {y with r:=⟨p,y.r.dN⟩}:=aut fun k=>by
 rw[tU (by rw[oq,mT];decide),uS,uS,oq]
 by_cases h0:k=0
 ·
  rw[if_neg (by omega),if_pos h0,if_pos h0]
 by_cases h1:k<20
 ·
  rw[if_neg h0,if_neg h0,if_pos h1,if_pos h1]
  by_cases h2:k<19
  ·
   rw[if_pos (by omega),nJ _ _ (by omega)]
  rw[if_neg (by omega),show k -1=18 by omega,ue,ue]
 rw[if_neg (by omega),if_neg h0,if_neg h0,if_neg h1,if_neg h1]
theorem TM(y:aS)(q:Key):over (bG y) 20 (bR q)=bG {y with key:=q}:=aut fun k=>by
 rw[tU (by rw[eL,mT];decide),uS,uS,eL]
 by_cases h0:k=0
 ·
  rw[if_neg (by omega),if_pos h0,if_pos h0]
 by_cases h1:k<20
 ·
  rw[if_neg (by omega),if_neg h0,if_pos h1,if_neg h0,if_pos h1]
 by_cases h2:k<36
 ·
  rw[if_pos (by omega),if_neg h0,if_neg h1,if_pos h2]
 rw[if_neg (by omega),if_neg h0,if_neg h0,if_neg h1,if_neg h1,if_neg h2,if_neg h2]
theorem TN(y:aS)(b:Int):(bG y).setIfInBounds 36 (.int .i64 b)=bG {y with bits:=b}:=aut fun k=>by
 rw[aub,uS,uS,mT]
 by_cases h:36=k
 ·
  subst h;rw[if_pos rfl,if_pos (by decide),if_neg (by decide),if_neg (by decide),if_neg (by decide)];rfl
 rw[if_neg h]
 by_cases h2:k<36
 ·
  simp only[h2,if_true]
 rw[if_neg (by omega),if_neg (by omega),if_neg h2,if_neg (by omega),if_neg (by omega),if_neg h2]
 by_cases h3:k=37
 ·
  subst h3;have a1: ∀u v:Value,(#[u,v])[37 -36]? =some v:=fun _ _=>rfl;rw[a1,a1]
 rw[atQ (by show 2<=k -36;omega),atQ (by show 2<=k -36;omega)]
theorem TO(y:aS)(n:Int64):(bG y).setIfInBounds 37 (.int .i64 n.toInt)=bG {y with n:=n}:=aut fun k=>by
 rw[aub,uS,uS,mT]
 by_cases h:37=k
 ·
  subst h;rw[if_pos rfl,if_pos (by decide),if_neg (by decide),if_neg (by decide),if_neg (by decide)];rfl
 rw[if_neg h]
 by_cases h2:k<36
 ·
  simp only[h2,if_true]
 rw[if_neg (by omega),if_neg (by omega),if_neg h2,if_neg (by omega),if_neg (by omega),if_neg h2]
 by_cases h3:k=36
 ·
  subst h3;have a1: ∀u v:Value,(#[u,v])[36 -36]? =some u:=fun _ _=>rfl;rw[a1,a1]
 rw[atQ (by show 2<=k -36;omega),atQ (by show 2<=k -36;omega)]
theorem ae8(s:aH):(bD s 999).getD 0<=999:=J9 s 999
theorem ae9(y:aS){n:Nat}(h:n<=999):(bG y).setIfInBounds 37 (.int .i64 (n:Nat))=bG {y with n:=Int64.ofInt (n:Int)}:=by
 have:=TO y (Int64.ofInt (n:Int));rwa [Ax h]at this
def Bc(ps:List aH)(i:Nat):Array Value:= #[.int .i64 ((if 0<i then oz ps 0 else 0:Nat):Int), .int .i64 ((if 1<i then oz ps 1 else 0:Nat):Int), .int .i64 ((if 2<i then oz ps 2 else 0:Nat):Int)]
theorem afa(ps:List aH){i:Nat}(hi:i<3):(Bc ps i).setIfInBounds i (.int .i64 ((oz ps i:Nat):Int))=Bc ps (i+1):=by
 match i,hi with
 |0,_=>rfl
 |1,_=>rfl
 |2,_=>rfl
end Go.Kb
namespace Go.Proofs.YtkggjjnhnjjokaaGreatDoor
open Go.ax Go.Kb Go.RowKit
theorem afb(a b:Rt)(j:Nat)(hj:j<19): ∃u v,(ay a)[j]? =some u/\(ay b)[j]? =some v/\uK 0 u v:=by
 match j,hj with
 |0,_=>exact⟨_,_,(inferInstance:bQ (ay a) 0 _).h,(inferInstance:bQ (ay b) 0 _).h,rfl⟩
 |1,_=>exact⟨_,_,(inferInstance:bQ (ay a) 1 _).h,(inferInstance:bQ (ay b) 1 _).h,rfl⟩
 |j+2,hi=>
  rcases atA j 16 with h|h
  ·
   rw[avT j 2];exact⟨_,_,(nJ a _ oM).trans ((qR a.p j).trans (jh _ j h)),(nJ b _ oM).trans ((qR b.p j).trans (jh _ j h)),rfl⟩
  obtain rfl:j=16:=by omega
  exact⟨_,_,ue a,ue b,rfl⟩
theorem afc:Tryz.prog.stoodInHeld 73=false:=by kernel_rfl
theorem afd(d:Nat):tk Tryz.prog (d+1+1+1+1+1) 73 true ([0]++((([0]++([0]++((List.replicate 16 [0]).flatten++[])))++([0]++[]))++((List.replicate 16 [0]).flatten++([0]++([0]++[]))))):=⟨⟨_,Tryz.underlying73,rfl⟩,by kernel_rfl,(fun h=>by cases h),
 Lu Tryz.underlying73 afc ⟨by decide,rfl,_,_,_,rfl,Di _,by decide,rfl,_,_,_,rfl,S6 _,by decide,rfl,_,_,_,rfl,Lw _,by decide,rfl,_,_,_,rfl,Di _,by decide,rfl,_,_,_,rfl,Di _,rfl⟩⟩
theorem afe:Tryz.prog.eqGuardType Tryz.prog.depth 73=false:=by kernel_rfl
instance (a b:aS):yq Tryz.prog 73 (.agg (bG a)) (.agg (bG b)) (decide (a=b)):=
 (afd 9995).eq.val rfl afe (mT a) (mT b) (fun i k hk=>by
  have h0:k=0:=by
   have:k∈([0]++((([0]++([0]++((List.replicate 16 [0]).flatten++[])))++([0]++[]))++((List.replicate 16 [0]).flatten++([0]++([0]++[]))))):=alM hk;simpa using this
  subst h0;have hi:i<38:=(zz.1 hk).1;rcases avu i with h0|h0
  ·
   subst h0;exact⟨_,_,Ba a,Ba b,rfl⟩
  rcases atA i 20 with h1|h1
  ·
   obtain⟨j,rfl⟩: ∃j,i=1+j:=⟨i -1,by omega⟩;obtain⟨u,v,hu,hv,hk⟩:=afb a.r b.r j oM;exact⟨u,v,(zm a j oM).trans hu,(zm b j oM).trans hv,hk⟩
  rcases atA i 36 with h2|h2
  ·
   obtain⟨j,rfl⟩: ∃j,i=20+j:=⟨i -20,by omega⟩;exact⟨_,_,(Bb a j oM).trans (jh _ j oM),(Bb b j oM).trans (jh _ j oM),rfl⟩
  rcases atA i 37 with h3|h3
  ·
   obtain rfl:i=36+0:=by omega
   exact⟨_,_,tw a 0,tw b 0,rfl⟩
  obtain rfl:i=36+1:=by omega
  exact⟨_,_,tw a 1,tw b 1,rfl⟩) (by rw[decide_eq_true_iff];exact⟨ae7,fun h=>by rw[h]⟩)
instance:su Tryz.prog 73 [] (.agg (bG uq)):=⟨fun w=>by unfold bG ay cR uq bO;rw[tl];kernel_rfl⟩
instance:eP Tryz.prog 73 (.agg (bG uq)):=⟨by unfold bG ay cR uq bO;rw[tl];kernel_rfl⟩
instance (k:Int):su Tryz.prog 73 [(0, .int .i64 k)] (.agg (bG ⟨k,bO,0#128,0,0⟩)):=⟨fun w=>by unfold bG ay cR bO;rw[tl];kernel_rfl⟩
theorem apM(w:World)(c:UInt8):Calls Tryz.prog 211 #[.int .u8 (c.toNat:Nat)] w fun e w'=>e= .returned (.int .i64 (sO c))/\Mem w [] w':=by
 refine ct Tryz.func211 rfl Tryz.ntmps211 rfl ?_;refine qW ?_;refine Gb ?_ ?_<;>intro h0
 ·
  refine av ?_;refine ag (Fi (p:=c.toNat) (q:=48) rfl rfl rfl rfl oM) (ag (kX rfl (by simp only[nb];omega)) (av ?_));refine Gr fun w1 hw=>?_;exact Gf ((by simp only[sO,kY];rw[if_pos oM])) hw
 refine fI ?_;refine Gb ?_ ?_<;>intro h1
 ·
  refine av ?_;refine ag (Fi (p:=c.toNat) (q:=97) rfl rfl rfl rfl oM) (ag (kX rfl (by simp only[nb];omega)) (al ?_));refine Gr fun w1 hw=>?_;exact Gf ((by simp only[sO,kY];rw[if_neg oM,if_pos oM];simp only[];omega)) hw
 refine al ?_;refine Gr fun w1 hw=>?_;exact Gf ((by simp only[sO,kY];rw[if_neg oM,if_neg oM])) hw
theorem aff(n:Nat):n<4611686018427387904-> ∀w:World,Calls Tryz.prog 35 #[.int .i64 (n:Nat)] w fun e w'=>e= .returned (.string ⟨(dec n).toArray⟩)/\Mem w [] w':=by
 induction n using Nat.strongRecOn with
 |_ n ih=>
 intro hn w;have hl:=jB 20 n oM (by decide);refine ct Tryz.func35 rfl Tryz.ntmps35 rfl ?_;refine aZ ?_;refine Gb ?_ ?_<;>intro h0
 ·
  refine al ?_;refine ag (kX rfl (by simp only[nb];omega)) (ag (OW (n:=(48+n)) (by rw[Tryz.underlying21];rfl) Tryz.underlying9 rfl oM) (av ?_));refine Gr fun w1 hw=>?_;exact⟨(by rw[pq oM]),ah.mem hw⟩
 refine av ?_;refine ag (n9 rfl rfl oM oM) (cO (B6 (v:= .string ⟨(dec (n/10)).toArray⟩) rfl (fun w1 mr=>ih (n/10) oM oM w1)) (Gs ?_));refine ag (wU (p:=n) (q:=10) rfl rfl rfl rfl oM) (Gs ?_);refine ag (kX rfl (by simp only[nb];omega)) (ag (OW (n:=(48+(n%10))) (by rw[Tryz.underlying21];rfl) Tryz.underlying9 rfl oM) (ag (jO rfl rfl (by have:=jB 20 (n/10) oM (by decide);simp only[af0,anc];omega)) (av ?_)));refine Gr fun w1 hw=>?_;exact⟨(by rw[sH (n:=n) oM]),ah.mem hw⟩
variable {w0:World}{L:List ai}
instance apN{n:Nat}:bU Tryz.prog 35 w0 L [.int .i64 (n:Nat)] (.string ⟨(dec n).toArray⟩) (n<4611686018427387904):=⟨fun h w _=>aff n h w⟩
theorem apO(w:World)(s:List UInt8)(top:Nat)(aA:top<=65535):Calls Tryz.prog 210 #[.string ⟨s.toArray⟩, .int .i64 (top:Nat)] w fun e w'=>e= .returned (.int .i64 (CA s top))/\Mem w [] w':=by
 refine dz Tryz.func210 rfl Tryz.ntmps210 rfl ?_;refine ar ?_;refine ag (qQ (s:=s) Tryz.underlying9 rfl) (al ?_);refine bJ rfl rfl rfl (fun hg=>(Ry.yl (qQ (s:=s) Tryz.underlying9 (aF hg rfl)))) (ar ?_);refine bJ rfl rfl rfl (fun hg=>(Ry.yl (qQ (s:=s) Tryz.underlying9 (aF hg rfl)))) (Gg ?_);refine bJ rfl rfl rfl (fun hg=>(Ry.yl (bo (aF hg rfl)))) (pc rfl rfl rfl (fun hg=>(Ry.yl (bo rfl))) (pc rfl rfl rfl (fun hg=>(Ry.yl (vA (s:=s) 0 Tryz.underlying9 (aF hg rfl) rfl rfl (by simp only[Z0,Z1,Z2,Z3,Z4,Z5,Z6,Z7,Z8,Z9]at hg;omega)))) (pc rfl rfl rfl (fun hg=>(Ry.yl (fE (aF hg rfl) rfl rfl))) (bJ rfl rfl rfl (fun hg=>(Ry.yl (zN (aF hg rfl) (yy hg rfl) rfl))) (av ?_)))));refine Gb ?_ ?_<;>intro h0
 ·
  refine al ?_;refine Gr fun w1 hw=>?_;exact Gf ((by rw[CA,Zj aA oM])) hw
 have hx:s.length<=5/\0<s.length:=by omega
 refine aQ ?_;refine ck (X:=Nat) (fun U=>[(6, .int .i64 (U:Nat)),(5, .int .i64 ((val (s.take U)):Nat)),(0, .string ⟨s.toArray⟩),(1, .int .i64 (top:Nat))]) (fun U=>[]) (fun U=>U<=s.length/\(s.take U).all lP=true) (fun U=>s.length -U) 0 ⟨Nat.zero_le _,rfl⟩ (Sub.cons rfl (Sub.cons (look_eq rfl rfl) sb)) (fun w hw=>ah.mem hw) ?_;rintro i ⟨hi,hd⟩;have hv:=Zh (s:=s) (i:=i) oM hi hd;refine al ?_;refine ag (qQ (s:=s) Tryz.underlying9 rfl) (av ?_);refine Gb ?_ ?_<;>intro h1
 ·
  refine al ?_;refine ag (vA (s:=s) i Tryz.underlying9 rfl rfl rfl oM) (ar ?_);refine bJ rfl rfl rfl (fun hg=>(Ry.yl (vA (s:=s) i Tryz.underlying9 (aF hg rfl) (aF hg rfl) rfl (by simp only[Z0,Z1,Z2,Z3,Z4,Z5,Z6,Z7,Z8,Z9]at hg;omega)))) (al ?_);refine Gb ?_ ?_<;>intro h2
  ·
   refine al ?_;refine Gr fun w1 hw=>?_;exact Gf ((by rw[CA,Pr (i:=i) oM oM])) hw
  refine av ?_;refine ag (vl rfl rfl oM) (av ?_);refine ag (vA (s:=s) i Tryz.underlying9 rfl rfl rfl oM) (ag (Fi (p:=(s.getD i 0).toNat) (q:=48) rfl rfl rfl rfl oM) (ag (kX rfl (by simp only[nb];omega)) (aZ ?_)));refine Gi ?_;exact bw (x:=(i)) (i+1) ⟨oF,Pq oF hd oF⟩ oF (Sub.cons rfl (Sub.cons (look_eq rfl (by rw[Fw oM,auP 10];rfl)) sb)) (fun w hw=>ah.mem hw)
 refine aQ ?_;refine Gb ?_ ?_<;>intro h3
 ·
  refine al ?_;refine Gr fun w1 hw=>?_;exact Gf ((by rw[CA,Ps (i:=i) oM])) hw
 refine ar ?_;refine Gr fun w1 hw=>?_;exact Gf ((by have e:s.take i=s:=atC oM;rw[e]at hd;rw[CA,Pt (auV.1 hx.2) oM hd (by rw[←e];omega),e])) hw
instance apP{s:List UInt8}{top:Nat}:bU Tryz.prog 117 w0 L [.string ⟨s.toArray⟩, .int .i64 (top:Nat)] (.tuple #[.int .i64 (((bD s top).getD 0):Nat), .bool ((bD s top).isSome)]) (top<=65535/\s.length<=1000000000):=⟨fun aA w hw=>by
 refine dz Tryz.func117 rfl Tryz.ntmps117 rfl ?_;refine aQ ?_;refine ag (yD rfl rfl) (av ?_);refine bJ rfl rfl rfl (fun hg=>(Ry.yl (qQ (s:=s) Tryz.underlying9 (aF hg rfl)))) (Gg ?_);refine bJ rfl rfl rfl (fun hg=>(Ry.yl (bo (aF hg rfl)))) (pc rfl rfl rfl (fun hg=>(Ry.yl (bo rfl))) (pc rfl rfl rfl (fun hg=>(Ry.yl (vA (s:=s) 0 Tryz.underlying9 (aF hg rfl) rfl rfl (by simp only[Z0,Z1,Z2,Z3,Z4,Z5,Z6,Z7,Z8,Z9]at hg;omega)))) (pc rfl rfl rfl (fun hg=>(Ry.yl (fE (aF hg rfl) rfl rfl))) (bJ rfl rfl rfl (fun hg=>(Ry.yl (zN (aF hg rfl) (yy hg rfl) rfl))) (av ?_)))));refine Gb ?_ ?_<;>intro h0
 ·
  refine ar ?_;refine Gr fun w1 hw=>?_;exact⟨(by rw[Zk (h0.imp id fun h=>⟨by omega,by omega⟩)];rfl),ah.mem hw⟩
 refine ar ?_;refine ag (qQ (s:=s) Tryz.underlying9 rfl) (av ?_);refine ck (X:=Nat) (fun U=>[(22, .int .i64 (U:Nat)),(6, .int .i64 ((val (s.take U)):Nat)),(0, .string ⟨s.toArray⟩),(1, .int .i64 (top:Nat)),(21, .int .i64 (s.length:Nat))]) (fun U=>[]) (fun U=>U<=s.length/\(s.take U).all lP=true/\val (s.take U)<=top) (fun U=>s.length -U) 0 ⟨Nat.zero_le _,rfl,atL _⟩ (Sub.cons rfl (Sub.cons (look_eq rfl rfl) sb)) (fun w hw=>ah.mem hw) ?_;rintro i ⟨hi,hd,hv⟩;refine al ?_;refine Gb ?_ ?_<;>intro h1
 ·
  refine aZ ?_;refine ag (vA (s:=s) i Tryz.underlying9 rfl rfl rfl oM) (ar ?_);refine bJ rfl rfl rfl (fun hg=>(Ry.yl (vA (s:=s) i Tryz.underlying9 (aF hg rfl) (aF hg rfl) rfl (by simp only[Z0,Z1,Z2,Z3,Z4,Z5,Z6,Z7,Z8,Z9]at hg;omega)))) (al ?_);refine Gb ?_ ?_<;>intro h2
  ·
   refine ar ?_;refine Gr fun w1 hw=>?_;exact⟨(by rw[Pr (i:=i) oM oM];rfl),ah.mem hw⟩
  refine av ?_;refine ag (vl rfl rfl oM) (av ?_);refine ag (vA (s:=s) i Tryz.underlying9 rfl rfl rfl oM) (ag (Fi (p:=(s.getD i 0).toNat) (q:=48) rfl rfl rfl rfl oM) (ag (kX rfl (by simp only[nb];omega)) (di ?_)));refine Gb ?_ ?_<;>intro h3
  ·
   refine ar ?_;refine Gr fun w1 hw=>?_;exact⟨(by rw[Ps (i:=i+1) (by rw[Fw oM];omega)];rfl),ah.mem hw⟩
  refine al ?_;refine Gi ?_;exact bw (x:=(i)) (i+1) ⟨oF,Pq oF hd oF,by rw[Fw oF];omega⟩ oF (Sub.cons rfl (Sub.cons (look_eq rfl (by rw[Fw oM];rfl)) sb)) (fun w hw=>ah.mem hw)
 refine aQ ?_;refine Gr fun w1 hw=>?_;exact⟨(by have e:s.take i=s:=atC oM;rw[e]at hd hv;rw[Pt h0.1 (by have:=h0.2;omega) hd hv,e];rfl),ah.mem hw⟩⟩
instance apQ{k:Key}{n:Int}:bU Tryz.prog 153 w0 L [.agg (bR k), .int .i64 n] (.bool (lS k n)) (True):=⟨fun aA w hw=>by
 refine dz Tryz.func153 rfl Tryz.ntmps153 rfl ?_;refine Gc ?_;refine cm rfl fun b2=>ja ?_;refine Gb ?_ ?_<;>intro h0
 ·
  refine al ?_;refine Gr fun w1 hw=>?_;exact Ge ((by rw[Zn oM])) hw
 refine Gc ?_;refine kf oK oK (av ?_);refine wN (bM rfl trivial) (Gq ?_);refine cr (IQ rfl rfl) (av ?_);refine Gr fun w1 hw=>?_;exact⟨congrArg (fun b=>Ending.returned (Value.bool b)) ((by rw[Zo oM])),ah.mem hw⟩⟩
instance apR{sep:List UInt8}{z:Sv}{zs:List aH}[hz:dy w0 L mw 1 z zs]:bU Tryz.prog 104 w0 L [.string ⟨sep.toArray⟩,z.val] (.string ⟨(uf sep zs).toArray⟩) (zs≠[]/\(uf sep zs).length<=140737488355328):=⟨fun aA w hw=>by
 have hz:=hz.h w hw;have ghz:Gv w z mw 1 zs:=⟨hz⟩;refine dz Tryz.func104 rfl Tryz.ntmps104 rfl ?_;refine aQ ?_;refine cO (bM rfl aA) (av ?_);refine Gr fun w1 hw=>?_;exact⟨rfl,ah.mem hw⟩⟩
instance:eP Tryz.prog 5 (.int .u8 0):=⟨by kernel_rfl⟩
instance apS{k:Key}{n:Int}[tb:Tabs w0]:bU Tryz.prog 85 w0 L [.agg (bR k), .int .i64 n] (.tuple #[.string ⟨(jD k n).toArray⟩, .int .i64 (gW (lS k n))]) (True):=⟨fun aA w hw=>by
 have tb:=tb.at hw;have h4:=Fy k;refine dz Tryz.func85 rfl Tryz.ntmps85 rfl ?_;refine Gc ?_;refine cm rfl fun b2=>fI ?_;refine Gb ?_ ?_<;>intro h0
 ·
  refine ar ?_;refine Gr fun w1 hw=>?_;exact⟨(by rw[jD,h0];rfl),ah.mem hw⟩
 refine ar ?_;refine Gb ?_ ?_<;>intro h1
 ·
  refine al ?_;refine ag (Ry.as (v':=Sv.val ⟨false,b2,0,4,16,none⟩) (IT rfl rfl (by decide) (by decide)) rfl) (al ?_);refine ck (X:=Nat×Sv×List aH) (fun U=>[(20, .int .i64 (U.1:Nat)),(6,U.2.1.val),(18,(⟨false,b2,0,4,16,none⟩:Sv).val),(19, .int .i64 (((ou k).take 4).length:Nat))]) (fun U=>[own mw 1 U.2.1 U.2.2,aq b2 (bR k) 25]) (fun U=>U.1<=4/\U.2.2=((((ou k).take 4).take U.1).map fun b=>dec b.toNat)) (fun U=>4 -U.1) (0,Sv.none,[]) ⟨Nat.zero_le _,rfl⟩ sb (fun w hw=>Mem.dK mw 1 (ah.mem hw)) ?_;rintro⟨i,o,q⟩ ⟨hi,hq⟩;dsimp only;simp only at hi hq;have yi:q.length<=4:=by rw[hq,List.length_map,List.length_take];omega
  refine al ?_;refine Gb ?_ ?_<;>intro h2
  ·
   refine mB ?_;obtain⟨x,hx⟩:=get_some (xs:=((ou k).take 4)) (i:=i) oM;refine ag (bh rfl rfl i rfl oM) (ag (bT (j:=0) rfl i hx rfl (by decide)) (ar ?_));refine ag (wV rfl) (cO (bM rfl (by first|omega|exact au2 (avQ _) (by decide)|exact au2 (avE _) (by decide))) ?_);refine om (enc:=mw) (vals:=[_]) [(dec x.toNat)] rfl rfl rfl (by decide) (by decide) fun zn=>?_;refine nf (s:=o) (ys:=[(dec x.toNat)]) rfl rfl (by decide) (fun w hw=>jy (s:=⟨false,zn,0,1,1,none⟩) Tryz.underlying155 (by decide) ((inferInstance:Hd _ _ ⟨false,zn,0,1,1,none⟩ mw 1 [(dec x.toNat)]).h w hw)) (by simp only[adr,af0,anc];omega) (by simp only[adr,af0,anc];omega) fun s29 apT apU=>?_;refine ar ?_;refine Gi ?_;exact bw (x:=(i,o,q)) (i+1,s29,q++[dec x.toNat]) ⟨oF,by simp only;rw[hq,Zu oF hx]⟩ (by simp only;omega) sb (fun w hw=>ah.mem hw)
  refine mB ?_;have TP:q=((ou k).take 4).map fun b=>dec b.toNat:=by rw[hq,atC oM]
  refine Gi ?_;refine Gs ?_;refine cO (bM rfl (by rw[TP];exact Zv k)) (al ?_);refine Gr fun w1 hw=>?_;exact⟨(by rw[jD,h0,if_pos rfl,qS,if_pos h1,TP,Pv];rfl),ah.mem hw⟩
 refine Gc ?_;refine vu (enc:=aO) (n:=0) (cap:=32) 0 rfl rfl rfl rfl rfl oM oM oM fun jJ=>aQ ?_;refine ck (X:=Nat×Sv×List UInt8) (fun U=>[(35, .int .i64 (U.1:Nat)),(9,U.2.1.val),(34, .agg (bR k))]) (fun U=>[own aO 1 U.2.1 U.2.2,aq b2 (bR k) 25]) (fun U=>U.1<=16/\U.2.2=(ot k).take (2*U.1)) (fun U=>16 -U.1) (0,⟨false,jJ,0,0,32,none⟩,[]) ⟨Nat.zero_le _,rfl⟩ sb (fun w hw=>hw) ?_;rintro⟨i,o,q⟩ ⟨hi,hq⟩;dsimp only;simp only at hi hq;have yi:q.length<=32:=by rw[hq,List.length_take,Cy];omega
 refine al ?_;refine Gb ?_ ?_<;>intro h3
 ·
  refine Gc ?_;refine ag (Zm Tryz.underlying25 rfl rfl i rfl oM) (Gs ?_);refine gu ?_;refine wO 8 [7] oK oK ?_;simp only[auD,atW];refine av ?_;refine cr (wM (p:=bf k i) rfl rfl (jC k i) (by decide)) (cr (IV (s:=⟨([48,49,50,51,52,53,54,55,56,57,97,98,99,100,101,102]:aH).toArray⟩) (v:=(jP (ic k (2*i))).toNat) Tryz.underlying9 rfl rfl (Int.natCast_nonneg _) (Zr k i)) (Gq ?_));refine cr (Of (p:=bf k i) (q:=15) rfl rfl rfl rfl (jC k i) (by decide)) (cr (IV (s:=⟨([48,49,50,51,52,53,54,55,56,57,97,98,99,100,101,102]:aH).toArray⟩) (v:=(jP (ic k (2*i+1))).toNat) Tryz.underlying9 rfl rfl (Int.natCast_nonneg _) (Zs k i)) (Oi (vm (Yr (enc:=aO) rfl (vals:=[_,_]) [(jP (ic k (2*i))),(jP (ic k (2*i+1)))] rfl rfl rfl (by decide) (by decide) fun pT=>vn ?_))));simp only[au3,auI];refine nf (s:=o) (ys:=[(jP (ic k (2*i))),(jP (ic k (2*i+1)))]) rfl rfl (by decide) (fun w hw=>jy (s:=⟨false,pT,0,2,2,none⟩) Tryz.underlying53 (by decide) ((inferInstance:Hd _ _ ⟨false,pT,0,2,2,none⟩ aO 1 [(jP (ic k (2*i))),(jP (ic k (2*i+1)))]).h w hw)) (by simp only[adr,af0,anc];omega) (by simp only[adr,af0,anc];omega) fun s46 apV apW=>?_;refine ar ?_;refine Gi ?_;exact bw (x:=(i,o,q)) (i+1,s46,q++[jP (ic k (2*i)),jP (ic k (2*i+1))]) ⟨oF,by simp only;rw[hq,Zt k oF]⟩ (by simp only;omega) sb (fun w hw=>ah.mem hw)
 refine av ?_;refine ag (Jf Tryz.underlying53 Tryz.underlying5 Tryz.underlying9 rfl) (al ?_);refine Gr fun w1 hw=>?_;exact⟨(by rw[jD,h0,if_pos rfl,qS,if_neg h1,hq,atC (by rw[Cy];omega)];rfl),ah.mem hw⟩⟩
instance apX{p:cH}[tb:Tabs w0]:bU Tryz.prog 84 w0 L [.agg (cR p)] (.tuple #[.string ⟨(k7 p).toArray⟩, .int .i64 (gW (bm p))]) (True):=⟨fun aA w hw=>by
 have tb:=tb.at hw;have w8:=Fz p.key p.bits;refine ct Tryz.func84 rfl Tryz.ntmps84 rfl ?_;refine Gc ?_;refine cm rfl fun b1=>di ?_;refine Gb ?_ ?_<;>intro h0
 ·
  refine ar ?_;refine Gr fun w1 hw=>?_;exact⟨(by rw[k7,h0];rfl),ah.mem hw⟩
 obtain⟨k1,k2,k3⟩:=Pz h0;have zk:=jB 3 p.len.toNat oM (by decide);refine av ?_;refine ag (fW rfl) (ar ?_);refine ag (aE (v:= .string ⟨(jD p.key p.bits).toArray⟩) rfl rfl) (ag (aE (v:= .int .i64 (gW (lS p.key p.bits))) rfl rfl) (aZ ?_));refine Gb ?_ ?_<;>intro h1
 ·
  exfalso;rw[k1]at h1;simp[gW]at h1
 refine ar ?_;refine cO (bM rfl ⟨k2,by omega⟩) ?_;refine om (enc:=mw) (vals:=[_,_]) [(jD p.key p.bits),(dec p.len.toNat)] rfl rfl rfl (by decide) (by decide) fun b24=>?_;refine cO (bM rfl (PA _ _ 47 oM)) (al ?_);refine Gr fun w1 hw=>?_;exact⟨(by rw[k7,h0,if_pos rfl,Jw,sN,jD,if_pos k1];rfl),ah.mem hw⟩⟩
instance apY{r:Rt}[tb:Tabs w0]:bU Tryz.prog 41 w0 L [.agg (ay r)] (.tuple #[.string ⟨(iB r).toArray⟩, .int .i64 (gW (bm r.p))]) (True):=⟨fun aA w hw=>by
 have tb:=tb.at hw;have ca:=FA r.p;have zk:=jB 5 r.dN.toNat (au2 (avE _) (by decide)) (by decide);refine ct Tryz.func41 rfl Tryz.ntmps41 rfl ?_;refine Gc ?_;refine cm rfl fun b1=>ar ?_;refine ag (fW rfl) (av ?_);refine ag (aE (v:= .string ⟨(k7 r.p).toArray⟩) rfl rfl) (ag (aE (v:= .int .i64 (gW (bm r.p))) rfl rfl) (aZ ?_));refine Gb ?_ ?_<;>intro h0
 ·
  have e0:bm r.p=false:=by cases e:bm r.p with
   |false=>rfl
   |true=>rw[e]at h0;simp[gW]at h0
  refine aQ ?_;refine Gr fun w1 hw=>?_;exact⟨(by rw[iB,e0];rfl),ah.mem hw⟩
 have e0:bm r.p=true:=by cases e:bm r.p with
  |true=>rfl
  |false=>rw[e]at h0;simp[gW]at h0
 refine ar ?_;refine ag (OM rfl) (cO (bM rfl (by first|omega|exact au2 (avQ _) (by decide)|exact au2 (avE _) (by decide))) ?_);refine om (enc:=mw) (vals:=[_,_]) [(k7 r.p),(dec r.dN.toNat)] rfl rfl rfl (by decide) (by decide) fun iT=>?_;refine cO (bM rfl (PA _ _ 32 oM)) (al ?_);refine Gr fun w1 hw=>?_;exact⟨(by rw[iB,e0,if_pos rfl,Jw,yK,k7,if_pos e0];rfl),ah.mem hw⟩⟩
instance apZ{x:aS}[tb:iC w0]:bU Tryz.prog 32 w0 L [.agg (bG x)] (.tuple #[.string ⟨(qY x).toArray⟩, .int .i64 (sU x)]) (True):=⟨fun aA w hw=>by
 have tb:=tb.at hw;have hwl:=Qq x.kind;refine ct Tryz.func32 rfl Tryz.ntmps32 rfl ?_;refine Gc ?_;refine cm rfl fun b1=>aQ ?_;refine ag (fP rfl) (bt fun b4=>ar ?_);refine gu ?_;refine sB (X:=aS×aH×Int) (fun U=>[(4, .pointer (some ⟨b4,0,none⟩)),(5, .string ⟨U.2.1.toArray⟩),(6, .int .i64 U.2.2),(1, .pointer (some ⟨b1,0,none⟩))]) (fun U=>[aq b4 (bG U.1) 73,aq b1 (bG x) 73]) (fun U=>U.1=mD x/\(U.2.2=0->kG x=true/\U.2.1=mE x)/\(U.2.2≠0->kG x=false)/\ ¬(x.kind=3\/x.kind=7\/x.kind=8)) ?_ ?_
 ·
  refine di ?_;refine Gb ?_ ?_<;>intro h0
  ·
   have mR:mD x=(⟨x.kind,x.r,0#128,0,0⟩:aS):=by rw[mD,if_pos h0]
   have xQ:kG x=bm x.r.p:=by rw[kG,if_pos (.inl h0)]
   have Du:mE x=iB x.r:=by rw[mE,if_pos h0]
   refine av ?_;refine ag (fW rfl) (Gs ?_);refine qP (cs':=bG (⟨x.kind,x.r,0#128,0,0⟩:aS)) rfl rfl (by rw[mT];decide) (TK (⟨x.kind,bO,0#128,0,0⟩:aS) x.r) (av ?_);refine ag (fW rfl) (av ?_);refine ag (aE (v:= .string ⟨(iB x.r).toArray⟩) rfl rfl) (ag (aE (v:= .int .i64 (gW (bm x.r.p))) rfl rfl) (av ?_));refine gu ?_;exact hY ((⟨x.kind,x.r,0#128,0,0⟩:aS),iB x.r,gW (bm x.r.p)) ⟨mR.symm,fun g=>⟨xQ.trans (Ka.1 g),Du.symm⟩,fun g=>by rw[xQ];cases hq:bm x.r.p with|false=>rfl|true=>simp only[hq]at g;exact absurd rfl g,oF⟩ sb (fun w hw=>ah.mem hw)
  refine ar ?_;refine Gb ?_ ?_<;>intro h1
  ·
   have mR:mD x=(⟨x.kind,⟨x.r.p,0⟩,0#128,0,0⟩:aS):=by rw[mD,if_neg h0,if_pos h1]
   have xQ:kG x=bm x.r.p:=by rw[kG,if_pos (.inr h1)]
   have Du:mE x=k7 x.r.p:=by rw[mE,if_neg h0,if_pos h1]
   refine al ?_;refine ag (fW rfl) (av ?_);refine qP (cs':=bG (⟨x.kind,⟨x.r.p,0⟩,0#128,0,0⟩:aS)) rfl rfl (by rw[mT];decide) (TL (⟨x.kind,bO,0#128,0,0⟩:aS) x.r.p) (al ?_);refine ag (fW rfl) (av ?_);refine ag (aE (v:= .string ⟨(k7 x.r.p).toArray⟩) rfl rfl) (ag (aE (v:= .int .i64 (gW (bm x.r.p))) rfl rfl) (av ?_));refine gu ?_;exact hY ((⟨x.kind,⟨x.r.p,0⟩,0#128,0,0⟩:aS),k7 x.r.p,gW (bm x.r.p)) ⟨mR.symm,fun g=>⟨xQ.trans (Ka.1 g),Du.symm⟩,fun g=>by rw[xQ];cases hq:bm x.r.p with|false=>rfl|true=>simp only[hq]at g;exact absurd rfl g,oF⟩ sb (fun w hw=>ah.mem hw)
  refine ar ?_;refine Gb ?_ ?_<;>intro h2
  ·
   have mR:mD x=(⟨x.kind,bO,x.key,x.bits,0⟩:aS):=by rw[mD,if_neg h0,if_neg h1,if_pos h2]
   have xQ:kG x=lS x.key x.bits:=by rw[kG,if_neg (fun g=>g.elim h0 h1),if_pos h2]
   have Du:mE x=jD x.key x.bits:=by rw[mE,if_neg h0,if_neg h1,if_pos h2]
   refine Gi ?_;refine ji [5,7,1000,1001,1004,1006] [[],[0],[],[],[0,1],[0,1,4],[0,1,4,5],[0,1,4,5,6]] [0,1,2,3,4,5,6,7] [aq b1 (bG x) 73] (fun _ hw=>ah.mem hw) oK oK (gE rfl (aN (o':=20) rfl rfl) (gE rfl (fW rfl) (an rfl (aN (o':=36) rfl rfl) (an rfl (bI rfl) (gE rfl (aN (o':=20) rfl rfl) ?_)))));refine dr rfl (JU (cs':=bG (⟨x.kind,bO,x.key,0,0⟩:aS)) rfl rfl (by rw[mT];decide) (TM (⟨x.kind,bO,0#128,0,0⟩:aS) x.key) ⟨fun _ hw=>ah.mem hw,?_⟩);refine gE rfl (aN (o':=36) rfl rfl) ?_;refine dr rfl (uj (cs':=bG (⟨x.kind,bO,x.key,x.bits,0⟩:aS)) rfl rfl (by rw[mT];decide) rfl (TN (⟨x.kind,bO,x.key,0,0⟩:aS) x.bits) ⟨fun _ hw=>ah.mem hw,?_⟩);refine av ?_;refine ag (fW rfl) (ar ?_);refine ag (aE (v:= .string ⟨(jD x.key x.bits).toArray⟩) rfl rfl) (ag (aE (v:= .int .i64 (gW (lS x.key x.bits))) rfl rfl) (av ?_));refine gu ?_;exact hY ((⟨x.kind,bO,x.key,x.bits,0⟩:aS),jD x.key x.bits,gW (lS x.key x.bits)) ⟨mR.symm,fun g=>⟨xQ.trans (Ka.1 g),Du.symm⟩,fun g=>by rw[xQ];cases hq:lS x.key x.bits with|false=>rfl|true=>simp only[hq]at g;exact absurd rfl g,oF⟩ sb (fun w hw=>ah.mem hw)
  have Bd:kG x=if x.kind=5\/x.kind=6 then decide (0<=x.n.toInt/\x.n.toInt<=999)else decide (x.kind=3\/x.kind=7\/x.kind=8):=by rw[kG,if_neg (fun g=>g.elim h0 h1),if_neg h2]
  have zo:mD x=if x.kind=5\/x.kind=6 then(⟨x.kind,bO,0#128,0,x.n⟩:aS)else(⟨x.kind,bO,0#128,0,0⟩:aS):=by rw[mD,if_neg h0,if_neg h1,if_neg h2]
  have hr4:mE x=dec x.n.toInt.toNat:=by rw[mE,if_neg h0,if_neg h1,if_neg h2]
  refine sB (X:=Bool) (fun U=>[(53, .bool U),(1, .pointer (some ⟨b1,0,none⟩)),(4, .pointer (some ⟨b4,0,none⟩)),(5, .string ⟨[].toArray⟩),(6, .int .i64 0),(11, .int .i64 x.kind)]) (fun U=>[aq b4 (bG (⟨x.kind,bO,0#128,0,0⟩:aS)) 73,aq b1 (bG x) 73]) (fun U=>U=decide (x.kind=5\/x.kind=6)) ?_ ?_
  ·
   refine ar ?_;refine Gb ?_ ?_<;>intro h3
   ·
    refine Gi ?_;exact hY (decide (x.kind=5)) (by simp[h3]) sb (fun w hw=>ah.mem hw)
   refine Gi ?_;refine av ?_;refine Gi ?_;exact hY (decide (x.kind=6)) (by simp[h3]) sb (fun w hw=>ah.mem hw)
  rintro z hz;refine Gb ?_ ?_<;>intro h4
  ·
   have uT:x.kind=5\/x.kind=6:=of_decide_eq_true (hz.symm.trans h4);rw[if_pos uT]at Bd zo;refine ar ?_;refine dO (cs':=bG (⟨x.kind,bO,0#128,0,x.n⟩:aS)) rfl rfl (by rw[mT];decide) rfl (TO (⟨x.kind,bO,0#128,0,0⟩:aS) x.n) (JZ ?_);refine Gb ?_ ?_<;>intro h5
   ·
    refine Gi ?_;refine Gs ?_;refine gu ?_;exact hY ((⟨x.kind,bO,0#128,0,x.n⟩:aS),Lib.itoa x.n.toInt,1) ⟨zo.symm,fun g=>absurd (show(1:Int)=0 from g) (by decide),fun _=>by rw[Bd];exact decide_eq_false oF,oF⟩ sb (fun w hw=>ah.mem hw)
   refine gu ?_;exact hY ((⟨x.kind,bO,0#128,0,x.n⟩:aS),Lib.itoa x.n.toInt,0) ⟨zo.symm,fun _=>⟨by rw[Bd];exact decide_eq_true oF,by rw[hr4];exact abM oF⟩,fun g=>absurd rfl g,oF⟩ sb (fun w hw=>ah.mem hw)
  have uT: ¬(x.kind=5\/x.kind=6):=of_decide_eq_false (hz.symm.trans h4);rw[if_neg uT]at Bd zo;refine sB (X:=Bool) (fun U=>[(70, .bool U),(1, .pointer (some ⟨b1,0,none⟩)),(4, .pointer (some ⟨b4,0,none⟩)),(5, .string ⟨[].toArray⟩)]) (fun U=>[aq b4 (bG (⟨x.kind,bO,0#128,0,0⟩:aS)) 73,aq b1 (bG x) 73]) (fun U=>U=decide (x.kind=3\/x.kind=7\/x.kind=8)) ?_ ?_
  ·
   refine ar ?_;refine Gb ?_ ?_<;>intro h6
   ·
    refine Gi ?_;exact hY (decide (x.kind=3)) (by simp[h6]) sb (fun w hw=>ah.mem hw)
   refine ar ?_;refine Gb ?_ ?_<;>intro h7
   ·
    refine Gi ?_;exact hY (decide (x.kind=7)) (by simp[h7]) sb (fun w hw=>ah.mem hw)
   refine Gi ?_;refine av ?_;refine Gi ?_;exact hY (decide (x.kind=8)) (by simp[h6,h7]) sb (fun w hw=>ah.mem hw)
  rintro q hq;refine Gb ?_ ?_<;>intro h8
  ·
   have Dv:x.kind=3\/x.kind=7\/x.kind=8:=of_decide_eq_true (hq.symm.trans h8);refine al ?_;refine ag (IS rfl rfl) (Gc ?_);refine Gb ?_ ?_<;>intro h9
   ·
    have eY:fR x=false:=by rw[fR,zo,decide_eq_false h9,avS]
    refine ar ?_;refine Gr fun w1 hw=>?_;exact⟨(by rw[(FY eY).1,(FY eY).2]),ah.mem hw⟩
   have rZ:fR x=true:=oy.2 ⟨by rw[Bd];exact decide_eq_true Dv,zo.trans h9⟩;refine di ?_;refine Gr fun w1 hw=>?_;exact⟨(by rw[(Aw rZ).1,(Aw rZ).2,fh,if_pos Dv]),ah.mem hw⟩
  have Dv: ¬(x.kind=3\/x.kind=7\/x.kind=8):=of_decide_eq_false (hq.symm.trans h8);refine Gi ?_;refine Gs ?_;refine gu ?_;exact hY ((⟨x.kind,bO,0#128,0,0⟩:aS),[],1) ⟨zo.symm,fun g=>absurd (show(1:Int)=0 from g) (by decide),fun _=>by rw[Bd];exact decide_eq_false Dv,Dv⟩ sb (fun w hw=>ah.mem hw)
 rintro⟨y,t,e⟩ ⟨gA,dD,hQ,jY⟩;dsimp only;simp only at gA dD hQ jY;refine ar ?_;refine bJ rfl rfl rfl (fun hg=>(Ry.yl (kC rfl))) (bJ rfl rfl rfl (fun hg=>(Ry.yl (kC rfl))) (bJ rfl rfl rfl (fun hg=>(Ry.yl (IS (aF hg rfl) (aF hg rfl)))) (av ?_)));refine Gb (fun nU=>?_) fun nU=>?_
 ·
  have eY:fR x=false:=by
   rw[fR];rcases nU with g|g
   ·
    rw[hQ g,avR]
   rw[←gA,decide_eq_false g,avS]
  refine ar ?_;refine Gr fun w1 hw=>?_;exact⟨(by rw[(FY eY).1,(FY eY).2]),ah.mem hw⟩
 have rZ:fR x=true:=oy.2 ⟨(dD nU.1).1,gA.symm.trans nU.2⟩;have TQ:=(dD nU.1).2;have wc:=Qu rZ;refine ar ?_;refine ag (jO rfl rfl (by simp only[af0,anc];omega)) (Gs ?_);refine ag (jO rfl rfl (by rw[TQ];simp only[adr,af0,anc];omega)) (al ?_);refine Gr fun w1 hw=>?_;exact⟨(by rw[(Aw rZ).1,(Aw rZ).2,fh,if_neg jY,TQ,atw];rfl),ah.mem hw⟩⟩
end Go.Proofs.YtkggjjnhnjjokaaGreatDoor
namespace Go.ax
open Go.RowKit
variable {w0:World}{L:List ai}
theorem Mem.putObj{w:World}{e e':ai}{l:Nat}{o:Obj}(h:Mem w0 (e::L) w)(vg: ∀k,e'.fp k->e.fp k)(hl:e.fp l)
  (IB:e'.sat fun k=>(w.putObj l o).heap[k]?):Mem w0 (e'::L) (w.putObj l o):=
 h.change (i:=0) rfl vg (fun k hk=>World.putObj_heap_other (fun w8=>hk (w8▸hl))) World.putObj_size ⟨rfl,rfl,rfl⟩ IB
section
variable {P:Program} {N:cC} {w0:World} {env:Env} {L:List ai} {Q:Exit->Act->World->Prop}
end
section
variable {P:Program} {n:Nat} {w0:World} {env:Env} {L:List ai} {Q:Exit->Act->World->Prop} {l:List Oper} {k:Nat} {rest:List Oper}
theorem drop_at{α:Type}{l rest:List α}{k:Nat}{o:α}(h:l.drop k=o::rest):l[k]? =some o/\l.drop (k+1)=rest:=by
 constructor
 ·
  have:=congrArg (·[0]?) h;simpa using this
 have:=congrArg (List.drop 1) h;simpa[avp,avT]using this
end
def omap(P:Program)(k:TypeId){α β:Type}(dv:α->Value)(eH:β->Value)(b:Nat)(f:α->Option β):ai:=
  ⟨fun i=>i=b,fun h=> ∃(es:Array MapEntry) (clock:Nat) (m:List (α×β)),h b=some (.map es clock)/\es.toList.map (fun e=>(e.key,e.val))=m.map (fun p=>(dv p.1,eH p.2))/\
    (∀p∈m,∃l,keyOf P k (dv p.1)=some l)/\(m.map Prod.fst).Nodup/\(∀x v,f x=some v↔(x,v)∈m),
   fun h h' e st=>by rw[e b rfl];exact st⟩
class Be(P:Program)(t:TypeId)(k e:outParam TypeId):Prop where
  fc:P.underlying t=some (.map k e)
class Dw(P:Program)(k:TypeId):Prop where
  K:Maps.Keyed P k
class Dx{α:Type}(dv:α->Value):Prop where
  inj: ∀{a b:α},dv a=dv b->a=b
class xR(P:Program)(L:List ai)(b:Nat){α β:outParam Type}(k:TypeId)(dv:outParam (α->Value))(eH:outParam (β->Value))(f:outParam (α->Option β))(i:outParam Nat):Prop where
  h:L[i]? =some (omap P k dv eH b f)
instance (priority:=high) xR.here {P:Program}{L:List ai}{b:Nat}{α β:Type}{k:TypeId}{dv:α->Value}{eH:β->Value}{f:α->Option β}:xR P (omap P k dv eH b f::L) b k dv eH f 0:=⟨rfl⟩
instance xR.there{P:Program}{L:List ai}{e:ai}{b:Nat}{α β:Type}{k:TypeId}{dv:α->Value}{eH:β->Value}{f:α->Option β}{i:Nat}[q:xR P L b k dv eH f i]:xR P (e::L) b k dv eH f (i+1):=⟨by simpa using q.h⟩
theorem TR{P:Program}{k:TypeId}{α β:Type}{dv:α→Value}{eH:β→Value}{f:α→Option β}[K:Dw P k][I:Dx dv]{es:Array MapEntry}{m:List (α×β)}(h1:es.toList.map (fun e=>(e.key,e.val))=m.map (fun p=>(dv p.1,eH p.2)))
    (h2: ∀p∈m,∃l,keyOf P k (dv p.1)=some l) (h3: ∀x v,f x=some v↔(x,v)∈m) {x:α} (hx: ∃l,keyOf P k (dv x)=some l) (w:World):
    ((Instr.findKey k (dv x) es.toList).run P w= .ok none w/\f x=none/\ ∀v,(x,v)∉m)\/ ∃(j:Nat) (v:β),(Instr.findKey k (dv x) es.toList).run P w= .ok (some (j,eH v)) w/\m[j]? =some (x,v)/\f x=some v/\(es[j]?).map (·.key)=some (dv x):=by
  have kO: ∀j:Nat,(es.toList[j]?).map (fun e=>(e.key,e.val))=(m[j]?).map (fun p=>(dv p.1,eH p.2)):=fun j=>by rw[←atx,←atx,h1]
  have iY: ∀e∈es.toList,∃l,keyOf P k e.key=some l:=fun e he=>by
    obtain⟨j,hj,rfl⟩:=awa he;have:=kO j;rw[atp hj]at this
    cases hm:m[j]?with
    |none=>rw[hm]at this;cases this
    |some p=>
     rw[hm]at this;simp only[at3,auY,awo]at this;rw[this.1];exact h2 p (alM hm)
  obtain⟨lx,v8⟩:=hx;rcases K.K.find w v8 es.toList iY with⟨hr,hn⟩|⟨j,e,hr,hj,hk⟩
  ·have eY: ∀v,(x,v)∉m:=fun v hv=>by
      obtain⟨j,hj,hje⟩:=awa hv;have:=kO j;rw[atp hj,hje]at this
      cases he:es.toList[j]?with
      |none=>rw[he]at this;cases this
      |some e=>
       rw[he]at this;simp only[at3,auY,awo]at this;exact hn e (alM he) this.1
   refine .inl ⟨hr,?_,eY⟩
   cases hf:f x with
   |none=>rfl
   |some v=>exact absurd ((h3 x v).1 hf) (eY v)
  ·have:=kO j
   rw[hj]at this
   cases hm:m[j]?with
   |none=>rw[hm]at this;cases this
   |some p=>
    rw[hm]at this;simp only[at3,auY,awo]at this;have hp:p.1=x:=I.inj (this.1.symm.trans hk);refine .inr ⟨j,p.2,by rw[hr,this.2],by rw[hm,←hp],(h3 x p.2).2 (by rw[←hp];exact alM hm),?_⟩;have jg:es[j]? =some e:=by simpa using hj
    rw[jg,at3,hk]
section
variable {P:Program} {N:cC} {w0:World} {env:Env} {L:List ai} {d:Option Tmp} {ty:TypeId} {ps:String} {af:Array Edge} {gd:Option (Nat×Bool)} {α β:Type} {dv:α->Value} {eH:β->Value} {f:α->Option β}
theorem run_getObj_map{w:World}{b:Nat}{es:Array MapEntry}{clock:Nat}(h:w.heap[b]? =some (.map es clock)):(getObj b).run P w= .ok (.map es clock) w:=by simp[getObj,Sem.run,h]
theorem run_setObj_map{w:World}{b:Nat}{es:Array MapEntry}{clock:Nat}(o:Obj)(h:w.heap[b]? =some (.map es clock)):(setObj b o).run P w= .ok () (w.putObj b o):=by simp[setObj,Sem.run,h,World.putObj]
theorem LR{t k e:TypeId}{m x:Operand}{b i:Nat}{z:β}{v:α}[ht:Be P t k e][K:Dw P k][I:Dx dv][hz:eP P e (eH z)](hm:ev env m=some (.map (some b)))(hx:ev env x=some (dv v))[q:xR P L b k dv eH f i](hv: ∃l,keyOf P k (dv v)=some l):
    Ry P N w0 env L ⟨d, .lookup t m x true,ty,ps,af,gd⟩ (.tuple #[eH ((f v).getD z), .bool (f v).isSome]):=fun a w ha hw=>by
  obtain⟨es,clock,ml,h0,h1,h2,_,h3⟩:=hw.get q.h;obtain⟨l,hl⟩:=hv;have hc:=K.K.check w es.isEmpty hl;simp only[execOp,ha.ev hm,ha.ev hx,Instr.lookup,Sem.run_bind,run_underlying ht.fc,Result.andThen,run_getObj_map h0,Sem.run_pure,hc];rcases TR (P:=P) (k:=k) h1 h2 h3 ⟨l,hl⟩ w with⟨hr,hf,_⟩|⟨j,u,hr,_,hf,_⟩
  ·simp only[hr,hf,Option.getD_none,EO w hz,Sem.run_bind,Result.andThen,Sem.run_pure];rfl
  ·simp only[hr,hf,avb,Sem.run_pure];rfl
end
section
variable {P:Program} {N:cC} {w0:World} {env:Env} {L:List ai} {l:List Oper} {Q:Exit->Act->World->Prop} {rest:List Oper} {d:Option Tmp} {ty:TypeId} {ps:String} {af:Array Edge} {α β:Type} {dv:α->Value} {eH:β->Value} {f:α->Option β}
theorem Mem.TS{w:World}(P:Program)(k:TypeId)(dv:α->Value)(eH:β->Value)(h:Mem w0 L w):Mem w0 (omap P k dv eH w.heap.size (fun _=>none)::L) (w.alloc (.map #[] 0)):=by
  refine h.call (E:=[omap P k dv eH w.heap.size (fun _=>none)]) ⟨(Below.refl _ _).alloc (att _) _,fun e he=>?_,fun e he j hj=>?_,by simp⟩
  ·obtain rfl:e=omap P k dv eH w.heap.size (fun _=>none):=by simpa using he
   exact⟨#[],0,[],Below.BQ w _,rfl,by simp,by simp,by simp⟩
  ·obtain rfl:e=omap P k dv eH w.heap.size (fun _=>none):=by simpa using he
   have:j=w.heap.size:=hj;subst this;simp
theorem afg{t k e:TypeId}(dv:α→Value)(eH:β→Value){r:Operand}{kk:IntKind}{n:Int}[ht:Be P t k e](hr:ev env r=some (.int kk n))(hk: ∀b,Sq P N w0 l Q rest (cy env d (.map (some b))) (omap P k dv eH b (fun _=>none)::L))(hd:dx N d=true:=by rfl):
    Sq P N w0 l Q (⟨d, .makeMap t (some r),ty,ps,af,none⟩::rest) env L:=
  nD rfl hd fun a w ha hw=>⟨_,_,_,by
    simp only[execOp,at3,ha.ev hr,Instr.makeMap,Sem.run_bind,run_underlying ht.fc,Result.andThen,Sem.run_pure,asInt,asIntOf,newObj,Sem.run];rfl,hw.TS P k dv eH,hk _⟩
theorem TT{t k e:TypeId}(dv:α→Value)(eH:β→Value)[ht:Be P t k e](hk: ∀b,Sq P N w0 l Q rest (cy env d (.map (some b))) (omap P k dv eH b (fun _=>none)::L))(hd:dx N d=true:=by rfl):
    Sq P N w0 l Q (⟨d, .makeMap t none,ty,ps,af,none⟩::rest) env L:=
  nD rfl hd fun a w ha hw=>⟨_,_,_,by
    simp only[execOp,Option.map_none,Instr.makeMap,Sem.run_bind,Result.andThen,Sem.run_pure,newObj,Sem.run];rfl,hw.TS P k dv eH,hk _⟩
theorem afh{t k e:TypeId}{m x y:Operand}{b i:Nat}{v:α}{u:β}[DecidableEq α][ht:Be P t k e][K:Dw P k][I:Dx dv](hm:ev env m=some (.map (some b)))(hx:ev env x=some (dv v))(hy:ev env y=some (eH u))[q:xR P L b k dv eH f i](hv: ∃l,keyOf P k (dv v)=some l)
    {L':List ai} [hu:fO L i (omap P k dv eH b (fun z=>if z=v then some u else f z)) L'] {a:Act} {w:World} (ha:dw N env a) (hw:Mem w0 L w):
    ∃w',(execOp a.eval ⟨none, .mapUpdate t m x y,ty,ps,af,none⟩).run P w= .ok .skip w'/\Mem w0 L' w':=by
  obtain⟨es,clock,ml,h0,h1,h2,cI,h3⟩:=hw.get q.h;obtain⟨lk,hl⟩:=hv;have hc:=K.K.check w false hl;have bB:=K.K.stays w hl;have step: ∀o:Obj,(omap P k dv eH b (fun z=>if z=v then some u else f z)).sat (fun j=>(w.putObj b o).heap[j]?)->Mem w0 L' (w.putObj b o):=fun o ho=>by
    rw[←hu.h];exact hw.change q.h (fun j hj=>hj) (fun j hj=>World.putObj_heap_other (fun e=>hj e)) World.putObj_size ⟨rfl,rfl,rfl⟩ ho
  have bn:b<w.heap.size:=(au5.1 h0).1;rcases TR (P:=P) (k:=k) h1 h2 h3 ⟨lk,hl⟩ w with⟨hr,hf,eY⟩|⟨j,u0,hr,hj,hf,afi⟩
  ·refine⟨w.putObj b (.map (es.push {key:=dv v,val:=eH u,born:=clock}) (clock+1)),?_,step _ ⟨_,_,ml++[(v,u)],World.putObj_heap_same bn,?_,?_,?_,?_⟩⟩
   ·simp only[execOp,ha.ev hm,ha.ev hx,ha.ev hy,Instr.mapUpdate,Sem.run_bind,run_underlying ht.fc,Result.andThen,run_getObj_map h0,hc,hr,run_setObj_map _ h0,Sem.run_pure]
   ·simp[h1]
   ·intro p hp
    rcases atu.1 hp with hp|hp
    ·exact h2 p hp
    ·obtain rfl:p=(v,u):=by simpa using hp
     exact⟨lk,hl⟩
   ·rw[atS,avd]
    refine⟨cI,by simp,fun x1 pM y1 Hj e1=>?_⟩;obtain rfl:y1=v:=by simpa using Hj
    subst e1;obtain⟨p,hp,rfl⟩:=auq.1 pM;exact eY p.2 hp
   ·intro x' v'
    show(if x'=v then some u else f x')=some v'↔_
    by_cases e:x'=v
    ·subst e;rw[if_pos rfl]
     constructor
     ·intro h;cases h;simp
     ·intro h
      rcases atu.1 h with h|h
      ·exact absurd h (eY v')
      ·simp at h;rw[h]
    ·rw[if_neg e,h3 x' v'];simp[e]
  ·have j9:j<ml.length:=(zz.1 hj).1
   refine⟨w.putObj b (.map (es.modify j fun e=>{e with key:=dv v,val:=eH u}) clock),?_,step _ ⟨_,_,ml.set j (v,u),World.putObj_heap_same bn,?_,?_,?_,?_⟩⟩
   ·simp only[execOp,ha.ev hm,ha.ev hx,ha.ev hy,Instr.mapUpdate,Sem.run_bind,run_underlying ht.fc,Result.andThen,run_getObj_map h0,hc,hr,afi,avb,bB,run_setObj_map _ h0,Sem.run_pure]
   ·refine auz fun n=>?_
    have:=congrArg (·[n]?) h1;simp only[atx]at this⊢;rw[auo]
    by_cases e:j=n
    ·subst e
     rw[if_pos rfl,if_pos j9];rw[hj]at this
     cases he:es.toList[j]?with
     |none=>rw[he]at this;cases this
     |some e0=>
      have sF:es[j]? =some e0:=by simpa using he
      simp[Array.getElem?_modify,sF]
    ·rw[if_neg e,←this]
     simp[Array.getElem?_modify,e]
   ·intro p hp
    rcases at0 hp with hp|rfl
    ·exact h2 p hp
    ·exact⟨lk,hl⟩
   ·rw[avF]
    have:(ml.map Prod.fst)[j]? =some v:=by rw[atx,hj];rfl
    rw[show(ml.map Prod.fst).set j (v,u).1=ml.map Prod.fst from by
        refine auz fun n=>?_;rw[auo]
        by_cases e:j=n
        ·subst e;rw[if_pos rfl,if_pos (by simpa using j9),this]
        ·rw[if_neg e]]
    exact cI
   ·intro x' v'
    have afj: ∀n p,ml[n]? =some p→p.1=v→n=j:=fun n p hn hp=>by
        have a1:(ml.map Prod.fst)[n]? =some v:=by rw[atx,hn,at3,hp]
        have a2:(ml.map Prod.fst)[j]? =some v:=by rw[atx,hj];rfl
        exact(List.getElem?_inj (by simpa using(zz.1 hn).1) cI).1 (a1.trans a2.symm)
    show(if x'=v then some u else f x')=some v'↔_
    by_cases e:x'=v
    ·subst e;rw[if_pos rfl]
     constructor
     ·intro h;cases h
      exact alM (i:=j) (by rw[auo,if_pos rfl,if_pos j9])
     ·intro h
      obtain⟨n,hn⟩:=avg.1 h;rw[auo]at hn
      by_cases en:j=n
      ·rw[if_pos en,if_pos j9]at hn;simp only[auY,awo,true_and]at hn;rw[hn]
      ·rw[if_neg en]at hn;exact absurd (afj n _ hn rfl).symm en
    ·rw[if_neg e,h3 x' v']
     constructor
     ·intro h
      obtain⟨n,hn⟩:=avg.1 h;refine alM (i:=n) ?_;rw[auo,if_neg,hn];rintro rfl;rw[hj]at hn;simp only[auY,awo]at hn;exact e hn.1.symm
     ·intro h
      rcases at0 h with h|h
      ·exact h
      ·simp only[awo]at h;exact absurd h.1 e
theorem LS{t k e:TypeId}{m x y:Operand}{b i:Nat}{v:α}{u:β}[DecidableEq α][ht:Be P t k e][K:Dw P k][I:Dx dv](hm:ev env m=some (.map (some b)))(hx:ev env x=some (dv v))(hy:ev env y=some (eH u))[q:xR P L b k dv eH f i](hv: ∃l,keyOf P k (dv v)=some l)
    {L':List ai} [hu:fO L i (omap P k dv eH b (fun z=>if z=v then some u else f z)) L'] (hk:Sq P N w0 l Q rest env L'):
    Sq P N w0 l Q (⟨none, .mapUpdate t m x y,ty,ps,af,none⟩::rest) env L:=
  ES rfl rfl fun a w ha hw=>by
    obtain⟨w',h1,h2⟩:=afh (t:=t) (k:=k) (e:=e) (ty:=ty) (ps:=ps) (af:=af) hm hx hy hv (L':=L') ha hw;exact⟨w',L',h1,h2,hk⟩
end
end Go.ax
namespace Go.Proofs.YtkggjjnhnjjokaaGreatDoor
open Go.ax Go.Kb Go.RowKit
instance:eP Tryz.prog 97 (.agg (dA AB)):=⟨by kernel_rfl⟩
instance:eP Tryz.prog 180 (.agg (cl q8)):=⟨by kernel_rfl⟩
instance:eP Tryz.prog 59 (.agg (aV gY)):=⟨by kernel_rfl⟩
instance:eP Tryz.prog 5 (.int .u8 0):=⟨by kernel_rfl⟩
instance:eP Tryz.prog 53 (.slice none 0 0):=⟨by kernel_rfl⟩
variable {w0:World}{L:List ai}
instance ap0{b:Int}{n:Int}{s:Int}:bU Tryz.prog 93 w0 L [.int .i64 b, .int .i64 n, .int .i64 s] (.bool (vM b n s)) (True):=⟨fun aA w hw=>by
 refine um Tryz.func93 rfl Tryz.ntmps93 rfl ?_;refine aap ?_;refine Gr fun w1 hw=>?_;exact⟨congrArg (fun b=>Ending.returned (Value.bool b)) (rfl),ah.mem hw⟩⟩
instance ap1{c:Cp}[hc:aX w0 L c]:bU Tryz.prog 106 w0 L [.agg (aV c)] (.bool (aW (cv c))) (True):=⟨fun aA w hw=>by
 have hc:=hc.h w hw;have lJ:cQ w c:=⟨hc⟩;have dM:=ie c.blocks.xs;have bN:aW (cv c)=true↔vM c.blocks.xs.length c.pages c.size=true/\0<=c.ops/\c.ops<=cS/\c.aD.xs.length<=64/\ ∀b∈jk c.blocks.xs,ra c.pages c.size b=true:=by rw[eM];simp only[cv,dM]
 have qw:cS=1099511627776:=rfl;refine ct Tryz.func106 rfl Tryz.ntmps106 rfl ?_;refine Gc ?_;refine cm rfl fun b1=>aaq ?_;refine Gb ?_ ?_<;>intro h0
 ·
  have hz:aW (cv c)=false:=by
   cases hk:aW (cv c)with
   |false=>rfl
   |true=>
    have g:=bN.1 hk;rw[g.1]at h0;simp only[au9,false_or]at h0;omega
  refine al ?_;refine Gr fun w1 hw=>?_;exact Ge (hz.symm) hw
 have g0:vM c.blocks.xs.length c.pages c.size=true/\0<=c.ops/\c.ops<=cS/\c.aD.xs.length<=64:=by
  cases hk:vM c.blocks.xs.length c.pages c.size with
  |false=>rw[hk]at h0;simp at h0
  |true=>rw[hk]at h0;simp only[au9,not_false_eq_true,true_and]at h0;exact⟨rfl,by omega,by omega,by omega⟩
 have gs:=mF.1 g0.1;refine aZ ?_;refine ck (X:=Nat) (fun U=>[(35, .int .i64 (U:Nat)),(1, .pointer (some ⟨b1,0,none⟩)),(33,c.blocks.sv.val),(34, .int .i64 (c.blocks.xs.length:Nat))]) (fun U=>[aq b1 (aV c) 59]) (fun U=>U<=c.blocks.xs.length/\ ∀j b,j<U->(jk c.blocks.xs)[j]? =Option.some b->ra c.pages c.size b=true) (fun U=>c.blocks.xs.length -U) 0 ⟨Nat.zero_le _,fun j b hj=>by first|omega|(simp only[];omega)⟩ sb (fun w hw=>ah.mem hw) ?_;rintro i ⟨bl,aL⟩;refine al ?_;refine Gb ?_ ?_<;>intro h1
 ·
  refine mB ?_;obtain⟨x,hx⟩:=get_some (xs:=c.blocks.xs) (i:=i) oM;refine ag (bh rfl rfl i rfl oM) (ag (iJ rfl i hx rfl) ?_);have ap2:Mb x c.blocks:=⟨List.mem_of_getElem? hx⟩;refine bt fun b4=>aar ?_;refine Gb ?_ ?_<;>intro h2
  ·
   have hz:aW (cv c)=false:=by
    cases hk:aW (cv c)with
    |false=>rfl
    |true=>
     have g:=fu.1 ((bN.1 hk).2.2.2.2 (bv x) (alM (nP hx)));simp only[bv,pC]at g;omega
   refine al ?_;refine Gr fun w1 hw=>?_;exact Ge (hz.symm) hw
  refine aZ ?_;refine ck (X:=Nat) (fun U=>[(70, .int .i64 (U:Nat)),(1, .pointer (some ⟨b1,0,none⟩)),(33,c.blocks.sv.val),(34, .int .i64 (c.blocks.xs.length:Nat)),(35, .int .i64 (i:Nat)),(68,x.pages.sv.val),(69, .int .i64 (x.pages.xs.length:Nat))]) (fun U=>[aq b4 (cl x) 180,aq b1 (aV c) 59]) (fun U=>U<=x.pages.xs.length/\ ∀k y,k<U->(bv x).pages[k]? =Option.some y->(y.length:Int)=c.size) (fun U=>x.pages.xs.length -U) 0 ⟨Nat.zero_le _,fun k y hk=>by first|omega|(simp only[];omega)⟩ sb (fun w hw=>ah.mem hw) ?_;rintro j ⟨gA,dD⟩;refine al ?_;refine Gb ?_ ?_<;>intro h3
  ·
   refine mB ?_;obtain⟨y,hy⟩:=get_some (xs:=x.pages.xs) (i:=j) oM;refine ag (bh rfl rfl j rfl oM) (ag (bT (j:=0) rfl j hy rfl (by decide)) ?_);have ap3:Mb y _:=⟨List.mem_of_getElem? hy⟩;refine fI ?_;refine Gb ?_ ?_<;>intro h4
   ·
    have hz:aW (cv c)=false:=by
     cases hk:aW (cv c)with
     |false=>rfl
     |true=>
      have g:=(fu.1 ((bN.1 hk).2.2.2.2 (bv x) (alM (nP hx)))).2.2.2.2.2 y.xs (alM (q9 hy));omega
    refine al ?_;refine Gr fun w1 hw=>?_;exact Ge (hz.symm) hw
   refine al ?_;refine Gi ?_;exact bw (x:=(j)) (j+1) ⟨oF,fun k z hk hz=>if e:k=j then(by subst e;rw[show(bv x).pages=aP x.pages.xs from rfl,q9 hy]at hz;cases hz;omega)else dD k z oF hz⟩ oF sb (fun w hw=>ah.mem hw)
  have xA:ra c.pages c.size (bv x)=true:=fu.2 ⟨by simp only[bv,pC];omega,by simp only[bv];omega,by simp only[bv];omega,by simp only[bv];omega,by simp only[bv];omega,fun y hy=>by
   obtain⟨k,hk⟩:=atH hy;exact dD k y (by have h:=(zz.1 hk).1;simp only[bv,pC]at h;omega) hk⟩
  refine al ?_;refine Gi ?_;exact bw (x:=(i)) (i+1) ⟨oF,fun j b hj hb=>if e:j=i then(by subst e;rw[nP hx]at hb;cases hb;exact xA)else aL j b oF hb⟩ oF sb (fun w hw=>ah.mem hw)
 obtain rfl:i=c.blocks.xs.length:=by omega
 have hz:aW (cv c)=true:=bN.2 ⟨g0.1,g0.2.1,g0.2.2.1,g0.2.2.2,fun b hb=>by
  obtain⟨j,hj⟩:=atH hb;exact aL j b (by have:=(zz.1 hj).1;omega) hj⟩
 refine al ?_;refine Gr fun w1 hw=>?_;exact⟨congrArg (fun b=>Ending.returned (Value.bool b)) (hz.symm),ah.mem hw⟩⟩
theorem afk{xs:List UInt8}{k i:Nat}(h:k+i<xs.length):(xs.take k++(List.replicate i 255++xs.drop (k+i))).set (k+i) 255=xs.take k++(List.replicate (i+1) 255++xs.drop (k+(i+1))):=by
 rw[avh _ _ (by rw[atq];omega),atq,avX oM,aua,avh _ _ (by simp),aue,avm,avr h,auN,List.replicate_succ',atw,List.singleton_append,auW]
theorem afl(w0 w:World)(L:List ai)(rm:Sv)(k:Nat)(n:Nat)(cap:Nat)(xs:List UInt8)(hw:Mem w0 (own aO 1 rm xs::L) w)(aA:k+n<=xs.length/\n<=1000000):Calls Tryz.prog 94 #[.slice (some ⟨rm.b,rm.o+k,none⟩) n cap] w fun e w'=> ∃U:Unit,e= .returned (.tuple #[])/\(True)/\Mem w0 (own aO 1 rm (xs.take k++(List.replicate n 255++xs.drop (k+n)))::L) w':=by
 obtain⟨mf,jF⟩:=aA;refine gV (args:=[_]) Tryz.func94 rfl Tryz.ntmps94 rfl hw ?_;change Cw _ _ _ _ _ [(0, .slice (some ⟨rm.b,rm.o+k,none⟩) n cap)] (own aO 1 rm xs::L);refine av ?_;refine ag (yr rfl) (av ?_);refine ck (X:=Nat×List UInt8) (fun U=>[(5, .int .i64 (U.1:Nat)),(0, .slice (some ⟨rm.b,rm.o+k,none⟩) n cap),(4, .int .i64 (n:Nat))]) (fun U=>own aO 1 rm U.2::L) (fun U=>U.1<=n/\U.2=xs.take k++(List.replicate U.1 255++xs.drop (k+U.1))) (fun U=>n -U.1) (0,xs) ⟨Nat.zero_le _,by simp⟩ sb (fun w hw=>ah.mem hw) ?_;rintro⟨i,zs⟩ ⟨bl,aL⟩;dsimp only;simp only at bl aL;have rn:zs.length=xs.length:=by rw[aL];simp only[List.length_append,List.length_take,List.length_replicate,List.length_drop];omega
 refine al ?_;refine Gb ?_ ?_<;>intro h0
 ·
  refine aZ ?_;refine ag (Oa (b:=rm.b) (o:=rm.o+k) (len:=n) (cap:=cap) rfl rfl oM oM) ?_;obtain⟨z,hz⟩:=get_some (xs:=zs) (i:=k+i) oM;refine mv (s:=rm) (n:=1) (k:=k+i) (j:=0) (a:=z) (a':=(255:UInt8)) (xs:=zs) (enc:=aO) (c:=1) (v:= .int .u8 255) oK rfl rfl oM hz (by simp[Value.cells,Value.oneCell']) rfl oM (by rfl) (al ?_);refine Gi ?_;exact bw (x:=(i,zs)) (i+1,zs.set (k+i) 255) ⟨oF,by rw[aL];exact afk oF⟩ (by simp only;omega) sb (fun w hw=>ah.mem hw)
 obtain rfl:i=n:=by omega
 refine Gc ?_;refine ez (.inr rfl) (jW rfl) (fun w1 hw=>?_);exact⟨(),rfl,trivial,by rw[←aL];exact ah.mem hw⟩
instance afm{w0:World}{L L2:List ai}{i:Nat}{rm:Sv}{k:Nat}{n:Nat}{cap:Nat}{xs:List UInt8}[q:fX L rm aO 1 xs i][d1:cn L i L2]:bV Tryz.prog 94 w0 L [.slice (some ⟨rm.b,rm.o+k,none⟩) n cap] (Unit) (fun U=> .tuple #[]) (fun U=>own aO 1 rm (xs.take k++(List.replicate n 255++xs.drop (k+n)))::L2) (fun U=>True) (k+n<=xs.length/\n<=1000000):=⟨fun hp w hw=>afl w0 w L2 rm k n cap xs (FP q.h d1.h hw) hp⟩
instance ap4{s:Sv}{ss:List Bk}[hs:dy w0 L cl 4 s ss]:bV Tryz.prog 162 w0 L [s.val] (Sv) (fun U=>U.val) (fun U=>own cl 4 U ss::L) (fun U=>True) (ss.length<=1000000):=⟨fun aA w hw=>Gk (fun U=>[own cl 4 U ss]) hw (by
 have hs:=hs.h w hw;have ze:Gv w s cl 4 ss:=⟨hs⟩;refine ct Tryz.func162 rfl Tryz.ntmps162 rfl ?_;refine ar ?_;refine ag (vw Tryz.underlying56 rfl) (Gc ?_);refine Gb ?_ ?_<;>intro h0
 ·
  have e0:ss=[]:=atJ.1 (by have:=hs.ok.nil h0;have:=hs.len;omega);refine al ?_;refine Gr fun w1 hw=>?_;exact⟨Sv.none,rfl,trivial,by rw[e0];exact(ah.mem hw:Mem w [] _).dK cl 4⟩
 refine Gc ?_;refine wW cl fun b5=>Gs ?_;refine nf (s:=⟨false,b5,0,0,0,none⟩) (enc:=cl) (ys:=ss) rfl rfl (by decide) (fun w hw=>jy (s:=s) Tryz.underlying56 (by decide) ((inferInstance:dy _ _ cl 4 s ss).h w hw)) (by simp only[anc];omega) (by simp only[anc];omega) fun s7 zf xM=>?_;refine av ?_;refine Gr fun w1 hw=>?_;exact⟨s7,rfl,trivial,by rw[aug]at hw;exact ah.mem hw⟩)⟩
instance ap5{s:Sv}{ss:List Ft}[hs:dy w0 L dA 4 s ss]:bV Tryz.prog 107 w0 L [s.val] (Sv) (fun U=>U.val) (fun U=>own dA 4 U ss::L) (fun U=>True) (ss.length<=1000000):=⟨fun aA w hw=>Gk (fun U=>[own dA 4 U ss]) hw (by
 have hs:=hs.h w hw;have ze:Gv w s dA 4 ss:=⟨hs⟩;refine ct Tryz.func107 rfl Tryz.ntmps107 rfl ?_;refine ar ?_;refine ag (vw Tryz.underlying57 rfl) (Gc ?_);refine Gb ?_ ?_<;>intro h0
 ·
  have e0:ss=[]:=atJ.1 (by have:=hs.ok.nil h0;have:=hs.len;omega);refine al ?_;refine Gr fun w1 hw=>?_;exact⟨Sv.none,rfl,trivial,by rw[e0];exact(ah.mem hw:Mem w [] _).dK dA 4⟩
 refine Gc ?_;refine wW dA fun b5=>Gs ?_;refine nf (s:=⟨false,b5,0,0,0,none⟩) (enc:=dA) (ys:=ss) rfl rfl (by decide) (fun w hw=>jy (s:=s) Tryz.underlying57 (by decide) ((inferInstance:dy _ _ dA 4 s ss).h w hw)) (by simp only[anc];omega) (by simp only[anc];omega) fun s7 zf xM=>?_;refine av ?_;refine Gr fun w1 hw=>?_;exact⟨s7,rfl,trivial,by rw[aug]at hw;exact ah.mem hw⟩)⟩
instance ap6{ps:Sl (Sl UInt8)}[Dy:aX w0 L ps]:bV Tryz.prog 179 w0 L [ps.sv.val] (Sl (Sl UInt8)) (fun U=>U.sv.val) (fun U=>fC U::L) (fun U=>aP U.xs=aP ps.xs) (Q3 (aP ps.xs)):=⟨fun aA w hw=>Gk (fun U=>[fC U]) hw (by
 have Dy:=Dy.h w hw;have ap7:cQ w ps:=⟨Dy⟩;obtain⟨mf,jF⟩:=aA;have ca:=pC ps.xs;rw[ca]at mf;refine ct Tryz.func179 rfl Tryz.ntmps179 rfl ?_;refine ar ?_;refine ag (vw Tryz.underlying178 rfl) (Gc ?_);refine Gb ?_ ?_<;>intro h0
 ·
  have e0:ps.xs=[]:=atJ.1 (by have:=Dy.1.ok.nil h0;have:=Dy.1.len;omega);refine al ?_;refine Gr fun w1 hw=>?_;exact⟨⟨Sv.none,[]⟩,rfl,by rw[e0],acr (Mem.dK (cq (τ:=UInt8)) 1 (ah.mem hw:Mem w [] _))⟩
 refine di ?_;refine ck (X:=Nat×Nat) (fun U=>[(15, .int .i64 (U.1:Nat)),(3, .int .i64 (U.2:Nat)),(0,ps.sv.val),(13,ps.sv.val),(14, .int .i64 (ps.xs.length:Nat))]) (fun U=>[]) (fun U=>U.1<=ps.xs.length/\U.2=((aP ps.xs).take U.1).flatten.length) (fun U=>ps.xs.length -U.1) (0,0) ⟨Nat.zero_le _,by simp⟩ sb (fun w hw=>ah.mem hw) ?_;rintro⟨i,mm⟩ ⟨bl,aL⟩;dsimp only;simp only at bl aL;refine al ?_;refine Gb ?_ ?_<;>intro h1
 ·
  obtain⟨y,hy⟩:=get_some (xs:=ps.xs) (i:=i) oM;have Dz:Mb y ps:=⟨List.mem_of_getElem? hy⟩;have Bf:=CW (q9 hy);have je:=CX (aP ps.xs) (i+1);refine Gc ?_;refine ag (bh rfl rfl i rfl oM) (ag (bT (j:=0) rfl i hy rfl (by decide)) ?_);have ap8:Mb y _:=⟨List.mem_of_getElem? hy⟩;refine qW ?_;refine Gi ?_;exact bw (x:=(i,mm)) (i+1,mm+y.xs.length) ⟨oF,by rw[aL,Bf]⟩ (by simp only;omega) sb (fun w hw=>ah.mem hw)
 obtain rfl:i=ps.xs.length:=by omega
 rw[List.take_of_length_le oM]at aL;have hN:mm=(aP ps.xs).flatten.length:=aL;refine av ?_;refine vu (enc:=aO) (n:=0) (cap:=mm) 0 rfl rfl rfl rfl rfl oM oM oM fun xS=>ar ?_;refine vu (enc:=cq (τ:=UInt8)) (n:=ps.xs.length) (cap:=ps.xs.length) (⟨Sv.none,[]⟩:Sl UInt8) rfl rfl rfl rfl rfl oM oM oM fun zn=>aZ ?_;refine ck (X:=Nat×Nat×List UInt8×List (Sl UInt8)) (fun U=>[(31, .int .i64 (U.1:Nat)),(6,(⟨false,xS,0,U.2.1,mm,none⟩:Sv).val),(7,(⟨false,zn,0,ps.xs.length,ps.xs.length,none⟩:Sv).val),(29,ps.sv.val),(30, .int .i64 (ps.xs.length:Nat))]) (fun U=>[own aO 1 ⟨false,xS,0,U.2.1,mm,none⟩ U.2.2.1,own (cq (τ:=UInt8)) 1 ⟨false,zn,0,ps.xs.length,ps.xs.length,none⟩ U.2.2.2]) (fun U=>U.1<=ps.xs.length/\U.2.1=U.2.2.1.length/\U.2.2.1=((aP ps.xs).take U.1).flatten/\U.2.2.2=dG ⟨false,xS,0,mm,mm,none⟩ 0 ((aP ps.xs).take U.1)++List.replicate (ps.xs.length -U.1) (⟨Sv.none,[]⟩:Sl UInt8)) (fun U=>ps.xs.length -U.1) (0,0,List.replicate 0 0,List.replicate ps.xs.length (⟨Sv.none,[]⟩:Sl UInt8)) ⟨Nat.zero_le _,rfl,by simp,by simp[dG]⟩ sb (fun w hw=>ah.mem hw) ?_;rintro⟨i,m,r,zs⟩ ⟨bl,aL,bC,dq⟩;dsimp only;simp only at bl aL bC dq;refine al ?_;refine Gb ?_ ?_<;>intro h2
 ·
  obtain⟨y,hy⟩:=get_some (xs:=ps.xs) (i:=i) oM;have Dz:Mb y ps:=⟨List.mem_of_getElem? hy⟩;have Bf:=CW (q9 hy);have je:=CX (aP ps.xs) (i+1);have wc:r.length+y.xs.length<=mm:=by rw[hN,bC,←Bf];exact je
  have qC:=get_some (xs:=zs) (i:=i) (by rw[dq,adr,Kt,atq,aue];omega);obtain⟨z,hz⟩:=qC;have rn:i<zs.length:=(zz.1 hz).1;refine av ?_;refine ag (bh rfl rfl i rfl oM) (ag (bT (j:=0) rfl i hy rfl (by decide)) ?_);have ap9:Mb y _:=⟨List.mem_of_getElem? hy⟩;refine ja ?_;refine acp (s:=⟨false,xS,0,m,mm,none⟩) (enc:=aO) (xs:=r) (ys:=y.xs) rfl rfl (fun w hw=>jy (s:=y.sv) Tryz.underlying53 (by decide) ((inferInstance:dy _ _ aO 1 y.sv y.xs).h w hw)) rfl (by simp only;omega) (by simp only;omega) ?_;refine qW ?_;refine ag (Ry.to (v':=(win (⟨false,xS,0,mm,mm,none⟩:Sv) r.length (r.length+y.xs.length)).val) (QO (l:=r.length) (h:=(r++y.xs).length) (m:=(r++y.xs).length) rfl rfl rfl rfl rfl rfl rfl (by simp) (by simp) (by simp)) (by simp[win,Sv.sub,Sv.top])) (ag (bh rfl rfl i rfl oM) (Fe (s:=⟨false,zn,0,ps.xs.length,ps.xs.length,none⟩) (xs:=zs) (k:=i) (a:=z) (⟨(win (⟨false,xS,0,mm,mm,none⟩:Sv) r.length (r.length+y.xs.length)),y.xs⟩:Sl UInt8) oK rfl rfl oM hz (al ?_)));refine Gi ?_;exact bw (x:=(i,m,r,zs)) (i+1,m+y.xs.length,r++y.xs,zs.set i ⟨(win (⟨false,xS,0,mm,mm,none⟩:Sv) r.length (r.length+y.xs.length)),y.xs⟩) ⟨oF,by rw[adr,aL],by rw[bC,atr,q9 hy];simp,by rw[dq];exact acu (by rw[ca]) bC (q9 hy)⟩ (by simp only;omega) sb (fun w hw=>ah.mem hw)
 obtain rfl:i=ps.xs.length:=by omega
 rw[atC oM]at bC dq;rw[avm,List.replicate_zero,auh]at dq;refine ar ?_;refine Gr fun w1 hw=>?_;exact⟨⟨⟨false,zn,0,ps.xs.length,ps.xs.length,none⟩,zs⟩,rfl,by rw[dq,xn],Q2 (rm:=⟨false,xS,0,mm,mm,none⟩) dq rfl (by rw[show m=mm by rw[aL,bC,hN],bC]at hw;exact ah.mem hw)⟩)⟩
instance aqa{c:Cp}[hc:aX w0 L c]:bV Tryz.prog 105 w0 L [.agg (aV c)] (Cp) (fun U=> .agg (aV U)) (fun U=>own cl 4 U.blocks.sv U.blocks.xs::ai.all (U.blocks.xs.map fun b:Bk=>fC b.pages)::own dA 4 U.aD.sv U.aD.xs::L) (fun U=>cv U=cv c) (gw c):=⟨fun aA w hw=>Gk (fun U:Cp=>[own cl 4 U.blocks.sv U.blocks.xs,ai.all (U.blocks.xs.map fun b:Bk=>fC b.pages),own dA 4 U.aD.sv U.aD.xs]) hw (by
 have hc:=hc.h w hw;have lJ:cQ w c:=⟨hc⟩;obtain⟨mf,jF,qD⟩:=aA;refine ct Tryz.func105 rfl Tryz.ntmps105 rfl ?_;refine Gc ?_;refine cm rfl fun b1=>bt fun b2=>al ?_;refine bb rfl oM fun x6 LL=>Gs ?_;refine dO (cs':=aV (⟨c.pages,c.size,⟨x6,c.blocks.xs⟩,c.ops,c.off,c.aD⟩:Cp)) rfl rfl (by show 2<6;decide) (by first|rfl|exact Sv.one _) rfl (aZ ?_);refine ck (X:=Nat×List Bk) (fun U=>[(11, .int .i64 (U.1:Nat)),(1, .pointer (some ⟨b1,0,none⟩)),(2, .pointer (some ⟨b2,0,none⟩)),(10, .int .i64 (c.blocks.xs.length:Nat))]) (fun U=>[own cl 4 x6 U.2,ai.all ((U.2.take U.1).map fun b:Bk=>fC b.pages),aq b2 (aV gY) 59,aq b1 (aV (⟨c.pages,c.size,⟨x6,U.2⟩,c.ops,c.off,c.aD⟩:Cp)) 59]) (fun U=>U.1<=c.blocks.xs.length/\U.2.length=c.blocks.xs.length/\jk U.2=jk c.blocks.xs/\ ∀j,U.1<=j->U.2[j]? =c.blocks.xs[j]?) (fun U=>c.blocks.xs.length -U.1) (0,c.blocks.xs) ⟨Nat.zero_le _,rfl,rfl,fun _ _=>rfl⟩ sb (fun w hw=>by
  simp only[atW,auv];exact ah.mem (Mem.yT hw)) ?_
 rintro⟨i,zs⟩ ⟨bl,aL,bC,dq⟩;dsimp only;simp only at bl aL bC dq;refine al ?_;refine Gb ?_ ?_<;>intro h0
 ·
  obtain⟨z,hz⟩:=get_some (xs:=zs) (i:=i) oM;have xT:Mb z c.blocks:=⟨List.mem_of_getElem? (by rw[←dq i (att _)];exact hz)⟩;refine al ?_;refine gu ?_;refine F5 (s:=x6) (enc:=cl) (c:=4) (xs:=zs) inferInstance oM fun hn6 hs6 ho6 hl6=>?_;refine ji [9,12,1003,1004,1006,1007,1008,1010,1011] [[],[],[],[],[3],[],[3,4],[3,4,6],[3,4,6,7],[3,4,6,7,8],[3,4,6,7,8,9],[3,4,6,7,8,9,10],[3,4,6,7,8,9,10,11]] [0,1,2,3,4,5,6,7,8,9,10,11,12] [aq b1 (aV (⟨c.pages,c.size,⟨x6,zs⟩,c.ops,c.off,c.aD⟩:Cp)) 59] (fun _ hw=>ah.mem hw) oK oK (an rfl (aN (o':=2) rfl rfl) (an rfl (bI rfl) (an rfl (bo rfl) (gE rfl (aN (o':=2) rfl rfl) (gE rfl (bI rfl) (an rfl (bo rfl) (gE rfl (bh rfl rfl i rfl oM) (gE rfl (aN rfl rfl) (gE rfl (bT (j:=0) rfl i hz rfl (by decide)) (dr rfl (qk rfl (qD z xT.h) fun nu DA=>⟨fun _ hw=>ah.mem hw,?_⟩)))))))))));refine gE rfl (pd (s:=x6) (i:=i) rfl rfl rfl ho6 oM) (gE rfl (aN rfl rfl) ?_);refine dr rfl (yQ (n:=1) (k:=i) (j:=0) (a:=z) (a':=({z with pages:=nu}:Bk)) (xs:=zs) (enc:=cl) (c:=4) (v:=nu.sv.val) oK rfl rfl rfl hz (by rw[Sv.jM];simp[Sv.one]) (by rw[Sv.jM];rfl) (by decide) (by rw[Sv.jM];rfl) ⟨fun _ hw=>ah.mem hw,?_⟩)
  refine al ?_;refine Gi ?_;exact bw (x:=(i,zs)) (i+1,zs.set i ({z with pages:=nu}:Bk)) ⟨oF,by rw[atV];exact aL,by rw[yV,←bC,show bv ({z with pages:=nu}:Bk)=bv z from by rw[bv,bv,DA],←yV,xo hz],fun j hj=>by rw[atZ oF];exact dq j oF⟩ (by simp only;omega) sb (fun w hw=>by
   have h1:=Mem.AE (e:=fC nu) (es:=(zs.take i).map fun b:Bk=>fC b.pages) (ah.mem hw:Mem _ (fC nu::ai.all ((zs.take i).map fun b:Bk=>fC b.pages)::[own cl 4 x6 (zs.set i ({z with pages:=nu}:Bk)),aq b2 (aV gY) 59,aq b1 (aV (⟨c.pages,c.size,⟨x6,zs⟩,c.ops,c.off,c.aD⟩:Cp)) 59]) _)
   rw[acB (z':=({z with pages:=nu}:Bk)) hz]at h1
   exact(ah.mem h1:Mem _ [own cl 4 x6 (zs.set i ({z with pages:=nu}:Bk)),ai.all (((zs.set i ({z with pages:=nu}:Bk)).take (i+1)).map fun b:Bk=>fC b.pages),aq b2 (aV gY) 59,aq b1 (aV (⟨c.pages,c.size,⟨x6,zs⟩,c.ops,c.off,c.aD⟩:Cp)) 59] _))
 obtain rfl:i=zs.length:=by omega
 rw[atC (att _)]at*;refine av ?_;refine ag (Ry.to (v':=c.aD.sv.val) (bI rfl) rfl) (bb rfl oM fun Bg LU=>Gs ?_);refine dO (cs':=aV (⟨c.pages,c.size,⟨x6,zs⟩,c.ops,c.off,⟨Bg,c.aD.xs⟩⟩:Cp)) rfl rfl (by show 5<6;decide) (by first|rfl|exact Sv.one _) rfl (ar ?_);refine Gr fun w1 hw=>?_;exact⟨⟨c.pages,c.size,⟨x6,zs⟩,c.ops,c.off,⟨Bg,c.aD.xs⟩⟩,rfl,by simp only[cv,bC],ah.mem hw⟩)⟩
instance aqb{c:Cp}{b:Int}[hc:aX w0 L c]:bU Tryz.prog 298 w0 L [.agg (aV c), .int .i64 b] (.bool (ig (cv c) b)) (True):=⟨fun aA w hw=>by
 have hc:=hc.h w hw;have lJ:cQ w c:=⟨hc⟩;refine dz Tryz.func298 rfl Tryz.ntmps298 rfl ?_;refine Gc ?_;refine cm rfl fun b2=>P4 ?_;refine Gr fun w1 hw=>?_;exact⟨congrArg (fun b=>Ending.returned (Value.bool b)) ((by simp only[ig,cv,ie])),ah.mem hw⟩⟩
instance aqc{c:Cp}[hc:aX w0 L c]:bU Tryz.prog 299 w0 L [.agg (aV c)] (.tuple #[.agg (dA ((br (cv c)).1)), .bool ((br (cv c)).2)]) (c.aD.xs.length<=1000000):=⟨fun aA w hw=>by
 have hc:=hc.h w hw;have lJ:cQ w c:=⟨hc⟩;refine ct Tryz.func299 rfl Tryz.ntmps299 rfl ?_;refine Gc ?_;refine cm rfl fun b1=>bt fun b2=>di ?_;refine ck (X:=Nat) (fun U=>[(9, .int .i64 (U:Nat)),(1, .pointer (some ⟨b1,0,none⟩)),(2, .pointer (some ⟨b2,0,none⟩)),(7,c.aD.sv.val),(8, .int .i64 (c.aD.xs.length:Nat))]) (fun U=>[aq b2 (dA AB) 97,aq b1 (aV c) 59]) (fun U=>U<=c.aD.xs.length/\ ∀j f,j<U->c.aD.xs[j]? =Option.some f->f.op≠c.ops) (fun U=>c.aD.xs.length -U) 0 ⟨Nat.zero_le _,fun j f hj=>by first|omega|(simp only[];omega)⟩ sb (fun w hw=>ah.mem hw) ?_;rintro i ⟨bl,aL⟩;refine al ?_;refine Gb ?_ ?_<;>intro h0
 ·
  refine mB ?_;obtain⟨f,hf⟩:=get_some (xs:=c.aD.xs) (i:=i) oM;refine ag (bh rfl rfl i rfl oM) (ag (iJ rfl i hf rfl) (bt fun b5=>fI ?_));refine Gb ?_ ?_<;>intro h1
  ·
   have hs:br (cv c)=(f,f.cut||f.fail):=acD hf aL h1;refine Gi ?_;refine ji [7] [[],[],[],[],[],[],[],[],[7]] [0,1,2,3,4,5,6,7,8] [aq b5 (dA f) 97,aq b1 (aV c) 59] (fun _ hw=>ah.mem hw) oK oK (an rfl (kC rfl) (an rfl (aN (o':=2) rfl rfl) (an rfl (bI rfl) (an rfl (bo rfl) (P2 rfl rfl rfl rfl (fun hg=>(Ry.yl (aN (o':=1) rfl rfl))) (P2 rfl rfl rfl rfl (fun hg=>(Ry.yl (bI (aF hg rfl)))) (an rfl (zO rfl rfl rfl) (dr rfl (ql rfl rfl ⟨fun _ hw=>ah.mem hw,?_⟩)))))))));refine an rfl (gS rfl) (Gc ?_);refine Gr fun w1 hw=>?_;exact⟨(by rw[hs]),ah.mem hw⟩
  refine al ?_;refine Gi ?_;exact bw (x:=(i)) (i+1) ⟨oF,fun j g hj hg=>if e:j=i then(by subst e;rw[hf]at hg;cases hg;exact h1)else aL j g oF hg⟩ oF sb (fun w hw=>ah.mem hw)
 obtain rfl:i=c.aD.xs.length:=by omega
 have hs:br (cv c)=(AB,false):=acC (fun f hf=>by
  obtain⟨j,hj⟩:=atH hf;exact aL j f (zz.1 hj).1 hj)
 refine Gc ?_;refine ag (cV (v:= .agg (dA AB)) rfl (fun w=>by kernel_rfl)) (al ?_);refine Gr fun w1 hw=>?_;exact⟨(by rw[hs]),ah.mem hw⟩⟩
instance aqd{f:Ft}:bU Tryz.prog 300 w0 L [.agg (dA f)] (.tuple #[.bool f.cut, .int .i64 (lW f)]) (True):=⟨fun aA w hw=>by
 refine ct Tryz.func300 rfl Tryz.ntmps300 rfl ?_;refine Gc ?_;refine cm rfl fun b1=>aZ ?_;refine Gb ?_ ?_<;>intro h0
 ·
  refine ar ?_;refine Gr fun w1 hw=>?_;exact⟨(by rw[lW,if_pos h0,h0]),ah.mem hw⟩
 refine ar ?_;refine Gr fun w1 hw=>?_;exact⟨(by rw[lW,if_neg (by rw[h0];simp),h0]),ah.mem hw⟩⟩
instance aqe{c:Cp}{b:Int}[hc:aX w0 L c]:bV Tryz.prog 301 w0 L [.agg (aV c), .int .i64 b] (Cp) (fun U=> .tuple #[.agg (aV U), .int .i64 (qq (cv c) b)]) (fun U=>fz U::L) (fun U=>cv U=lX (cv c) b) (gw c):=⟨fun aA w hw=>Gk (fun U=>[fz U]) hw (by
 have hc:=hc.h w hw;have lJ:cQ w c:=⟨hc⟩;have iu:gw c:=aA;obtain⟨mf,jF,qD⟩:=aA;refine dz Tryz.func301 rfl Tryz.ntmps301 rfl ?_;refine Gc ?_;refine cm rfl fun b2=>bt fun b4=>al ?_;refine bb rfl (by assumption) fun x8 pS=>bt fun b6=>di ?_;refine Gb ?_ ?_<;>intro h0
 ·
  have hE:qq (cv c) b=1:=by rw[qq,if_neg (by rw[h0];simp)]
  refine aQ ?_;refine Gr fun w1 hw=>?_;exact⟨x8,by rw[hE],by rw[pS,lX,if_neg (by rw[hE];decide)],pG x8 (ah.mem hw)⟩
 have hk:ig (cv c) b=true:=h0;have hh:=hk;have Hk:=(ij.1 hh).2;have dM:x8.blocks.xs.length=c.blocks.xs.length:=by have:=congrArg (fun v:CV=>v.blocks.length) pS;simpa only[cv,ie]using this
 have Bh:x8.ops=c.ops:=congrArg CV.ops pS;have pP:(cv c).blocks.length=c.blocks.xs.length:=ie _;obtain⟨B,hB⟩:=get_some (xs:=x8.blocks.xs) (i:=b.toNat) oM;have oS:b.toNat<x8.blocks.xs.length:=(zz.1 hB).1;have fm:bv B=aj (cv c) b:=by
  have h1:=Gp hh;have h2:=nP hB;rw[show jk x8.blocks.xs=(cv c).blocks from congrArg CV.blocks pS,h1]at h2;exact(atl h2).symm
 have gI:ra c.pages c.size (bv B)=true:=by rw[fm];exact rb hh
 obtain⟨o1,o2,o3,o4,o5,o6⟩:=fu.1 gI;have iU:=mF.1 (eM.1 (ij.1 hh).1).1;have DB:=(eM.1 (ij.1 hh).1).2.1;simp only[bv,cv]at o1 o2 o3 o4 o5 o6 iU DB;have TU:=pC B.pages.xs;refine ar ?_;refine Gb ?_ ?_<;>intro h1
 ·
  have hE:qq (cv c) b=7:=by rw[qq,if_pos hk,if_pos (show(cv c).off=true from h1)]
  refine aQ ?_;refine Gr fun w1 hw=>?_;exact⟨x8,by rw[hE],by rw[pS,lX,if_neg (by rw[hE];decide)],pG x8 (ah.mem hw)⟩
 have hE:qq (cv c) b=0:=by rw[qq,if_pos hk,if_neg (by rw[show(cv c).off=false from h1];simp)]
 refine ar ?_;refine ag (bh rfl rfl b.toNat oM oS) (ag (aN rfl rfl) (mv (s:=x8.blocks.sv) (n:=1) (k:=b.toNat) (j:=3) (a:=B) (a':=(⟨B.pages,B.used,B.aU,true⟩:Bk)) (xs:=x8.blocks.xs) (enc:=cl) (c:=4) (v:= .bool true) oK rfl rfl rfl hB (by simp[Value.cells,Value.oneCell']) (by rfl) (by decide) (by rfl) (aQ ?_)));refine Gr fun w1 hw=>?_;exact⟨(⟨x8.pages,x8.size,⟨x8.blocks.sv,x8.blocks.xs.set b.toNat (⟨B.pages,B.used,B.aU,true⟩:Bk)⟩,x8.ops,x8.off,x8.aD⟩:Cp),by rw[hE];rfl,by rw[acK pS fm,lX,if_pos hE],pG (⟨x8.pages,x8.size,⟨x8.blocks.sv,x8.blocks.xs.set b.toNat (⟨B.pages,B.used,B.aU,true⟩:Bk)⟩,x8.ops,x8.off,x8.aD⟩:Cp) (by
  simp only[acJ hB (B':=(⟨B.pages,B.used,B.aU,true⟩:Bk)) rfl];exact ah.mem hw)⟩)⟩
instance aqf{c:Cp}{fs:Sv}{tA:List Ft}[hc:aX w0 L c][LV:dy w0 L dA 4 fs tA]:bV Tryz.prog 42 w0 L [.agg (aV c),fs.val] (Cp) (fun U=> .tuple #[.agg (aV U), .int .i64 (ll (cv c) tA)]) (fun U=>fz U::L) (fun U=>cv U=lp (cv c) tA) (gw c):=⟨fun aA w hw=>Gk (fun U=>[fz U]) hw (by
 have hc:=hc.h w hw;have LV:=LV.h w hw;have lJ:cQ w c:=⟨hc⟩;have aqg:Gv w fs dA 4 tA:=⟨LV⟩;have iu:gw c:=aA;obtain⟨mf,jF,qD⟩:=aA;refine dz Tryz.func42 rfl Tryz.ntmps42 rfl ?_;refine Gc ?_;refine cm rfl fun b2=>bt fun b4=>al ?_;refine bb rfl (by assumption) fun x8 pS=>bt fun b6=>qo ?_;refine Gb ?_ ?_<;>intro h0
 ·
  have hE:ll (cv c) tA=1:=by rw[ll,if_neg (fun h=>by rw[h.1]at h0;simp only[au9,false_or]at h0;omega)]
  refine aQ ?_;refine Gr fun w1 hw=>?_;exact⟨x8,by rw[hE],by rw[pS,lp,if_neg (by rw[hE];decide)],pG x8 (ah.mem hw)⟩
 have hE:ll (cv c) tA=0:=by
  rw[ll,if_pos]
  cases hk:aW (cv c)with
  |false=>rw[hk]at h0;simp at h0
  |true=>exact⟨rfl,by rw[hk]at h0;simp only[au9,not_false_eq_true,true_and]at h0;omega⟩
 have eQ:tA.length<=64:=by
  by_cases h9:aW (cv c)=true/\tA.length<=64
  ·
   exact h9.2
  rw[ll,if_neg h9]at hE;cases hE
 refine av ?_;refine dO (cs':=aV (⟨x8.pages,x8.size,x8.blocks,x8.ops,false,x8.aD⟩:Cp)) rfl rfl (by show 4<6;decide) (by first|rfl|exact Sv.one _) rfl (av ?_);refine bb rfl oM fun iF zp=>Gs ?_;refine dO (cs':=aV (⟨x8.pages,x8.size,x8.blocks,x8.ops,false,⟨iF,tA⟩⟩:Cp)) rfl rfl (by show 5<6;decide) (by first|rfl|exact Sv.one _) rfl (aQ ?_);refine Gr fun w1 hw=>?_;exact⟨(⟨x8.pages,x8.size,x8.blocks,x8.ops,false,⟨iF,tA⟩⟩:Cp),by rw[hE],by rw[lp,if_pos hE,←pS];rfl,pG (⟨x8.pages,x8.size,x8.blocks,x8.ops,false,⟨iF,tA⟩⟩:Cp) (ah.mem hw)⟩)⟩
instance aqh{b:Sv}{bs:List UInt8}[hb:dy w0 L aO 1 b bs]:bU Tryz.prog 269 w0 L [.int .u32 0,b.val] (.int .u32 (oB bs:Nat)) (True):=⟨fun aA w hw=>by
 have hb:=hb.h w hw;have zq:Gv w b aO 1 bs:=⟨hb⟩;have kg:=hb.bd;refine dz Tryz.func269 rfl Tryz.ntmps269 rfl ?_;refine ar ?_;refine ag (Rl (p:=0) rfl rfl (by decide)) (aZ ?_);refine ck (X:=Nat) (fun U=>[(13, .int .i64 (U:Nat)),(5, .int .u32 (lg 4294967295 (bs.take U):Nat)),(11,b.val),(12, .int .i64 (bs.length:Nat))]) (fun U=>[]) (fun U=>U<=bs.length) (fun U=>bs.length -U) 0 (atL _) sb (fun w hw=>ah.mem hw) ?_;rintro i hi;have bn:lg 4294967295 (bs.take i)<2^32:=F8 (by decide) _;refine al ?_;refine Gb ?_ ?_<;>intro h0
 ·
  obtain⟨y,he⟩:=get_some (xs:=bs) (i:=i) oM;have hy:=y.toNat_lt;have eF:lg 4294967295 (bs.take i)^^^y.toNat<2^32:=awe (F8 (by decide) _) oM;refine Gc ?_;refine ag (bh rfl rfl i rfl oM) (ag (bT (j:=0) rfl i he rfl (by decide)) (ar ?_));refine ag (kX rfl (by simp only[nb];omega)) (ag (Og rfl rfl rfl rfl (by simp only[nb];omega) (by simp only[nb];omega)) (ar ?_));refine ck (X:=Nat) (fun U=>[(21, .int .i64 (U:Nat)),(5, .int .u32 ((pB (lg 4294967295 (bs.take i)^^^y.toNat) U):Nat)),(11,b.val),(12, .int .i64 (bs.length:Nat)),(13, .int .i64 (i:Nat))]) (fun U=>[]) (fun U=>U<=8) (fun U=>8 -U) 0 (atL _) sb (fun w hw=>ah.mem hw) ?_;rintro k hk;refine al ?_;refine Gb ?_ ?_<;>intro h1
  ·
   have oA:(pB (lg 4294967295 (bs.take i)^^^y.toNat) k)<2^32:=Kq eF k;have CP:(pB (lg 4294967295 (bs.take i)^^^y.toNat) k)/2<2^32:=by omega
   refine av ?_;refine ag (Ry.to (v':= .int .u32 (((pB (lg 4294967295 (bs.take i)^^^y.toNat) k)%2:Nat):Int)) (Of (p:=(pB (lg 4294967295 (bs.take i)^^^y.toNat) k)) (q:=1) rfl rfl rfl rfl (by simp only[nb];omega) (by decide)) (by rw[Nat.and_one_is_mod])) (al ?_);refine ag (wM (p:=(pB (lg 4294967295 (bs.take i)^^^y.toNat) k)) rfl rfl (by simp only[nb];omega) oM) (ar ?_);refine ag (YA (p:=3988292384) (q:=(pB (lg 4294967295 (bs.take i)^^^y.toNat) k)%2) rfl rfl rfl rfl (by simp only[nb];omega)) ?_;refine ag (Ry.to (v':= .int .u32 ((pB (lg 4294967295 (bs.take i)^^^y.toNat) (k+1):Nat):Int)) (Og (p:=(pB (lg 4294967295 (bs.take i)^^^y.toNat) k)/2^1) (q:=3988292384*((pB (lg 4294967295 (bs.take i)^^^y.toNat) k)%2)) rfl rfl rfl rfl (by simp only[nb];omega) (by simp only[nb];omega)) (by rw[pB,Ko];rcases Nat.mod_two_eq_zero_or_one (pB (lg 4294967295 (bs.take i)^^^y.toNat) k)with h|h<;>rw[h]<;>rfl)) ?_;refine ar ?_;refine Gi ?_;exact bw (x:=(k)) (k+1) oF oF sb (fun w hw=>ah.mem hw)
  obtain rfl:k=8:=by omega
  refine al ?_;refine Gi ?_;exact bw (x:=(i)) (i+1) oF oF (Sub.cons rfl (Sub.cons (look_eq rfl (by rw[ab7 he];rfl)) sb)) (fun w hw=>ah.mem hw)
 obtain rfl:i=bs.length:=by omega
 refine av ?_;refine ag (Rl (p:=lg 4294967295 (bs.take bs.length)) rfl rfl (F8 (by decide) _)) (av ?_);refine Gr fun w1 hw=>?_;exact⟨(by rw[atP];rfl),ah.mem hw⟩⟩
instance aqi{b:Sv}{bs:List UInt8}[hb:dy w0 L aO 1 b bs]:bU Tryz.prog 229 w0 L [b.val] (.int .u32 (oB bs:Nat)) (True):=⟨fun aA w hw=>by
 have hb:=hb.h w hw;have zq:Gv w b aO 1 bs:=⟨hb⟩;refine ct Tryz.func229 rfl Tryz.ntmps229 rfl ?_;refine di ?_;refine Gr fun w1 hw=>?_;exact⟨rfl,ah.mem hw⟩⟩
instance aqj{n:Nat}{many:Nat}:bV Tryz.prog 112 w0 L [.int .u64 (n:Nat), .int .i64 (many:Nat)] (Sv) (fun U=>U.val) (fun U=>own aO 1 U (be n many)::L) (fun U=>True) (n<2^64/\1<=many/\many<=8):=⟨fun aA w hw=>Gk (fun U=>[own aO 1 U (be n many)]) hw (by
 obtain⟨mf,jF,qD⟩:=aA;refine dz Tryz.func112 rfl Tryz.ntmps112 rfl ?_;refine qW ?_;refine Gb ?_ ?_<;>intro h0
 ·
  exfalso;omega
 refine av ?_;refine vu (enc:=aO) (n:=many) (cap:=many) 0 rfl rfl rfl rfl rfl oM oM oM fun Hl=>al ?_;refine ag (Ry.to (v':= .int .i64 (many:Nat)) (tY rfl) (by simp)) (av ?_);refine ck (X:=Nat) (fun U=>[(17, .int .i64 (U:Nat)),(5,(⟨false,Hl,0,many,many,none⟩:Sv).val),(0, .int .u64 (n:Nat)),(1, .int .i64 (many:Nat)),(16, .int .i64 (many:Nat))]) (fun U=>[own aO 1 ⟨false,Hl,0,many,many,none⟩ (List.replicate (many -U) (0:UInt8)++be n U)]) (fun U=>U<=many) (fun U=>many -U) 0 (atL _) sb (fun w hw=>by rw[show List.replicate (many -0) (0:UInt8)++be n 0=List.replicate many 0 from by rw[be,auh,Nat.sub_zero]];exact ah.mem hw) ?_;rintro i hi;have dM:=jL n i;have AF:(List.replicate (many -i) (0:UInt8)++be n i).length=many:=by rw[adr,aue,dM];omega
 refine al ?_;refine Gb ?_ ?_<;>intro h1
 ·
  refine qo ?_;refine ag (vl rfl rfl oM) (ag (Ry.to (v':= .int .u64 ((n/256^i:Nat):Int)) (wM (p:=n) rfl rfl (by simp only[nb];omega) oM) (by rw[show(8*(i:Int)).toNat=8*i by omega,Nat.pow_mul])) (ag (Ci rfl rfl) (ag (bh rfl rfl (many -1 -i) oM oM) ?_)));refine aeG rfl rfl (by rw[atN (by rw[aue];omega),avN,if_pos oM]) rfl ?_;refine al ?_;refine Gi ?_;exact bw (x:=(i)) (i+1) oF oF sb (fun w hw=>by rw[acO oM]at hw;exact ah.mem hw)
 have him:i=many:=by omega
 refine ar ?_;refine Gr fun w1 hw=>?_;exact⟨⟨false,Hl,0,many,many,none⟩,rfl,trivial,by rw[him,avm,List.replicate_zero,aug]at hw;exact ah.mem hw⟩)⟩
instance aqk{b:Sv}{bs:List UInt8}[hb:dy w0 L aO 1 b bs]:bU Tryz.prog 113 w0 L [b.val] (.int .u64 (de bs:Nat)) (bs.length<=7):=⟨fun aA w hw=>by
 have hb:=hb.h w hw;have zq:Gv w b aO 1 bs:=⟨hb⟩;refine ct Tryz.func113 rfl Tryz.ntmps113 rfl ?_;refine ja ?_;refine ck (X:=Nat) (fun U=>[(8, .int .i64 (U:Nat)),(3, .int .u64 (de (bs.take U):Nat)),(6,b.val),(7, .int .i64 (bs.length:Nat))]) (fun U=>[]) (fun U=>U<=bs.length) (fun U=>bs.length -U) 0 (atL _) sb (fun w hw=>ah.mem hw) ?_;rintro i hi;refine al ?_;refine Gb ?_ ?_<;>intro h0
 ·
  obtain⟨y,he⟩:=get_some (xs:=bs) (i:=i) oM;have hy:=y.toNat_lt;have bn:de (bs.take i)<256^6:=au0 (Jd bs i hi) (auR (by decide) oM);refine Gc ?_;refine ag (bh rfl rfl i rfl oM) (ag (bT (j:=0) rfl i he rfl (by decide)) (al ?_));refine ag (acN (p:=de (bs.take i)) rfl rfl rfl oM) (Gs ?_);refine ag (kX rfl (by simp only[nb];omega)) (ag (B9 (p:=de (bs.take i)*256) (q:=y.toNat) rfl rfl rfl rfl (by simp only[nb];omega) (by simp only[nb];omega)) (ar ?_));refine Gi ?_;exact bw (x:=(i)) (i+1) oF oF (Sub.cons rfl (Sub.cons (look_eq rfl (by rw[OH he,OI _ _ hy])) sb)) (fun w hw=>ah.mem hw)
 obtain rfl:i=bs.length:=by omega
 refine ar ?_;refine Gr fun w1 hw=>?_;exact⟨(by rw[atP]),ah.mem hw⟩⟩
instance aql{n:Nat}:bV Tryz.prog 185 w0 L [.slice none 0 0, .int .i64 (n:Nat)] (Sv) (fun U=>U.val) (fun U=>own aO 1 U ([]:List UInt8)::L) (fun U=>True) (n<=1000000000):=⟨fun aA w hw=>Gk (fun U=>[own aO 1 U ([]:List UInt8)]) hw (by
 refine dz Tryz.func185 rfl Tryz.ntmps185 rfl ?_;refine aZ ?_;refine Gb ?_ ?_<;>intro h0
 ·
  exfalso;omega
 refine al ?_;refine ag (F9 rfl) (Gs ?_);refine ag (yr rfl) (di ?_);refine Gb ?_ ?_<;>intro h1
 ·
  refine Gi ?_;refine av ?_;refine ag (F9 rfl) (ag (Ry.to (v':= .slice none 0 0) (wQ (s:=Sv.none) (h:=0) rfl rfl rfl Sv.Cc (att _)) rfl) (Gs ?_));refine QT (enc:=aO) (k:=n) (0:UInt8) rfl rfl oM oM (by decide) rfl Tryz.underlying3 oM oM fun DC DD LW=>Gs ?_;refine ag (yr rfl) (ag (wQ (s:=⟨false,DC,0,n,DD,none⟩) (h:=0) rfl rfl rfl ⟨(fun h=>by cases h),LW,by simp only;omega,fun _=>rfl⟩ (atL _)) (aQ ?_));refine Gr fun w1 hw=>?_;refine⟨Sv.sub ⟨false,DC,0,n,DD,none⟩ 1 0 0,rfl,trivial,?_⟩;have fx:=Mem.QS (i:=0) (k:=0) hw rfl (atL _);rw[atW]at fx;exact fx
 have hn:n=0:=by omega
 refine ar ?_;refine Gr fun w1 hw=>?_;exact⟨Sv.none,rfl,trivial,(ah.mem hw:Mem w [] _).dK aO 1⟩)⟩
instance aqm{a:Sl (Sl UInt8)}[ha:aX w0 L a]:bV Tryz.prog 111 w0 L [a.sv.val] (Sv) (fun U=>U.val) (fun U=>own aO 1 U (lh a.xs)::L) (fun U=>True) ((lh a.xs).length<=1000000):=⟨fun aA w hw=>Gk (fun U=>[own aO 1 U (lh a.xs)]) hw (by
 have ha:=ha.h w hw;have LX:cQ w a:=⟨ha⟩;have EC:=ha.1.bd;have eQ:=aca a.xs;refine ct Tryz.func111 rfl Tryz.ntmps111 rfl ?_;refine ja ?_;refine ck (X:=Nat) (fun U=>[(11, .int .i64 (U:Nat)),(3, .int .i64 ((lh (a.xs.take U)).length:Nat)),(0,a.sv.val),(9,a.sv.val),(10, .int .i64 (a.xs.length:Nat))]) (fun U=>[]) (fun U=>U<=a.xs.length) (fun U=>a.xs.length -U) 0 (atL _) sb (fun w hw=>ah.mem hw) ?_;rintro i hi;have Ar:=eQ i;have my:=eQ (i+1);refine al ?_;refine Gb ?_ ?_<;>intro h0
 ·
  refine mB ?_;obtain⟨x,hx⟩:=get_some (xs:=a.xs) (i:=i) oM;refine ag (bh rfl rfl i rfl oM) (ag (bT (j:=0) rfl i hx rfl (by decide)) ?_);have hfx:(lh (a.xs.take (i+1))).length=(lh (a.xs.take i)).length+x.xs.length:=by rw[Ga hx,adr]
  have Hm:Mb x _:=⟨List.mem_of_getElem? hx⟩;refine qo ?_;refine Gb ?_ ?_<;>intro h1
  ·
   exfalso;omega
  refine al ?_;refine Gi ?_;exact bw (x:=(i)) (i+1) oF oF (Sub.cons rfl (Sub.cons (look_eq rfl (by rw[Ga hx,adr];simp)) sb)) (fun w hw=>ah.mem hw)
 obtain rfl:i=a.xs.length:=by omega
 have mZ:=eQ a.xs.length;refine av ?_;refine bb rfl oM fun xU LY=>aZ ?_;refine ck (X:=Nat×Sv) (fun U=>[(27, .int .i64 (U.1:Nat)),(6,U.2.val),(25,a.sv.val),(26, .int .i64 (a.xs.length:Nat))]) (fun U=>[own aO 1 U.2 (lh (a.xs.take U.1))]) (fun U=>U.1<=a.xs.length) (fun U=>a.xs.length -U.1) (0,xU) (Nat.zero_le _) sb (fun w hw=>(ah.mem hw:Mem _ [own aO 1 xU ([]:List UInt8)] _)) ?_;rintro⟨k,s1⟩ hk;dsimp only;simp only at hk;have Ar:=eQ k;have my:=eQ (k+1);refine al ?_;refine Gb ?_ ?_<;>intro h2
 ·
  refine mB ?_;obtain⟨y,hy⟩:=get_some (xs:=a.xs) (i:=k) oM;refine ag (bh rfl rfl k rfl oM) (ag (bT (j:=0) rfl k hy rfl (by decide)) ?_);have hfy:(lh (a.xs.take (k+1))).length=(lh (a.xs.take k)).length+y.xs.length:=by rw[Ga hy,adr]
  have TV:Mb y _:=⟨List.mem_of_getElem? hy⟩;refine ar ?_;refine nf (s:=s1) (ys:=y.xs) rfl rfl (by decide) (fun w hw=>jy (s:=y.sv) Tryz.underlying53 (by decide) ((inferInstance:Hd _ _ y.sv aO 1 y.xs).h w hw)) oM oM fun Bi TW TX=>?_;refine ar ?_;refine Gi ?_;exact bw (x:=(k,s1)) (k+1,Bi) (by simp only;omega) (by simp only;omega) sb (fun w hw=>by rw[Ga hy];exact ah.mem hw)
 obtain rfl:k=a.xs.length:=by omega
 refine ar ?_;refine Gr fun w1 hw=>?_;exact⟨s1,rfl,trivial,by rw[atP]at hw;exact ah.mem hw⟩)⟩
instance aqn{s:Sv}{ss:List UInt8}[hs:dy w0 L aO 1 s ss]:bV Tryz.prog 230 w0 L [s.val] (Sv) (fun U=>U.val) (fun U=>own aO 1 U ss::L) (fun U=>True) (ss.length<=1000000):=⟨fun aA w hw=>Gk (fun U=>[own aO 1 U ss]) hw (by
 have hs:=hs.h w hw;have ze:Gv w s aO 1 ss:=⟨hs⟩;refine ct Tryz.func230 rfl Tryz.ntmps230 rfl ?_;refine ar ?_;refine ag (vw Tryz.underlying53 rfl) (Gc ?_);refine Gb ?_ ?_<;>intro h0
 ·
  have e0:ss=[]:=atJ.1 (by have:=hs.ok.nil h0;have:=hs.len;omega);refine al ?_;refine Gr fun w1 hw=>?_;exact⟨Sv.none,rfl,trivial,by rw[e0];exact(ah.mem hw:Mem w [] _).dK aO 1⟩
 refine Gc ?_;refine wW aO fun b5=>Gs ?_;refine nf (s:=⟨false,b5,0,0,0,none⟩) (ys:=ss) rfl rfl (by decide) (fun w hw=>jy (s:=s) Tryz.underlying53 (by decide) ((inferInstance:Hd _ _ s aO 1 ss).h w hw)) (by simp only[adr,af0,anc];omega) (by simp only[adr,af0,anc];omega) fun s7 zf xM=>?_;refine av ?_;refine Gr fun w1 hw=>?_;exact⟨s7,rfl,trivial,by simpa using hw⟩)⟩
instance:eP Tryz.prog 324 (.agg (dj pH)):=⟨by kernel_rfl⟩
instance aqo{n:Int}:bU Tryz.prog 144 w0 L [.int .i64 n] (.bool (oD n)) (True):=⟨fun aA w hw=>by
 refine ct Tryz.func144 rfl Tryz.ntmps144 rfl ?_;refine qo ?_;refine Gr fun w1 hw=>?_;exact⟨congrArg (fun b=>Ending.returned (Value.bool b)) (rfl),ah.mem hw⟩⟩
instance aqp{n:Int}:bU Tryz.prog 76 w0 L [.int .i64 n] (.int .i64 (dW n)) (True):=⟨fun aA w hw=>by
 refine ct Tryz.func76 rfl Tryz.ntmps76 rfl ?_;refine di ?_;refine Gb ?_ ?_<;>intro h0
 ·
  refine al ?_;refine Gr fun w1 hw=>?_;exact Gf ((by rw[dW,if_neg (by rw[h0];simp)])) hw
 have hf:=sZ.1 h0;refine aQ ?_;refine Gr fun w1 hw=>?_;exact⟨congrArg (fun b=>Ending.returned (Value.int .i64 b)) ((by rw[dW,if_pos h0])),ah.mem hw⟩⟩
instance aqq{x:fv}{n:Int}[hx:aX w0 L x]:bU Tryz.prog 268 w0 L [.agg (dj x), .int .i64 n] (.bool (mI (cW x) n)) (True):=⟨fun aA w hw=>by
 have hx:=hx.h w hw;have zr:cQ w x:=⟨hx⟩;refine dz Tryz.func268 rfl Tryz.ntmps268 rfl ?_;refine Gc ?_;refine cm rfl fun b2=>av ?_;refine kf oK oK (Gq ?_);refine wN (bM rfl trivial) (ar ?_);refine gp rfl rfl rfl (fun hg=>(Ry.yl (bo (aF hg rfl)))) (IZ rfl rfl rfl (fun hg=>(Ry.yl (aN (o':=0) rfl rfl))) (IZ rfl rfl rfl (fun hg=>(Ry.yl (bI (aF hg rfl)))) (IZ rfl rfl rfl (fun hg=>(Ry.yl (fE (aF hg rfl) rfl rfl))) (gp rfl rfl rfl (fun hg=>(Ry.yl (zO (aF hg rfl) rfl (yy hg rfl)))) (aam ?_)))));refine gp rfl rfl rfl (fun hg=>bM (fa (aF hg rfl) iZ) trivial) (ar ?_);refine Gr fun w1 hw=>?_;exact⟨congrArg (fun b=>Ending.returned (Value.bool b)) ((by simp only[mI,cW];rw[show decide ((x.gen.toNat:Int)<281474976710656)=decide (x.gen.toNat<281474976710656)from decide_eq_decide.2 oM];rfl)),ah.mem hw⟩⟩
instance aqr{b:Sv}{bs:List UInt8}[hb:dy w0 L aO 1 b bs]:bU Tryz.prog 267 w0 L [b.val] (.bool (km bs)) (True):=⟨fun aA w hw=>by
 have hb:=hb.h w hw;have zq:Gv w b aO 1 bs:=⟨hb⟩;have kg:=hb.bd;refine ct Tryz.func267 rfl Tryz.ntmps267 rfl ?_;refine di ?_;refine ck (X:=Nat) (fun U=>[(7, .int .i64 (U:Nat)),(5,b.val),(6, .int .i64 (bs.length:Nat))]) (fun U=>[]) (fun U=>U<=bs.length/\ ∀j x,j<U->bs[j]? =Option.some x->x=255) (fun U=>bs.length -U) 0 ⟨Nat.zero_le _,fun j x hj=>by first|omega|(simp only[];omega)⟩ sb (fun w hw=>ah.mem hw) ?_;rintro i ⟨bl,aL⟩;refine al ?_;refine Gb ?_ ?_<;>intro h0
 ·
  refine mB ?_;obtain⟨y,hy⟩:=get_some (xs:=bs) (i:=i) oM;refine ag (bh rfl rfl i rfl oM) (ag (bT (j:=0) rfl i hy rfl (by decide)) (aQ ?_));refine Gb ?_ ?_<;>intro h1
  ·
   have hz:km bs=false:=by
    cases hk:km bs with
    |false=>rfl
    |true=>exact absurd (congrArg UInt8.toNat (C0.1 hk y (alM hy))) (by intro e;exact h1 (by rw[e];rfl))
   refine al ?_;refine Gr fun w1 hw=>?_;exact Ge (hz.symm) hw
  have LZ:y=255:=avC.1 (show y.toNat=255 by omega);refine al ?_;refine Gi ?_;exact bw (x:=(i)) (i+1) ⟨oF,fun j x hj hx=>if e:j=i then(by subst e;rw[hy]at hx;cases hx;exact LZ)else aL j x oF hx⟩ oF sb (fun w hw=>ah.mem hw)
 obtain rfl:i=bs.length:=by omega
 have hz:km bs=true:=C0.2 fun x hx=>by
  obtain⟨j,hj⟩:=atH hx;exact aL j x (zz.1 hj).1 hj
 refine al ?_;refine Gr fun w1 hw=>?_;exact⟨congrArg (fun b=>Ending.returned (Value.bool b)) (hz.symm),ah.mem hw⟩⟩
instance:eP Tryz.prog 314 (.agg (eR mG)):=⟨by kernel_rfl⟩
instance aqs{n:Int}:bU Tryz.prog 143 w0 L [.int .i64 n] (.int .i64 (kJ n)) (True):=⟨fun aA w hw=>by
 have hrr:oD n=true->24<=n/\n<=256:=fun h=>sZ.1 h;have hrb:0<=dW n/\dW n<=240:=by
  by_cases h:oD n=true
  ·
   have:=hrr h;rw[dW,if_pos h];omega
  rw[dW,if_neg h];omega
 refine ct Tryz.func143 rfl Tryz.ntmps143 rfl ?_;refine aQ ?_;refine ag (n9 rfl rfl oM oM) (ag (IU rfl rfl) (av ?_));refine Gr fun w1 hw=>?_;exact⟨congrArg (fun b=>Ending.returned (Value.int .i64 b)) (rfl),ah.mem hw⟩⟩
instance aqt{r:dH}{n:Int}[hr:aX w0 L r]:bU Tryz.prog 254 w0 L [.agg (eR r), .int .i64 n] (.bool (pJ (dL r) n)) (True):=⟨fun aA w hw=>by
 have hr:=hr.h w hw;have ghr:cQ w r:=⟨hr⟩;have kg:=hr.1.bd;refine dz Tryz.func254 rfl Tryz.ntmps254 rfl ?_;refine Gc ?_;refine cm rfl fun b2=>av ?_;refine kf oK oK (Gq ?_);refine wN (bM rfl trivial) (qo ?_);refine jx rfl rfl rfl (fun hg=>bM (fa (aF hg rfl) iZ) trivial) (al ?_);refine Gb ?_ ?_<;>intro h0
 ·
  have hz:pJ (dL r) n=false:=by
   cases hk:pJ (dL r) n with
   |false=>rfl
   |true=>
    obtain⟨g1,g2,g3,g4⟩:=xq.1 hk;simp only[dL]at g2 g3;omega
  refine al ?_;refine Gr fun w1 hw=>?_;exact Ge (hz.symm) hw
 have g0:dW n≠0/\r.gen.toNat<281474976710656/\(r.at_.xs.length:Int)<=kJ n:=⟨by omega,by omega,by omega⟩;refine aZ ?_;refine ck (X:=Nat) (fun U=>[(26, .int .i64 (U:Nat)),(24,r.at_.sv.val),(25, .int .i64 (r.at_.xs.length:Nat))]) (fun U=>[aq b2 (eR r) 314]) (fun U=>U<=r.at_.xs.length/\ ∀j x,j<U->r.at_.xs[j]? =Option.some x->yY x=true) (fun U=>r.at_.xs.length -U) 0 ⟨Nat.zero_le _,fun j x hj=>by first|omega|(simp only[];omega)⟩ sb (fun w hw=>ah.mem hw) ?_;rintro i ⟨bl,aL⟩;refine al ?_;refine Gb ?_ ?_<;>intro h1
 ·
  refine mB ?_;obtain⟨y,hy⟩:=get_some (xs:=r.at_.xs) (i:=i) oM;refine ag (bh rfl rfl i rfl oM) (ag (bT (j:=0) rfl i hy rfl (by decide)) (ja ?_));refine Gb ?_ ?_<;>intro h2
  ·
   have hz:pJ (dL r) n=false:=by
    cases hk:pJ (dL r) n with
    |false=>rfl
    |true=>
     have g:=C1.1 ((xq.1 hk).2.2.2 y (alM hy));omega
   refine al ?_;refine Gr fun w1 hw=>?_;exact Ge (hz.symm) hw
  have L3:yY y=true:=C1.2 ⟨by omega,by omega⟩;refine al ?_;refine Gi ?_;exact bw (x:=(i)) (i+1) ⟨oF,fun j x hj hx=>if e:j=i then(by subst e;rw[hy]at hx;cases hx;exact L3)else aL j x oF hx⟩ oF sb (fun w hw=>ah.mem hw)
 obtain rfl:i=r.at_.xs.length:=by omega
 have hz:pJ (dL r) n=true:=xq.2 ⟨g0.1,g0.2.1,g0.2.2,fun x hx=>by
  obtain⟨j,hj⟩:=atH hx;exact aL j x (zz.1 hj).1 hj⟩
 refine al ?_;refine Gr fun w1 hw=>?_;exact⟨congrArg (fun b=>Ending.returned (Value.bool b)) (hz.symm),ah.mem hw⟩⟩
end Go.Proofs.YtkggjjnhnjjokaaGreatDoor
