/- Part of a proof. -/
import Derived.Test.YtkggjjnhnjjokaaGreatDoorB3
import Derived.Test.YtkggjjnhnjjokaaGreatDoorB2
import Derived.Maps.Keyed
set_option maxRecDepth 20000
set_option linter.unusedSimpArgs false
set_option linter.unusedVariables false
namespace Go.Kb
open Go.ay
instance:Plain Rt:=⟨fun _=>rfl⟩
instance:fE Rt:=fE.flat fun _ _=>trivial
structure c0 where
 aG:cf
 table:Sl Rt
def dy(x:c0):Array Value:= #[.int .i64 x.aG.ak.ae, .int .i64 x.aG.ak.size,x.aG.ak.blocks.sv.val, .int .i64 x.aG.ak.ops, .bool x.aG.ak.off,x.aG.ak.bj.sv.val,x.aG.at_.sv.val, .int .u64 x.aG.gen.toNat, .int .i64 x.aG.last,x.table.sv.val]
instance:bk dy 10:=⟨fun _=>rfl,fun x=>by
 simp only[dy,aqY,aq3,arf,Sv.one,tM,tN,aq4]⟩
instance (x:c0):eU (dy x) 10:=⟨rfl,bk.one x⟩
instance (x:c0):bK (dy x) 1 (.int .i64 x.aG.ak.size):=⟨rfl⟩
instance (x:c0):bK (dy x) 6 (x.aG.at_.sv.val):=⟨rfl⟩
instance (x:c0):bK (dy x) 7 (.int .u64 x.aG.gen.toNat):=⟨rfl⟩
instance (x:c0):bK (dy x) 8 (.int .i64 x.aG.last):=⟨rfl⟩
instance (x:c0):bK (dy x) 9 (x.table.sv.val):=⟨rfl⟩
instance (x:c0):mn (dy x) 0 9 (cj x.aG):=⟨rfl,fun j hj=>by
 match j,hj with
 |0,_=>rfl
 |1,_=>rfl
 |2,_=>rfl
 |3,_=>rfl
 |4,_=>rfl
 |5,_=>rfl
 |6,_=>rfl
 |7,_=>rfl
 |8,_=>rfl⟩
instance (x:c0):mn (dy x) 0 6 (aU x.aG.ak):=⟨rfl,fun j hj=>by
 match j,hj with
 |0,_=>rfl
 |1,_=>rfl
 |2,_=>rfl
 |3,_=>rfl
 |4,_=>rfl
 |5,_=>rfl⟩
instance:Deep c0 where
 c:=10
 cells:=dy
 size:=bk.size
 one:=bk.one
 dJ h x:=Deep.dJ h x.aG/\Deep.dJ h x.table
 cd x:= .two (Deep.cd x.aG) (Deep.cd x.table)
 je h x hs:=⟨Deep.je h x.aG hs.1,Deep.je h x.table hs.2.1⟩
 mono w w' x hg hb:=⟨Deep.mono w w' x.aG hg.1 hb,Deep.mono w w' x.table hg.2 hb⟩
instance:fE c0 where
 reach x k:=fE.reach x.aG k\/fE.reach x.table k
 congr h h' x e hg:=⟨fE.congr h h' x.aG (fun k hk=>e k (.inl hk)) hg.1,fE.congr h h' x.table (fun k hk=>e k (.inr hk)) hg.2⟩
variable {w0:World}{L:List aj}
instance{x:c0}[q:aV w0 L x]:aV w0 L x.aG:=⟨fun w hw=>(q.h w hw).1⟩
instance{x:c0}[q:aV w0 L x]:aV w0 L x.table:=⟨fun w hw=>(q.h w hw).2⟩
instance{aG:cf}{table:Sl Rt}[q0:aV w0 L aG][q1:aV w0 L table]:aV w0 L (c0.mk aG table):=⟨fun w hw=>⟨q0.h w hw,q1.h w hw⟩⟩
def mJ:c0:=⟨kS,⟨Sv.none,[]⟩⟩
structure FV where
 aG:VV
 table:List Rt
 deriving DecidableEq
def cH(f:c0):FV:=⟨vv f.aG,f.table.xs⟩
def qe:FV:=⟨mA,[]⟩
def Cl(b p s:Int):Int:=min (xV b p/2) (lV s)
def Jt(b p s:Int):Int:=mH (Cl b p s) (fI s)
def hH(c:CV):Int:=Cl c.blocks.length c.ae c.size
def q7(c:CV):Int:=Jt c.blocks.length c.ae c.size
def ky(c:CV)(y:Int):List UInt8:=if y -1<0 then[]else ll c y
def pk(v:VV):List (List UInt8):=v.at_.map (ky v.ak)
def dU(c:CV):FV×Int:=
 if q7 c=0 then(qe,1)
 else if(bJ c).2≠0 then(qe,(bJ c).2)
 else if((bJ c).1.at_.length:Int)≠hH c then(qe,2)
 else if pf (pk (bJ c).1)≠0 then(qe,2)
 else(⟨(bJ c).1,mI (pk (bJ c).1)⟩,0)
def kY(c:CV):List (List UInt8):=if(dU c).2=0 then pk (bJ c).1 else[]
theorem Qm{c:CV}(h:q7 c=0):dU c=(qe,1)/\kY c=[]:=by
 have e:dU c=(qe,1):=by rw[dU,if_pos h]
 exact⟨e,by rw[kY,e];rfl⟩
theorem Qn{c:CV}(h: ¬q7 c=0)(h1:(bJ c).2≠0):dU c=(qe,(bJ c).2)/\kY c=[]:=by
 have e:dU c=(qe,(bJ c).2):=by rw[dU,if_neg h,if_pos h1]
 exact⟨e,by rw[kY,e,if_neg h1]⟩
theorem Qo{c:CV}(h: ¬q7 c=0)(h1:(bJ c).2=0)(h2:((bJ c).1.at_.length:Int)≠hH c):dU c=(qe,2)/\kY c=[]:=by
 have e:dU c=(qe,2):=by rw[dU,if_neg h,if_neg (fun g=>g h1),if_pos h2]
 exact⟨e,by rw[kY,e];rfl⟩
theorem Qp{c:CV}(h: ¬q7 c=0)(h1:(bJ c).2=0)(h2:((bJ c).1.at_.length:Int)=hH c)(h3:pf (pk (bJ c).1)≠0):dU c=(qe,2)/\kY c=[]:=by
 have e:dU c=(qe,2):=by rw[dU,if_neg h,if_neg (fun g=>g h1),if_neg (fun g=>g h2),if_pos h3]
 exact⟨e,by rw[kY,e];rfl⟩
theorem ZQ{c:CV}(h: ¬q7 c=0)(h1:(bJ c).2=0)(h2:((bJ c).1.at_.length:Int)=hH c)(h3:pf (pk (bJ c).1)=0):dU c=(⟨(bJ c).1,mI (pk (bJ c).1)⟩,0)/\kY c=pk (bJ c).1:=by
 have e:dU c=(⟨(bJ c).1,mI (pk (bJ c).1)⟩,0):=by rw[dU,if_neg h,if_neg (fun g=>g h1),if_neg (fun g=>g h2),if_neg (fun g=>g h3)]
 exact⟨e,by rw[kY,e,if_pos rfl]⟩
theorem ZR{c:CV}(h:(dU c).2=0): ¬q7 c=0/\(bJ c).2=0/\((bJ c).1.at_.length:Int)=hH c/\pf (pk (bJ c).1)=0:=by
 by_cases h0:q7 c=0
 ·
  rw[(Qm h0).1]at h;cases h
 by_cases h1:(bJ c).2=0
 ·
  by_cases h2:((bJ c).1.at_.length:Int)=hH c
  ·
   by_cases h3:pf (pk (bJ c).1)=0
   ·
    exact⟨h0,h1,h2,h3⟩
   rw[(Qp h0 h1 h2 h3).1]at h;cases h
  rw[(Qo h0 h1 h2).1]at h;cases h
 rw[(Qn h0 h1).1]at h;exact absurd h h1
def lA(f:FV):Bool:=decide ((dU {f.aG.ak with off:=false}).2=0)&&decide (f.aG.gen=(dU {f.aG.ak with off:=false}).1.aG.gen)&&decide (f.aG.last=(dU {f.aG.ak with off:=false}).1.aG.last)&&decide (f.aG.at_=(dU {f.aG.ak with off:=false}).1.aG.at_)&&decide (f.table=(dU {f.aG.ak with off:=false}).1.table)
theorem ZS{f:FV}:lA f=true↔(dU {f.aG.ak with off:=false}).2=0/\f.aG.gen=(dU {f.aG.ak with off:=false}).1.aG.gen/\f.aG.last=(dU {f.aG.ak with off:=false}).1.aG.last/\f.aG.at_=(dU {f.aG.ak with off:=false}).1.aG.at_/\f.table=(dU {f.aG.ak with off:=false}).1.table:=by
 simp only[lA,anc,decide_eq_true_eq,and_assoc]
def lB(f:FV)(l:List Ch):FV×Int:=
 if lA f=false then(f,1)
 else if gR f.table l≠0 then(f,gR f.table l)
 else if kv (dH f.table l) (hH f.aG.ak) (fI f.aG.ak.size)≠0 then(f,kv (dH f.table l) (hH f.aG.ak) (fI f.aG.ak.size))
 else if kW (kY {f.aG.ak with off:=false}) (lq (dH f.table l) (hH f.aG.ak) (fI f.aG.ak.size))=[]then(⟨f.aG,dH f.table l⟩,0)
 else(⟨(iq f.aG (kW (kY {f.aG.ak with off:=false}) (lq (dH f.table l) (hH f.aG.ak) (fI f.aG.ak.size)))).1,if(iq f.aG (kW (kY {f.aG.ak with off:=false}) (lq (dH f.table l) (hH f.aG.ak) (fI f.aG.ak.size)))).2≠0 then f.table else dH f.table l⟩,(iq f.aG (kW (kY {f.aG.ak with off:=false}) (lq (dH f.table l) (hH f.aG.ak) (fI f.aG.ak.size)))).2)
def ui(c:CV):FV×Int:=if q7 c=0 then(⟨⟨c,[],0,0⟩,[]⟩,1)else(⟨(nL c (hH c)).1,[]⟩,(nL c (hH c)).2)
theorem Cm{w0 w:World}{L:List aj}{a:Sl Rt}(h:Mem w0 (own aq 19 a.sv a.xs::L) w):Mem w0 (fz a::L) w:=EE (fun _ _ h=>h) (fun _ _=>trivial) h
theorem Fm{w0 w:World}{L:List aj}{f:c0}(h:Mem w0 (fz f.aG.ak::fz f.aG.at_::fz f.table::L) w):Mem w0 (fz f::L) w:=by
 refine Mem.freeze (es:=[fz f.aG.ak,fz f.aG.at_,fz f.table]) f ⟨⟨h.sat (fz f.aG.ak) (by simp),h.sat (fz f.aG.at_) (by simp)⟩,h.sat (fz f.table) (by simp)⟩ (fun k hk=>?_) h;rcases hk with(hk|hk)|hk
 ·
  exact⟨fz f.aG.ak,by simp,hk⟩
 ·
  exact⟨fz f.aG.at_,by simp,hk⟩
 exact⟨fz f.table,by simp,hk⟩
theorem Qq{w0 w:World}{L:List aj}{f:c0}(h:Mem w0 (fz f.aG.ak::own bw 1 f.aG.at_.sv f.aG.at_.xs::own aq 19 f.table.sv f.table.xs::L) w):Mem w0 (fz f::L) w:=by
 have h1:=xC (a:=f.aG.at_) (h.perm (List.Perm.swap _ _ _));have h2:=Cm (a:=f.table) (h1.perm ((List.Perm.cons _ (List.Perm.swap _ _ _)).trans (List.Perm.swap _ _ _)));exact Fm (h2.perm ((List.Perm.cons _ (List.Perm.swap _ _ _)).trans ((List.Perm.swap _ _ _).trans (List.Perm.cons _ (List.Perm.swap _ _ _)))))
theorem Fo{w0 w:World}{L:List aj}(h:Mem w0 L w):Mem w0 (fz mJ::L) w:=
 Mem.freeze (es:=[]) mJ ⟨⟨⟨vd,vd⟩,vd⟩,vd⟩ (fun k hk=>by
  rcases hk with(((⟨cr,_⟩|⟨x,hx,_⟩)|⟨cr,_⟩|⟨x,hx,_⟩)|⟨cr,_⟩|⟨x,hx,_⟩)|⟨cr,_⟩|⟨x,hx,_⟩
  all_goals first|exact absurd rfl cr|cases hx) h
theorem Ae{w0 w:World}{L:List aj}:Mem w0 L w->Mem w0 (fz (⟨Sv.none,[]⟩:Sl (Sl UInt8))::L) w:=
 Mem.freeze (es:=[]) _ vd (fun k hk=>by
  rcases hk with⟨cr,_⟩|⟨x,hx,_⟩
  ·
   exact absurd rfl cr
  cases hx)
theorem Qr(s:Int):0<=lV s/\lV s<=64:=by
 rw[lV,fI];split
 ·
  rename_i h;have:=B5.1 h;omega
 omega
theorem Qs(c:CV):hH c<=64:=by
 have:=Qr c.size;rw[hH,Cl];omega
theorem ZT(b p:Int):0<=xV b p/\xV b p<=448:=by
 rw[xV];split
 ·
  omega
 rename_i h;have h1:0<=b -4/\b -4<=28:=by omega
 have h2:1<=p/\p<=16:=by omega
 exact⟨Int.mul_nonneg h1.1 (by omega),Int.le_trans (ar2 h1.2 h2.2 (by omega) (by omega)) (by decide)⟩
theorem ZU{c:CV}(h:(bJ c).2=0):(bJ c).1.ak=c:=by
 obtain⟨_,_,e⟩:=IP h;rw[e]
theorem ZV{c:CV}(h:(bJ c).2=0):c.off=false:=by
 cases ho:c.off with
 |false=>rfl
 |true=>rw[bJ,if_neg (by rw[IN h];simp),if_pos ho]at h;cases h
theorem ZW{c:CV}(h:(bJ c).2=0):p0 (bJ c).1=true:=by
 have e:{(bJ c).1.ak with off:=false}=c:=by rw[ZU h,←ZV h]
 simp only[p0,e,h,decide_true,aq4]
theorem ZX(c:CV)(n:Int):(ll c n).length<=65536:=by
 rw[ll];split
 ·
  exact IH _
 simp
theorem ZY(v:VV):(pk v).length=v.at_.length:=by rw[pk,apQ]
theorem ZZ(c:CV)(n:Int):(ky c n).length<=65536:=by
 rw[ky];split
 ·
  simp
 exact ZX c n
theorem aaa(c:CV):(kY c).length<=64:=by
 rw[kY];split
 ·
  rename_i h;obtain⟨g0,g1,g2,g3⟩:=ZR h;have:=Qs c;rw[ZY];omega
 simp
def mK(f:FV):List (List UInt8):=kY {f.aG.ak with off:=false}
def Af(f:FV)(l:List Ch):Int:=kv (dH f.table l) (hH f.aG.ak) (fI f.aG.ak.size)
def l4(f:FV)(l:List Ch):List (List UInt8):=lq (dH f.table l) (hH f.aG.ak) (fI f.aG.ak.size)
theorem aab{f:FV}{l:List Ch}(h0:lA f=false):lB f l=(f,1):=by rw[lB,if_pos h0]
theorem Fp(f:FV)(l:List Ch):lB f l=(if lA f=false then(f,1)
 else if gR f.table l≠0 then(f,gR f.table l)
 else if Af f l≠0 then(f,Af f l)
 else if kW (mK f) (l4 f l)=[]then(⟨f.aG,dH f.table l⟩,0)
 else(⟨(iq f.aG (kW (mK f) (l4 f l))).1,if(iq f.aG (kW (mK f) (l4 f l))).2≠0 then f.table else dH f.table l⟩,(iq f.aG (kW (mK f) (l4 f l))).2)):=rfl
theorem aac{f:FV}{l:List Ch}(h0:lA f=true)(h1:gR f.table l≠0):lB f l=(f,gR f.table l):=by
 rw[Fp,if_neg (by rw[h0];simp),if_pos h1]
theorem aad{f:FV}{l:List Ch}(h0:lA f=true)(h1:gR f.table l=0)(h2:Af f l≠0):lB f l=(f,Af f l):=by
 rw[Fp,if_neg (by rw[h0];simp),if_neg (fun h=>h h1),if_pos h2]
theorem aae{f:FV}{l:List Ch}(h0:lA f=true)(h1:gR f.table l=0)(h2:Af f l=0)(h3:kW (mK f) (l4 f l)=[]):lB f l=(⟨f.aG,dH f.table l⟩,0):=by
 rw[Fp,if_neg (by rw[h0];simp),if_neg (fun h=>h h1),if_neg (fun h=>h h2),if_pos h3]
theorem aaf{f:FV}{l:List Ch}(h0:lA f=true)(h1:gR f.table l=0)(h2:Af f l=0)(h3: ¬kW (mK f) (l4 f l)=[]):lB f l=(⟨(iq f.aG (kW (mK f) (l4 f l))).1,if(iq f.aG (kW (mK f) (l4 f l))).2≠0 then f.table else dH f.table l⟩,(iq f.aG (kW (mK f) (l4 f l))).2):=by
 rw[Fp,if_neg (by rw[h0];simp),if_neg (fun h=>h h1),if_neg (fun h=>h h2),if_neg h3]
def Qu(f:FV):Bool:=bq f.aG.ak&&decide (f.aG.at_.length<=1000000)&&decide (f.table.length<=1000000)
end Go.Kb
namespace Go.ay
open Go.RowKit
theorem qf{P:Program}{fn:Func}{N:cc}{env:Env}{w0:World}{L:List aj}(hf:fn.results= #[]): ∀a w,cS N env a->Mem w0 L w->(results fn a.tmps).run P w= .ok (.tuple #[]) w:=fun a w _ _=>by
 simp[results,hf]
section
variable {P:Program} {w0:World} {env:Env}
theorem Fq{N:cc}{L:List aj}{d:Option Tmp}{ty:TypeId}{ps:String}{af:Array Edge}{gd:Option (Nat×Bool)}{t:TypeId}{x:Operand}{p:Addr}{v:Value}[ht:fc P t](hx:ev env x=some (.pointer (some p)))(hc:w0.cell? p=some v):Ry P N w0 env L ⟨d, .load t x,ty,ps,af,gd⟩ v:=
 yO ht hx fun w hw=>(hw.below.cell (by
  unfold World.cell? at hc
  cases ho:w0.heap[p.block]?with
  |none=>simp[ho]at hc
  |some o=>exact(aqT.1 ho).1)).trans hc
end
section
variable {P:Program} {N:cc} {w0:World} {env:Env} {L:List aj} {l:List Oper} {Q:Exit->Act->World->Prop} {rest:List Oper} {d:Option Tmp} {ty:TypeId} {ps:String} {af:Array Edge} {K:Value->List aj->Prop}
instance bK.one{v:Value}:bK #[v] 0 v:=⟨rfl⟩
theorem aag{t:TypeId}{x:Operand}{v:Value}(hc:v.cells= #[v])(hx:ev env x=some v)(hk: ∀b,Sq P N w0 l Q rest (ca env d (.pointer (some ⟨b,0,none⟩))) (an b #[v] t::L))(hd:cM N d=true:=by rfl):
  Sq P N w0 l Q (⟨d, .box t x,ty,ps,af,none⟩::rest) env L:=G1 hx (by rw[hc];exact hk) hd
theorem Qv{t:TypeId}{z:Value}[hz:dz P t z](hc:z.cells= #[z])(hk: ∀b,Sq P N w0 l Q rest (ca env d (.pointer (some ⟨b,0,none⟩))) (an b #[z] t::L))(hd:cM N d=true:=by rfl):
  Sq P N w0 l Q (⟨d, .alloc t,ty,ps,af,none⟩::rest) env L:=LL (z:=z) (by rw[hc];exact hk) hd
theorem Qw{t:TypeId}{x y:Operand}{i b:Nat}{u:Value}{T:TypeId}{v:Value}(hv:v.oneCell'=true)(hx:ev env x=some (.pointer (some ⟨b,0,none⟩)))(hy:ev env y=some v)[ht:fc P t][hh:Has L b #[u] T i]{L':List aj}[hu:eK L i (an b #[v] T) L'](hk:Sq P N w0 l Q rest env L'):
  Sq P N w0 l Q (⟨none, .store t x y,ty,ps,af,none⟩::rest) env L:=dR (cs':= #[v]) hx hy (by show 0<1;decide) hv rfl hk
end
theorem aah{P:Program}{N:cc}{w0:World}{env:Env}{L:List aj}{l:List Oper}{Q:Exit->Act->World->Prop}{rest:List Oper}{ty:TypeId}{ps:String}{af:Array Edge}{t:TypeId}{x y:Operand}{i k p:Nat}{s:Sv}{xs:List UInt8}{a v:UInt8}[ht:fc P t](hx:ev env x=some (.pointer (some ⟨s.b,p,none⟩)))(hy:ev env y=some (.int .u8 v.toNat))[q:di L s aP 1 xs i](ha:xs[k]? =some a)(fj:p=s.o+k*1){L':List aj}[hu:eK L i (own aP 1 s (xs.set k v)) L'](hk:Sq P N w0 l Q rest env L'):
  Sq P N w0 l Q (⟨none, .store t x y,ty,ps,af,none⟩::rest) env L:=
 ju (j:=0) (n:=1) (a':=v) ht.size hx hy (q:=q) (by omega) ha (by simp[Value.cells,Value.oneCell']) rfl (by omega) (by rfl) hk
variable {w0:World}{L:List aj}
theorem Mem.putObj{w:World}{e e':aj}{l:Nat}{o:Obj}(h:Mem w0 (e::L) w)(s9: ∀k,e'.fp k->e.fp k)(hl:e.fp l)
  (GH:e'.sat fun k=>(w.putObj l o).heap[k]?):Mem w0 (e'::L) (w.putObj l o):=
 h.change (i:=0) rfl s9 (fun k hk=>World.putObj_heap_other (fun tA=>hk (tA▸hl))) World.putObj_size ⟨rfl,rfl,rfl⟩ GH
section
variable {P:Program} {N:cc} {w0:World} {env:Env} {L:List aj} {Q:Exit->Act->World->Prop}
end
section
variable {P:Program} {n:Nat} {w0:World} {env:Env} {L:List aj} {Q:Exit->Act->World->Prop} {l:List Oper} {k:Nat} {rest:List Oper}
theorem drop_at{α:Type}{l rest:List α}{k:Nat}{o:α}(h:l.drop k=o::rest):l[k]? =some o/\l.drop (k+1)=rest:=by
 constructor
 ·
  have:=congrArg (·[0]?) h;simpa using this
 have:=congrArg (List.drop 1) h;simpa[aq5,Nat.add_comm]using this
end
def omap(P:Program)(k:TypeId){α β:Type}(cQ:α->Value)(dN:β->Value)(b:Nat)(f:α->Option β):aj:=
  ⟨fun i=>i=b,fun h=> ∃(es:Array MapEntry) (clock:Nat) (m:List (α×β)),h b=some (.map es clock)/\es.toList.map (fun e=>(e.key,e.val))=m.map (fun p=>(cQ p.1,dN p.2))/\
    (∀p∈m,∃l,keyOf P k (cQ p.1)=some l)/\(m.map Prod.fst).Nodup/\(∀x v,f x=some v↔(x,v)∈m),
   fun h h' e st=>by rw[e b rfl];exact st⟩
class Ag(P:Program)(t:TypeId)(k e:outParam TypeId):Prop where
  dZ:P.underlying t=some (.map k e)
class Cn(P:Program)(k:TypeId):Prop where
  K:Maps.Keyed P k
class Co{α:Type}(cQ:α->Value):Prop where
  inj: ∀{a b:α},cQ a=cQ b->a=b
class vS(P:Program)(L:List aj)(b:Nat){α β:outParam Type}(k:TypeId)(cQ:outParam (α->Value))(dN:outParam (β->Value))(f:outParam (α->Option β))(i:outParam Nat):Prop where
  h:L[i]? =some (omap P k cQ dN b f)
instance (priority:=high) vS.here {P:Program}{L:List aj}{b:Nat}{α β:Type}{k:TypeId}{cQ:α->Value}{dN:β->Value}{f:α->Option β}:vS P (omap P k cQ dN b f::L) b k cQ dN f 0:=⟨rfl⟩
instance vS.there{P:Program}{L:List aj}{e:aj}{b:Nat}{α β:Type}{k:TypeId}{cQ:α->Value}{dN:β->Value}{f:α->Option β}{i:Nat}[q:vS P L b k cQ dN f i]:vS P (e::L) b k cQ dN f (i+1):=⟨by simpa using q.h⟩
theorem Qx{P:Program}{k:TypeId}{α β:Type}{cQ:α→Value}{dN:β→Value}{f:α→Option β}[K:Cn P k][I:Co cQ]{es:Array MapEntry}{m:List (α×β)}(h1:es.toList.map (fun e=>(e.key,e.val))=m.map (fun p=>(cQ p.1,dN p.2)))
    (h2: ∀p∈m,∃l,keyOf P k (cQ p.1)=some l) (h3: ∀x v,f x=some v↔(x,v)∈m) {x:α} (hx: ∃l,keyOf P k (cQ x)=some l) (w:World):
    ((Instr.findKey k (cQ x) es.toList).run P w= .ok none w/\f x=none/\ ∀v,(x,v)∉m)\/ ∃(j:Nat) (v:β),(Instr.findKey k (cQ x) es.toList).run P w= .ok (some (j,dN v)) w/\m[j]? =some (x,v)/\f x=some v/\(es[j]?).map (·.key)=some (cQ x):=by
  have qU: ∀j:Nat,(es.toList[j]?).map (fun e=>(e.key,e.val))=(m[j]?).map (fun p=>(cQ p.1,dN p.2)):=fun j=>by rw[←apG,←apG,h1]
  have kF: ∀e∈es.toList,∃l,keyOf P k e.key=some l:=fun e he=>by
    obtain⟨j,hj,rfl⟩:=aqC he;have:=qU j;rw[apF hj]at this
    cases hm:m[j]?with
    |none=>rw[hm]at this;cases this
    |some p=>
     rw[hm]at this;simp only[aqh,aqR,ar9]at this;rw[this.1];exact h2 p (alM hm)
  obtain⟨lx,sJ⟩:=hx;rcases K.K.find w sJ es.toList kF with⟨hr,hn⟩|⟨j,e,hr,hj,hk⟩
  ·have kz: ∀v,(x,v)∉m:=fun v hv=>by
      obtain⟨j,hj,hje⟩:=aqC hv;have:=qU j;rw[apF hj,hje]at this
      cases he:es.toList[j]?with
      |none=>rw[he]at this;cases this
      |some e=>
       rw[he]at this;simp only[aqh,aqR,ar9]at this;exact hn e (alM he) this.1
   refine .inl ⟨hr,?_,kz⟩
   cases hf:f x with
   |none=>rfl
   |some v=>exact absurd ((h3 x v).1 hf) (kz v)
  ·have:=qU j
   rw[hj]at this
   cases hm:m[j]?with
   |none=>rw[hm]at this;cases this
   |some p=>
    rw[hm]at this;simp only[aqh,aqR,ar9]at this;have hp:p.1=x:=I.inj (this.1.symm.trans hk);refine .inr ⟨j,p.2,by rw[hr,this.2],by rw[hm,←hp],(h3 x p.2).2 (by rw[←hp];exact alM hm),?_⟩;have kg:es[j]? =some e:=by simpa using hj
    rw[kg,aqh,hk]
section
variable {P:Program} {N:cc} {w0:World} {env:Env} {L:List aj} {d:Option Tmp} {ty:TypeId} {ps:String} {af:Array Edge} {gd:Option (Nat×Bool)} {α β:Type} {cQ:α->Value} {dN:β->Value} {f:α->Option β}
theorem run_getObj_map{w:World}{b:Nat}{es:Array MapEntry}{clock:Nat}(h:w.heap[b]? =some (.map es clock)):(getObj b).run P w= .ok (.map es clock) w:=by simp[getObj,Sem.run,h]
theorem run_setObj_map{w:World}{b:Nat}{es:Array MapEntry}{clock:Nat}(o:Obj)(h:w.heap[b]? =some (.map es clock)):(setObj b o).run P w= .ok () (w.putObj b o):=by simp[setObj,Sem.run,h,World.putObj]
theorem Ju{t k e:TypeId}{m x:Operand}{b i:Nat}{z:β}{v:α}[ht:Ag P t k e][K:Cn P k][I:Co cQ][hz:dz P e (dN z)](hm:ev env m=some (.map (some b)))(hx:ev env x=some (cQ v))[q:vS P L b k cQ dN f i](hv: ∃l,keyOf P k (cQ v)=some l):
    Ry P N w0 env L ⟨d, .lookup t m x true,ty,ps,af,gd⟩ (.tuple #[dN ((f v).getD z), .bool (f v).isSome]):=fun a w ha hw=>by
  obtain⟨es,clock,ml,h0,h1,h2,_,h3⟩:=hw.get q.h;obtain⟨l,hl⟩:=hv;have hc:=K.K.check w es.isEmpty hl;simp only[execOp,ha.ev hm,ha.ev hx,Instr.lookup,Sem.run_bind,run_underlying ht.dZ,Result.andThen,run_getObj_map h0,Sem.run_pure,hc];rcases Qx (P:=P) (k:=k) h1 h2 h3 ⟨l,hl⟩ w with⟨hr,hf,_⟩|⟨j,u,hr,_,hf,_⟩
  ·simp only[hr,hf,Option.getD_none,Dr w hz,Sem.run_bind,Result.andThen,Sem.run_pure];rfl
  ·simp only[hr,hf,Option.getD_some,Sem.run_pure];rfl
end
section
variable {P:Program} {N:cc} {w0:World} {env:Env} {L:List aj} {l:List Oper} {Q:Exit->Act->World->Prop} {rest:List Oper} {d:Option Tmp} {ty:TypeId} {ps:String} {af:Array Edge} {α β:Type} {cQ:α->Value} {dN:β->Value} {f:α->Option β}
theorem Mem.Qy{w:World}(P:Program)(k:TypeId)(cQ:α->Value)(dN:β->Value)(h:Mem w0 L w):Mem w0 (omap P k cQ dN w.heap.size (fun _=>none)::L) (w.alloc (.map #[] 0)):=by
  refine h.call (E:=[omap P k cQ dN w.heap.size (fun _=>none)]) ⟨(Below.refl _ _).alloc (apm _) _,fun e he=>?_,fun e he j hj=>?_,by simp⟩
  ·obtain rfl:e=omap P k cQ dN w.heap.size (fun _=>none):=by simpa using he
   exact⟨#[],0,[],Below.Df w _,rfl,by simp,by simp,by simp⟩
  ·obtain rfl:e=omap P k cQ dN w.heap.size (fun _=>none):=by simpa using he
   have:j=w.heap.size:=hj;subst this;simp
theorem aai{t k e:TypeId}(cQ:α→Value)(dN:β→Value){r:Operand}{kk:IntKind}{n:Int}[ht:Ag P t k e](hr:ev env r=some (.int kk n))(hk: ∀b,Sq P N w0 l Q rest (ca env d (.map (some b))) (omap P k cQ dN b (fun _=>none)::L))(hd:cM N d=true:=by rfl):
    Sq P N w0 l Q (⟨d, .makeMap t (some r),ty,ps,af,none⟩::rest) env L:=
  lL rfl hd fun a w ha hw=>⟨_,_,_,by
    simp only[execOp,aqh,ha.ev hr,Instr.makeMap,Sem.run_bind,run_underlying ht.dZ,Result.andThen,Sem.run_pure,asInt,asIntOf,newObj,Sem.run];rfl,hw.Qy P k cQ dN,hk _⟩
theorem Qz{t k e:TypeId}(cQ:α→Value)(dN:β→Value)[ht:Ag P t k e](hk: ∀b,Sq P N w0 l Q rest (ca env d (.map (some b))) (omap P k cQ dN b (fun _=>none)::L))(hd:cM N d=true:=by rfl):
    Sq P N w0 l Q (⟨d, .makeMap t none,ty,ps,af,none⟩::rest) env L:=
  lL rfl hd fun a w ha hw=>⟨_,_,_,by
    simp only[execOp,Option.map_none,Instr.makeMap,Sem.run_bind,Result.andThen,Sem.run_pure,newObj,Sem.run];rfl,hw.Qy P k cQ dN,hk _⟩
theorem aaj{t k e:TypeId}{m x y:Operand}{b i:Nat}{v:α}{u:β}[DecidableEq α][ht:Ag P t k e][K:Cn P k][I:Co cQ](hm:ev env m=some (.map (some b)))(hx:ev env x=some (cQ v))(hy:ev env y=some (dN u))[q:vS P L b k cQ dN f i](hv: ∃l,keyOf P k (cQ v)=some l)
    {L':List aj} [hu:eK L i (omap P k cQ dN b (fun z=>if z=v then some u else f z)) L'] {a:Act} {w:World} (ha:cS N env a) (hw:Mem w0 L w):
    ∃w',(execOp a.eval ⟨none, .mapUpdate t m x y,ty,ps,af,none⟩).run P w= .ok .skip w'/\Mem w0 L' w':=by
  obtain⟨es,clock,ml,h0,h1,h2,cl,h3⟩:=hw.get q.h;obtain⟨lk,hl⟩:=hv;have hc:=K.K.check w false hl;have bu:=K.K.stays w hl;have step: ∀o:Obj,(omap P k cQ dN b (fun z=>if z=v then some u else f z)).sat (fun j=>(w.putObj b o).heap[j]?)->Mem w0 L' (w.putObj b o):=fun o ho=>by
    rw[←hu.h];exact hw.change q.h (fun j hj=>hj) (fun j hj=>World.putObj_heap_other (fun e=>hj e)) World.putObj_size ⟨rfl,rfl,rfl⟩ ho
  have bc:b<w.heap.size:=(aqT.1 h0).1;rcases Qx (P:=P) (k:=k) h1 h2 h3 ⟨lk,hl⟩ w with⟨hr,hf,kz⟩|⟨j,u0,hr,hj,hf,aak⟩
  ·refine⟨w.putObj b (.map (es.push {key:=cQ v,val:=dN u,born:=clock}) (clock+1)),?_,step _ ⟨_,_,ml++[(v,u)],World.putObj_heap_same bc,?_,?_,?_,?_⟩⟩
   ·simp only[execOp,ha.ev hm,ha.ev hx,ha.ev hy,Instr.mapUpdate,Sem.run_bind,run_underlying ht.dZ,Result.andThen,run_getObj_map h0,hc,hr,run_setObj_map _ h0,Sem.run_pure]
   ·simp[h1]
   ·intro p hp
    rcases apv.1 hp with hp|hp
    ·exact h2 p hp
    ·obtain rfl:p=(v,u):=by simpa using hp
     exact⟨lk,hl⟩
   ·rw[ap6,aqQ]
    refine⟨cl,by simp,fun x1 p8 y1 Jv e1=>?_⟩;obtain rfl:y1=v:=by simpa using Jv
    subst e1;obtain⟨p,hp,rfl⟩:=aqr.1 p8;exact kz p.2 hp
   ·intro x' v'
    show(if x'=v then some u else f x')=some v'↔_
    by_cases e:x'=v
    ·subst e;rw[if_pos rfl]
     constructor
     ·intro h;cases h;simp
     ·intro h
      rcases apv.1 h with h|h
      ·exact absurd h (kz v')
      ·simp at h;rw[h]
    ·rw[if_neg e,h3 x' v'];simp[e]
  ·have gU:j<ml.length:=(ad2.1 hj).1
   refine⟨w.putObj b (.map (es.modify j fun e=>{e with key:=cQ v,val:=dN u}) clock),?_,step _ ⟨_,_,ml.set j (v,u),World.putObj_heap_same bc,?_,?_,?_,?_⟩⟩
   ·simp only[execOp,ha.ev hm,ha.ev hx,ha.ev hy,Instr.mapUpdate,Sem.run_bind,run_underlying ht.dZ,Result.andThen,run_getObj_map h0,hc,hr,aak,Option.getD_some,bu,run_setObj_map _ h0,Sem.run_pure]
   ·refine ap2 fun n=>?_
    have:=congrArg (·[n]?) h1;simp only[apG]at this⊢;rw[aqe]
    by_cases e:j=n
    ·subst e
     rw[if_pos rfl,if_pos gU];rw[hj]at this
     cases he:es.toList[j]?with
     |none=>rw[he]at this;cases this
     |some e0=>
      have oJ:es[j]? =some e0:=by simpa using he
      simp[Array.getElem?_modify,oJ]
    ·rw[if_neg e,←this]
     simp[Array.getElem?_modify,e]
   ·intro p hp
    rcases aqd hp with hp|rfl
    ·exact h2 p hp
    ·exact⟨lk,hl⟩
   ·rw[arx]
    have:(ml.map Prod.fst)[j]? =some v:=by rw[apG,hj];rfl
    rw[show(ml.map Prod.fst).set j (v,u).1=ml.map Prod.fst from by
        refine ap2 fun n=>?_;rw[aqe]
        by_cases e:j=n
        ·subst e;rw[if_pos rfl,if_pos (by simpa using gU),this]
        ·rw[if_neg e]]
    exact cl
   ·intro x' v'
    have aal: ∀n p,ml[n]? =some p→p.1=v→n=j:=fun n p hn hp=>by
        have a1:(ml.map Prod.fst)[n]? =some v:=by rw[apG,hn,aqh,hp]
        have a2:(ml.map Prod.fst)[j]? =some v:=by rw[apG,hj];rfl
        exact(List.getElem?_inj (by simpa using(ad2.1 hn).1) cl).1 (a1.trans a2.symm)
    show(if x'=v then some u else f x')=some v'↔_
    by_cases e:x'=v
    ·subst e;rw[if_pos rfl]
     constructor
     ·intro h;cases h
      exact alM (i:=j) (by rw[aqe,if_pos rfl,if_pos gU])
     ·intro h
      obtain⟨n,hn⟩:=ap4.1 h;rw[aqe]at hn
      by_cases en:j=n
      ·rw[if_pos en,if_pos gU]at hn;simp only[aqR,ar9,true_and]at hn;rw[hn]
      ·rw[if_neg en]at hn;exact absurd (aal n _ hn rfl).symm en
    ·rw[if_neg e,h3 x' v']
     constructor
     ·intro h
      obtain⟨n,hn⟩:=ap4.1 h;refine alM (i:=n) ?_;rw[aqe,if_neg,hn];rintro rfl;rw[hj]at hn;simp only[aqR,ar9]at hn;exact e hn.1.symm
     ·intro h
      rcases aqd h with h|h
      ·exact h
      ·simp only[ar9]at h;exact absurd h.1 e
theorem Jw{t k e:TypeId}{m x y:Operand}{b i:Nat}{v:α}{u:β}[DecidableEq α][ht:Ag P t k e][K:Cn P k][I:Co cQ](hm:ev env m=some (.map (some b)))(hx:ev env x=some (cQ v))(hy:ev env y=some (dN u))[q:vS P L b k cQ dN f i](hv: ∃l,keyOf P k (cQ v)=some l)
    {L':List aj} [hu:eK L i (omap P k cQ dN b (fun z=>if z=v then some u else f z)) L'] (hk:Sq P N w0 l Q rest env L'):
    Sq P N w0 l Q (⟨none, .mapUpdate t m x y,ty,ps,af,none⟩::rest) env L:=
  Dy rfl rfl fun a w ha hw=>by
    obtain⟨w',h1,h2⟩:=aaj (t:=t) (k:=k) (e:=e) (ty:=ty) (ps:=ps) (af:=af) hm hx hy hv (L':=L') ha hw;exact⟨w',L',h1,h2,hk⟩
end
open Go.Kb
theorem Fs{w0 w:World}{L R:List aj}{e:aj}{i:Nat}(q:L[i]? =some e)(d:L.eraseIdx i=R)(h:Mem w0 L w):Mem w0 (e::R) w:=by
 have:=h.perm (nk q);rwa [d]at this
theorem lC{w0 w:World}{L R1 R2:List aj}{e1 e2:aj}{i j:Nat}(h1:L[i]? =some e1)(d1:L.eraseIdx i=R1)(h2:R1[j]? =some e2)(d2:R1.eraseIdx j=R2)(h:Mem w0 L w):Mem w0 (e1::e2::R2) w:=by
 subst d1;subst d2;exact h.perm ((nk h1).trans ((nk h2).cons _))
theorem aam{p:ba}(h:aZ p=true):IntKind.i64.wrap (1*2^min (4 -(p.len -4*((bF p:Nat):Int))).toNat IntKind.i64.bits)=((2^kO p:Nat):Int):=by
 obtain⟨h1,h2⟩:=BU h;have e:(4 -(p.len -4*((bF p:Nat):Int))).toNat=kO p:=rfl;rw[e];generalize kO p=x at h1
 match x,h1 with
 |0,_=>rfl
 |1,_=>rfl
 |2,_=>rfl
 |3,_=>rfl
 |4,_=>rfl
instance (priority:=low) ai.drop {L L':List aj}{e:aj}[k:ai L L']:ai (e::L) L':=⟨by
 obtain⟨R,hR⟩:=k.h;exact⟨e::R,(hR.cons e).trans are.symm⟩⟩
section
variable {P:Program} {N:cc} {w0:World} {env:Env} {L:List aj} {Q:Exit->Act->World->Prop} {d:Option Tmp} {ty:TypeId} {ps:String} {af:Array Edge} {gd:Option (Nat×Bool)} {K:Value->List aj->Prop}
theorem Ry.to{o:Oper}{v v':Value}(h:Ry P N w0 env L o v)(e:v=v'):Ry P N w0 env L o v':=e▸h
theorem Fu{f:FuncId}{x:Operand}{eS:Array Value}{xs:List Operand}{ts:Array TypeId}{vs:List Value}{v:Value}[hf:aE P f](hx:ev env x=some (.func (.func f) #[] eS))(ya:eJ env xs=some vs)
  (hc: ∀w,Mem w0 L w->Calls P f (vs++eS.toList).toArray w fun e w'=>e= .returned v/\Mem w [] w'):
  Yl P N w0 env L ⟨d, .call {callee:= .value x,args:=xs.toArray,argTypes:=ts},ty,ps,af,gd⟩ v:=fun a ha w hw=>by
 unfold Oper.quietAt;obtain⟨fn,h1,h2,h3⟩:=hf.fn;have Bc: ¬fn.body=none:=fun e=>by simp[e]at h2
 have uY: ¬fn.name= "runtime.NumGoroutine" :=by simpa using h3
 have e:(execOp a.eval ⟨d, .call {callee:= .value x,args:=xs.toArray,argTypes:=ts},ty,ps,af,gd⟩).run P w= .ok (.enter f (vs++eS.toList).toArray) w:=by
  have hm:=ha.eJ ya;simp[execOp,resolve,ha.ev hx,Deferred.ofValue,invoke,callFunc,h1,Bc,uY,Result.andThen,←hm]
 rw[e];exact⟨rfl,hc w hw⟩
theorem Jx{f:Fn}{xs:List Operand}{vs:List Value}(hx:eJ env xs=some vs):Ry P N w0 env L ⟨d, .makeFunc f #[] xs.toArray,ty,ps,af,gd⟩ (.func f #[] vs.toArray):=fun a w ha _=>by
 have hm:=ha.eJ hx;simp[execOp,Instr.makeFunc,Result.andThen,←hm]
instance (s:Sv):bK (rI s) 0 s.val:=⟨rfl⟩
instance (s:Sv):bK s.val.cells 0 s.val:=⟨by rw[Sv.iD];rfl⟩
variable {s:Sv} {xs:List Nd} {a:Nd}
theorem aan{t:TypeId}{x y:Operand}{i k p:Nat}{v:Int}[ht:fc P t](hx:ev env x=some (.pointer (some ⟨s.b,p,none⟩)))(hy:ev env y=some (.int .i64 v))[q:di L s cW 48 xs i](ha:xs[k]? =some a)(b:Nat)(hb:b<16)(fj:p=s.o+k*48+32+b){L':List aj}[hu:eK L i (own cW 48 s (xs.set k (a.vt b v))) L'](hk:K undef (L')):
  gO P N w0 env L ⟨none, .store t x y,ty,ps,af,none⟩ K:=
 vo (j:=32+b) (n:=1) (a':=a.vt b v) ht.size hx hy (q:=q) (by omega) ha (by simp[Value.cells,Value.oneCell']) rfl (by omega) (W8 a hb v) hk
end
end Go.ay
namespace Go.Proofs.YtkggjjnhnjjokaaGreatDoor
open Go.ay Go.Kb Go.RowKit
instance:dz Tryz.prog 97 (.agg (dL zx)):=⟨by kernel_rfl⟩
instance:dz Tryz.prog 180 (.agg (bS oR)):=⟨by kernel_rfl⟩
instance:dz Tryz.prog 59 (.agg (aU fY)):=⟨by kernel_rfl⟩
instance:dz Tryz.prog 5 (.int .u8 0):=⟨by kernel_rfl⟩
instance:dz Tryz.prog 53 (.slice none 0 0):=⟨by kernel_rfl⟩
variable {w0:World}{L:List aj}
instance alh{b:Int}{n:Int}{s:Int}:bY Tryz.prog 93 w0 L [.int .i64 b, .int .i64 n, .int .i64 s] (.bool (tO b n s)) (True):=⟨fun aA w hw=>by
 refine pS Tryz.func93 rfl Tryz.ntmps93 rfl ?_;refine V4 ?_;refine Gr fun w1 hw=>?_;exact⟨congrArg (fun b=>Ending.returned (Value.bool b)) (rfl),ai.mem hw⟩⟩
instance ali{c:Cp}[hc:aV w0 L c]:bY Tryz.prog 106 w0 L [.agg (aU c)] (.bool (bq (cv c))) (True):=⟨fun aA w hw=>by
 have hc:=hc.h w hw;have ka:cy w c:=⟨hc⟩;have eO:=gm c.blocks.xs;have bI:bq (cv c)=true↔tO c.blocks.xs.length c.ae c.size=true/\0<=c.ops/\c.ops<=eo/\c.bj.xs.length<=64/\ ∀b∈ij c.blocks.xs,oT c.ae c.size b=true:=by rw[eW];simp only[cv,eO]
 have vJ:eo=1099511627776:=rfl;refine cw Tryz.func106 rfl Tryz.ntmps106 rfl ?_;refine Gc ?_;refine bH rfl fun b1=>V5 ?_;refine Gb (fun h0=>?_) fun h0=>?_
 ·
  have hz:bq (cv c)=false:=by
   cases hk:bq (cv c)with
   |false=>rfl
   |true=>
    have g:=bI.1 hk;rw[g.1]at h0;simp only[aqW,false_or]at h0;omega
  refine al ?_;refine Gr fun w1 hw=>?_;exact Ge (hz.symm) hw
 have g0:tO c.blocks.xs.length c.ae c.size=true/\0<=c.ops/\c.ops<=eo/\c.bj.xs.length<=64:=by
  cases hk:tO c.blocks.xs.length c.ae c.size with
  |false=>rw[hk]at h0;simp at h0
  |true=>rw[hk]at h0;simp only[aqW,not_false_eq_true,true_and]at h0;exact⟨rfl,by omega,by omega,by omega⟩
 have gs:=kQ.1 g0.1;refine aT ?_;refine bA (X:=Nat) (fun zz=>[(35, .int .i64 (zz:Nat)),(1, .pointer (some ⟨b1,0,none⟩)),(33,c.blocks.sv.val),(34, .int .i64 (c.blocks.xs.length:Nat))]) (fun zz=>[an b1 (aU c) 59]) (fun zz=>zz<=c.blocks.xs.length/\ ∀j b,j<zz->(ij c.blocks.xs)[j]? =Option.some b->oT c.ae c.size b=true) (fun zz=>c.blocks.xs.length -zz) 0 ⟨Nat.zero_le _,fun j b hj=>by first|omega|(simp only[];omega)⟩ sb (fun w hw=>ai.mem hw) ?_;rintro i ⟨aQ,az⟩;refine al ?_;refine Gb (fun h1=>?_) fun h1=>?_
 ·
  refine jS ?_;obtain⟨x,hx⟩:=get_some (xs:=c.blocks.xs) (i:=i) oM;refine ag (aR rfl rfl i rfl oM) (ag (fC rfl i hx rfl) ?_);have alj:Mb x c.blocks:=⟨List.mem_of_getElem? hx⟩;refine bn fun b4=>V6 ?_;refine Gb (fun h2=>?_) fun h2=>?_
  ·
   have hz:bq (cv c)=false:=by
    cases hk:bq (cv c)with
    |false=>rfl
    |true=>
     have g:=gP.1 ((bI.1 hk).2.2.2.2 (bv x) (alM (lT hx)));simp only[bv,nw]at g;omega
   refine al ?_;refine Gr fun w1 hw=>?_;exact Ge (hz.symm) hw
  refine aT ?_;refine bA (X:=Nat) (fun zz=>[(70, .int .i64 (zz:Nat)),(1, .pointer (some ⟨b1,0,none⟩)),(33,c.blocks.sv.val),(34, .int .i64 (c.blocks.xs.length:Nat)),(35, .int .i64 (i:Nat)),(68,x.ae.sv.val),(69, .int .i64 (x.ae.xs.length:Nat))]) (fun zz=>[an b4 (bS x) 180,an b1 (aU c) 59]) (fun zz=>zz<=x.ae.xs.length/\ ∀k y,k<zz->(bv x).ae[k]? =Option.some y->(y.length:Int)=c.size) (fun zz=>x.ae.xs.length -zz) 0 ⟨Nat.zero_le _,fun k y hk=>by first|omega|(simp only[];omega)⟩ sb (fun w hw=>ai.mem hw) ?_;rintro j ⟨hM,fb⟩;refine al ?_;refine Gb (fun h3=>?_) fun h3=>?_
  ·
   refine jS ?_;obtain⟨y,hy⟩:=get_some (xs:=x.ae.xs) (i:=j) oM;refine ag (aR rfl rfl j rfl oM) (ag (bC (j:=0) rfl j hy rfl (by decide)) ?_);have alk:Mb y _:=⟨List.mem_of_getElem? hy⟩;refine dP ?_;refine Gb (fun h4=>?_) fun h4=>?_
   ·
    have hz:bq (cv c)=false:=by
     cases hk:bq (cv c)with
     |false=>rfl
     |true=>
      have g:=(gP.1 ((bI.1 hk).2.2.2.2 (bv x) (alM (lT hx)))).2.2.2.2.2 y.xs (alM (oS hy));omega
    refine al ?_;refine Gr fun w1 hw=>?_;exact Ge (hz.symm) hw
   refine al ?_;refine Gi ?_;exact aW (x:=(j)) (j+1) ⟨oF,fun k z hk hz=>if e:k=j then(by subst e;rw[show(bv x).ae=aL x.ae.xs from rfl,oS hy]at hz;cases hz;omega)else fb k z oF hz⟩ oF sb (fun w hw=>ai.mem hw)
  have zW:oT c.ae c.size (bv x)=true:=gP.2 ⟨by simp only[bv,nw];omega,by simp only[bv];omega,by simp only[bv];omega,by simp only[bv];omega,by simp only[bv];omega,fun y hy=>by
   obtain⟨k,hk⟩:=aqj hy;exact fb k y (by have h:=(ad2.1 hk).1;simp only[bv,nw]at h;omega) hk⟩
  refine al ?_;refine Gi ?_;exact aW (x:=(i)) (i+1) ⟨oF,fun j b hj hb=>if e:j=i then(by subst e;rw[lT hx]at hb;cases hb;exact zW)else az j b oF hb⟩ oF sb (fun w hw=>ai.mem hw)
 obtain rfl:i=c.blocks.xs.length:=by omega
 have hz:bq (cv c)=true:=bI.2 ⟨g0.1,g0.2.1,g0.2.2.1,g0.2.2.2,fun b hb=>by
  obtain⟨j,hj⟩:=aqj hb;exact az j b (by have:=(ad2.1 hj).1;omega) hj⟩
 refine al ?_;refine Gr fun w1 hw=>?_;exact⟨congrArg (fun b=>Ending.returned (Value.bool b)) (hz.symm),ai.mem hw⟩⟩
theorem aao{xs:List UInt8}{k i:Nat}(h:k+i<xs.length):(xs.take k++(List.replicate i 255++xs.drop (k+i))).set (k+i) 255=xs.take k++(List.replicate (i+1) 255++xs.drop (k+(i+1))):=by
 rw[aq0 _ _ (by rw[apk];omega),apk,arC oM,aqv,aq0 _ _ (by simp),ap5,aqM,aqE h,aq1,List.replicate_succ',apq,arc,aqK]
theorem aap(w0 w:World)(L:List aj)(rm:Sv)(k:Nat)(n:Nat)(cap:Nat)(xs:List UInt8)(hw:Mem w0 (own aP 1 rm xs::L) w)(aA:k+n<=xs.length/\n<=1000000):Calls Tryz.prog 94 #[.slice (some ⟨rm.b,rm.o+k,none⟩) n cap] w fun e w'=> ∃zz:Unit,e= .returned (.tuple #[])/\(True)/\Mem w0 (own aP 1 rm (xs.take k++(List.replicate n 255++xs.drop (k+n)))::L) w':=by
 obtain⟨eF,fU⟩:=aA;refine gG (args:=[_]) Tryz.func94 rfl Tryz.ntmps94 rfl hw ?_;change Cw _ _ _ _ _ [(0, .slice (some ⟨rm.b,rm.o+k,none⟩) n cap)] (own aP 1 rm xs::L);refine av ?_;refine ag (th rfl) (av ?_);refine bA (X:=Nat×List UInt8) (fun zz=>[(5, .int .i64 (zz.1:Nat)),(0, .slice (some ⟨rm.b,rm.o+k,none⟩) n cap),(4, .int .i64 (n:Nat))]) (fun zz=>own aP 1 rm zz.2::L) (fun zz=>zz.1<=n/\zz.2=xs.take k++(List.replicate zz.1 255++xs.drop (k+zz.1))) (fun zz=>n -zz.1) (0,xs) ⟨Nat.zero_le _,by simp⟩ sb (fun w hw=>ai.mem hw) ?_;rintro⟨i,zs⟩ ⟨aQ,az⟩;dsimp only;simp only at aQ az;have yb:zs.length=xs.length:=by rw[az];simp only[List.length_append,List.length_take,List.length_replicate,List.length_drop];omega
 refine al ?_;refine Gb (fun h0=>?_) fun h0=>?_
 ·
  refine aT ?_;refine ag (Ly (b:=rm.b) (o:=rm.o+k) (len:=n) (cap:=cap) rfl rfl oM oM) ?_;obtain⟨z,hz⟩:=get_some (xs:=zs) (i:=k+i) oM;refine ju (s:=rm) (n:=1) (k:=k+i) (j:=0) (a:=z) (a':=(255:UInt8)) (xs:=zs) (enc:=aP) (c:=1) (v:= .int .u8 255) oK rfl rfl oM hz (by simp[Value.cells,Value.oneCell']) rfl oM (by rfl) (al ?_);refine Gi ?_;exact aW (x:=(i,zs)) (i+1,zs.set (k+i) 255) ⟨oF,by rw[az];exact aao oF⟩ (by simp only;omega) sb (fun w hw=>ai.mem hw)
 obtain rfl:i=n:=by omega
 refine Gc ?_;refine eM (.inr rfl) (qf rfl) (fun w1 hw=>?_);exact⟨(),rfl,trivial,by rw[←az];exact ai.mem hw⟩
instance aaq{w0:World}{L L2:List aj}{i:Nat}{rm:Sv}{k:Nat}{n:Nat}{cap:Nat}{xs:List UInt8}[q:di L rm aP 1 xs i][d1:cm L i L2]:bE Tryz.prog 94 w0 L [.slice (some ⟨rm.b,rm.o+k,none⟩) n cap] (Unit) (fun zz=> .tuple #[]) (fun zz=>own aP 1 rm (xs.take k++(List.replicate n 255++xs.drop (k+n)))::L2) (fun zz=>True) (k+n<=xs.length/\n<=1000000):=⟨fun hp w hw=>aap w0 w L2 rm k n cap xs (Fs q.h d1.h hw) hp⟩
instance alm{s:Sv}{ss:List Bk}[hs:ct w0 L bS 4 s ss]:bE Tryz.prog 162 w0 L [s.val] (Sv) (fun zz=>zz.val) (fun zz=>own bS 4 zz ss::L) (fun zz=>True) (ss.length<=1000000):=⟨fun aA w hw=>Gk (fun zz=>[own bS 4 zz ss]) hw (by
 have hs:=hs.h w hw;have uj:Gv w s bS 4 ss:=⟨hs⟩;refine cw Tryz.func162 rfl Tryz.ntmps162 rfl ?_;refine au ?_;refine ag (tp Tryz.underlying56 rfl) (Gc ?_);refine Gb (fun h0=>?_) fun h0=>?_
 ·
  have e0:ss=[]:=apB.1 (by have:=hs.ok.nil h0;have:=hs.len;omega);refine al ?_;refine Gr fun w1 hw=>?_;exact⟨Sv.none,rfl,trivial,by rw[e0];exact(ai.mem hw:Mem w [] _).cO bS 4⟩
 refine Gc ?_;refine vc bS fun b5=>Gs ?_;refine jd (s:=⟨false,b5,0,0,0,none⟩) (enc:=bS) (ys:=ss) rfl rfl (by decide) (fun w hw=>ib (s:=s) Tryz.underlying56 (by decide) ((inferInstance:ct _ _ bS 4 s ss).h w hw)) (by simp only[apl];omega) (by simp only[apl];omega) fun s7 yc vT=>?_;refine av ?_;refine Gr fun w1 hw=>?_;exact⟨s7,rfl,trivial,by rw[apV]at hw;exact ai.mem hw⟩)⟩
instance aln{s:Sv}{ss:List Ft}[hs:ct w0 L dL 4 s ss]:bE Tryz.prog 107 w0 L [s.val] (Sv) (fun zz=>zz.val) (fun zz=>own dL 4 zz ss::L) (fun zz=>True) (ss.length<=1000000):=⟨fun aA w hw=>Gk (fun zz=>[own dL 4 zz ss]) hw (by
 have hs:=hs.h w hw;have uj:Gv w s dL 4 ss:=⟨hs⟩;refine cw Tryz.func107 rfl Tryz.ntmps107 rfl ?_;refine au ?_;refine ag (tp Tryz.underlying57 rfl) (Gc ?_);refine Gb (fun h0=>?_) fun h0=>?_
 ·
  have e0:ss=[]:=apB.1 (by have:=hs.ok.nil h0;have:=hs.len;omega);refine al ?_;refine Gr fun w1 hw=>?_;exact⟨Sv.none,rfl,trivial,by rw[e0];exact(ai.mem hw:Mem w [] _).cO dL 4⟩
 refine Gc ?_;refine vc dL fun b5=>Gs ?_;refine jd (s:=⟨false,b5,0,0,0,none⟩) (enc:=dL) (ys:=ss) rfl rfl (by decide) (fun w hw=>ib (s:=s) Tryz.underlying57 (by decide) ((inferInstance:ct _ _ dL 4 s ss).h w hw)) (by simp only[apl];omega) (by simp only[apl];omega) fun s7 yc vT=>?_;refine av ?_;refine Gr fun w1 hw=>?_;exact⟨s7,rfl,trivial,by rw[apV]at hw;exact ai.mem hw⟩)⟩
instance alo{ps:Sl (Sl UInt8)}[Cq:aV w0 L ps]:bE Tryz.prog 179 w0 L [ps.sv.val] (Sl (Sl UInt8)) (fun zz=>zz.sv.val) (fun zz=>eN zz::L) (fun zz=>aL zz.xs=aL ps.xs) (Od (aL ps.xs)):=⟨fun aA w hw=>Gk (fun zz=>[eN zz]) hw (by
 have Cq:=Cq.h w hw;have alp:cy w ps:=⟨Cq⟩;obtain⟨eF,fU⟩:=aA;have gM:=nw ps.xs;rw[gM]at eF;refine cw Tryz.func179 rfl Tryz.ntmps179 rfl ?_;refine au ?_;refine ag (tp Tryz.underlying178 rfl) (Gc ?_);refine Gb (fun h0=>?_) fun h0=>?_
 ·
  have e0:ps.xs=[]:=apB.1 (by have:=Cq.1.ok.nil h0;have:=Cq.1.len;omega);refine al ?_;refine Gr fun w1 hw=>?_;exact⟨⟨Sv.none,[]⟩,rfl,by rw[e0],Xn (Mem.cO (bU (τ:=UInt8)) 1 (ai.mem hw:Mem w [] _))⟩
 refine cx ?_;refine bA (X:=Nat×Nat) (fun zz=>[(15, .int .i64 (zz.1:Nat)),(3, .int .i64 (zz.2:Nat)),(0,ps.sv.val),(13,ps.sv.val),(14, .int .i64 (ps.xs.length:Nat))]) (fun zz=>[]) (fun zz=>zz.1<=ps.xs.length/\zz.2=((aL ps.xs).take zz.1).flatten.length) (fun zz=>ps.xs.length -zz.1) (0,0) ⟨Nat.zero_le _,by simp⟩ sb (fun w hw=>ai.mem hw) ?_;rintro⟨i,mm⟩ ⟨aQ,az⟩;dsimp only;simp only at aQ az;refine al ?_;refine Gb (fun h1=>?_) fun h1=>?_
 ·
  obtain⟨y,hy⟩:=get_some (xs:=ps.xs) (i:=i) oM;have QA:Mb y ps:=⟨List.mem_of_getElem? hy⟩;have Ah:=BZ (oS hy);have iJ:=B2 (aL ps.xs) (i+1);refine Gc ?_;refine ag (aR rfl rfl i rfl oM) (ag (bC (j:=0) rfl i hy rfl (by decide)) ?_);have alq:Mb y _:=⟨List.mem_of_getElem? hy⟩;refine nq ?_;refine Gi ?_;exact aW (x:=(i,mm)) (i+1,mm+y.xs.length) ⟨oF,by rw[az,Ah]⟩ (by simp only;omega) sb (fun w hw=>ai.mem hw)
 obtain rfl:i=ps.xs.length:=by omega
 rw[List.take_of_length_le oM]at az;have hN:mm=(aL ps.xs).flatten.length:=az;refine av ?_;refine rH (enc:=aP) (n:=0) (cap:=mm) 0 rfl rfl rfl rfl rfl oM oM oM fun vU=>au ?_;refine rH (enc:=bU (τ:=UInt8)) (n:=ps.xs.length) (cap:=ps.xs.length) (⟨Sv.none,[]⟩:Sl UInt8) rfl rfl rfl rfl rfl oM oM oM fun q8=>aT ?_;refine bA (X:=Nat×Nat×List UInt8×List (Sl UInt8)) (fun zz=>[(31, .int .i64 (zz.1:Nat)),(6,(⟨false,vU,0,zz.2.1,mm,none⟩:Sv).val),(7,(⟨false,q8,0,ps.xs.length,ps.xs.length,none⟩:Sv).val),(29,ps.sv.val),(30, .int .i64 (ps.xs.length:Nat))]) (fun zz=>[own aP 1 ⟨false,vU,0,zz.2.1,mm,none⟩ zz.2.2.1,own (bU (τ:=UInt8)) 1 ⟨false,q8,0,ps.xs.length,ps.xs.length,none⟩ zz.2.2.2]) (fun zz=>zz.1<=ps.xs.length/\zz.2.1=zz.2.2.1.length/\zz.2.2.1=((aL ps.xs).take zz.1).flatten/\zz.2.2.2=cX ⟨false,vU,0,mm,mm,none⟩ 0 ((aL ps.xs).take zz.1)++List.replicate (ps.xs.length -zz.1) (⟨Sv.none,[]⟩:Sl UInt8)) (fun zz=>ps.xs.length -zz.1) (0,0,List.replicate 0 0,List.replicate ps.xs.length (⟨Sv.none,[]⟩:Sl UInt8)) ⟨Nat.zero_le _,rfl,by simp,by simp[cX]⟩ sb (fun w hw=>ai.mem hw) ?_;rintro⟨i,m,r,zs⟩ ⟨aQ,az,aX,bX⟩;dsimp only;simp only at aQ az aX bX;refine al ?_;refine Gb (fun h2=>?_) fun h2=>?_
 ·
  obtain⟨y,hy⟩:=get_some (xs:=ps.xs) (i:=i) oM;have QA:Mb y ps:=⟨List.mem_of_getElem? hy⟩;have Ah:=BZ (oS hy);have iJ:=B2 (aL ps.xs) (i+1);have vV:r.length+y.xs.length<=mm:=by rw[hN,aX,←Ah];exact iJ
  have vW:=get_some (xs:=zs) (i:=i) (by rw[bX,af0,Iu,apk,ap5];omega);obtain⟨z,hz⟩:=vW;have yb:i<zs.length:=(ad2.1 hz).1;refine av ?_;refine ag (aR rfl rfl i rfl oM) (ag (bC (j:=0) rfl i hy rfl (by decide)) ?_);have alr:Mb y _:=⟨List.mem_of_getElem? hy⟩;refine fQ ?_;refine Xl (s:=⟨false,vU,0,m,mm,none⟩) (enc:=aP) (xs:=r) (ys:=y.xs) rfl rfl (fun w hw=>ib (s:=y.sv) Tryz.underlying53 (by decide) ((inferInstance:ct _ _ aP 1 y.sv y.xs).h w hw)) rfl (by simp only;omega) (by simp only;omega) ?_;refine nq ?_;refine ag (Ry.to (v':=(win (⟨false,vU,0,mm,mm,none⟩:Sv) r.length (r.length+y.xs.length)).val) (Nt (l:=r.length) (h:=(r++y.xs).length) (m:=(r++y.xs).length) rfl rfl rfl rfl rfl rfl rfl (by simp) (by simp) (by simp)) (by simp[win,Sv.sub,Sv.top])) (ag (aR rfl rfl i rfl oM) (DO (s:=⟨false,q8,0,ps.xs.length,ps.xs.length,none⟩) (xs:=zs) (k:=i) (a:=z) (⟨(win (⟨false,vU,0,mm,mm,none⟩:Sv) r.length (r.length+y.xs.length)),y.xs⟩:Sl UInt8) oK rfl rfl oM hz (al ?_)));refine Gi ?_;exact aW (x:=(i,m,r,zs)) (i+1,m+y.xs.length,r++y.xs,zs.set i ⟨(win (⟨false,vU,0,mm,mm,none⟩:Sv) r.length (r.length+y.xs.length)),y.xs⟩) ⟨oF,by rw[af0,az],by rw[aX,aps,oS hy];simp,by rw[bX];exact Xp (by rw[gM]) aX (oS hy)⟩ (by simp only;omega) sb (fun w hw=>ai.mem hw)
 obtain rfl:i=ps.xs.length:=by omega
 rw[apy oM]at aX bX;rw[aqM,List.replicate_zero,apZ]at bX;refine au ?_;refine Gr fun w1 hw=>?_;exact⟨⟨⟨false,q8,0,ps.xs.length,ps.xs.length,none⟩,zs⟩,rfl,by rw[bX,vu],Oc (rm:=⟨false,vU,0,mm,mm,none⟩) bX rfl (by rw[show m=mm by rw[az,aX,hN],aX]at hw;exact ai.mem hw)⟩)⟩
instance als{c:Cp}[hc:aV w0 L c]:bE Tryz.prog 105 w0 L [.agg (aU c)] (Cp) (fun zz=> .agg (aU zz)) (fun zz=>own bS 4 zz.blocks.sv zz.blocks.xs::aj.all (zz.blocks.xs.map fun b:Bk=>eN b.ae)::own dL 4 zz.bj.sv zz.bj.xs::L) (fun zz=>cv zz=cv c) (gn c):=⟨fun aA w hw=>Gk (fun zz:Cp=>[own bS 4 zz.blocks.sv zz.blocks.xs,aj.all (zz.blocks.xs.map fun b:Bk=>eN b.ae),own dL 4 zz.bj.sv zz.bj.xs]) hw (by
 have hc:=hc.h w hw;have ka:cy w c:=⟨hc⟩;obtain⟨eF,fU,eY⟩:=aA;refine cw Tryz.func105 rfl Tryz.ntmps105 rfl ?_;refine Gc ?_;refine bH rfl fun b1=>bn fun b2=>al ?_;refine aY rfl oM fun x6 q9=>Gs ?_;refine dR (cs':=aU (⟨c.ae,c.size,⟨x6,c.blocks.xs⟩,c.ops,c.off,c.bj⟩:Cp)) rfl rfl (by show 2<6;decide) (by first|rfl|exact Sv.one _) rfl (aT ?_);refine bA (X:=Nat×List Bk) (fun zz=>[(11, .int .i64 (zz.1:Nat)),(1, .pointer (some ⟨b1,0,none⟩)),(2, .pointer (some ⟨b2,0,none⟩)),(10, .int .i64 (c.blocks.xs.length:Nat))]) (fun zz=>[own bS 4 x6 zz.2,aj.all ((zz.2.take zz.1).map fun b:Bk=>eN b.ae),an b2 (aU fY) 59,an b1 (aU (⟨c.ae,c.size,⟨x6,zz.2⟩,c.ops,c.off,c.bj⟩:Cp)) 59]) (fun zz=>zz.1<=c.blocks.xs.length/\zz.2.length=c.blocks.xs.length/\ij zz.2=ij c.blocks.xs/\ ∀j,zz.1<=j->zz.2[j]? =c.blocks.xs[j]?) (fun zz=>c.blocks.xs.length -zz.1) (0,c.blocks.xs) ⟨Nat.zero_le _,rfl,rfl,fun _ _=>rfl⟩ sb (fun w hw=>by
  simp only[apK,aqu];exact ai.mem (Mem.xx hw)) ?_
 rintro⟨i,zs⟩ ⟨aQ,az,aX,bX⟩;dsimp only;simp only at aQ az aX bX;refine al ?_;refine Gb (fun h0=>?_) fun h0=>?_
 ·
  obtain⟨z,hz⟩:=get_some (xs:=zs) (i:=i) oM;have vX:Mb z c.blocks:=⟨List.mem_of_getElem? (by rw[←bX i (apm _)];exact hz)⟩;refine al ?_;refine da ?_;refine Eg (s:=x6) (enc:=bS) (c:=4) (xs:=zs) inferInstance oM fun hn6 hs6 ho6 hl6=>?_;refine iE [9,12,1003,1004,1006,1007,1008,1010,1011] [[],[],[],[],[3],[],[3,4],[3,4,6],[3,4,6,7],[3,4,6,7,8],[3,4,6,7,8,9],[3,4,6,7,8,9,10],[3,4,6,7,8,9,10,11]] [0,1,2,3,4,5,6,7,8,9,10,11,12] [an b1 (aU (⟨c.ae,c.size,⟨x6,zs⟩,c.ops,c.off,c.bj⟩:Cp)) 59] (fun _ hw=>ai.mem hw) oK oK (ar rfl (aK (o':=2) rfl rfl) (ar rfl (bQ rfl) (ar rfl (bf rfl) (ko rfl (aK (o':=2) rfl rfl) (ko rfl (bQ rfl) (ar rfl (bf rfl) (ko rfl (aR rfl rfl i rfl oM) (ko rfl (aK rfl rfl) (ko rfl (bC (j:=0) rfl i hz rfl (by decide)) (c8 rfl (om rfl (eY z vX.h) fun lD yd=>⟨fun _ hw=>ai.mem hw,?_⟩)))))))))));refine ko rfl (lg (s:=x6) (i:=i) rfl rfl rfl ho6 oM) (ko rfl (aK rfl rfl) ?_);refine c8 rfl (vo (n:=1) (k:=i) (j:=0) (a:=z) (a':=({z with ae:=lD}:Bk)) (xs:=zs) (enc:=bS) (c:=4) (v:=lD.sv.val) oK rfl rfl rfl hz (by rw[Sv.iD];simp[Sv.one]) (by rw[Sv.iD];rfl) (by decide) (by rw[Sv.iD];rfl) ⟨fun _ hw=>ai.mem hw,?_⟩)
  refine al ?_;refine Gi ?_;exact aW (x:=(i,zs)) (i+1,zs.set i ({z with ae:=lD}:Bk)) ⟨oF,by rw[ap8];exact az,by rw[xF,←aX,show bv ({z with ae:=lD}:Bk)=bv z from by rw[bv,bv,yd],←xF,zE hz],fun j hj=>by rw[aqG oF];exact bX j oF⟩ (by simp only;omega) sb (fun w hw=>by
   have h1:=Mem.zC (e:=eN lD) (es:=(zs.take i).map fun b:Bk=>eN b.ae) (ai.mem hw:Mem _ (eN lD::aj.all ((zs.take i).map fun b:Bk=>eN b.ae)::[own bS 4 x6 (zs.set i ({z with ae:=lD}:Bk)),an b2 (aU fY) 59,an b1 (aU (⟨c.ae,c.size,⟨x6,zs⟩,c.ops,c.off,c.bj⟩:Cp)) 59]) _)
   rw[Xx (z':=({z with ae:=lD}:Bk)) hz]at h1
   exact(ai.mem h1:Mem _ [own bS 4 x6 (zs.set i ({z with ae:=lD}:Bk)),aj.all (((zs.set i ({z with ae:=lD}:Bk)).take (i+1)).map fun b:Bk=>eN b.ae),an b2 (aU fY) 59,an b1 (aU (⟨c.ae,c.size,⟨x6,zs⟩,c.ops,c.off,c.bj⟩:Cp)) 59] _))
 obtain rfl:i=zs.length:=by omega
 rw[apy (apm _)]at*;refine av ?_;refine ag (Ry.to (v':=c.bj.sv.val) (bQ rfl) rfl) (aY rfl oM fun Ai Jy=>Gs ?_);refine dR (cs':=aU (⟨c.ae,c.size,⟨x6,zs⟩,c.ops,c.off,⟨Ai,c.bj.xs⟩⟩:Cp)) rfl rfl (by show 5<6;decide) (by first|rfl|exact Sv.one _) rfl (au ?_);refine Gr fun w1 hw=>?_;exact⟨⟨c.ae,c.size,⟨x6,zs⟩,c.ops,c.off,⟨Ai,c.bj.xs⟩⟩,rfl,by simp only[cv,aX],ai.mem hw⟩)⟩
instance alu{c:Cp}{b:Int}[hc:aV w0 L c]:bY Tryz.prog 298 w0 L [.agg (aU c), .int .i64 b] (.bool (lU (cv c) b)) (True):=⟨fun aA w hw=>by
 have hc:=hc.h w hw;have ka:cy w c:=⟨hc⟩;refine cz Tryz.func298 rfl Tryz.ntmps298 rfl ?_;refine Gc ?_;refine bH rfl fun b2=>Nl ?_;refine Gr fun w1 hw=>?_;exact⟨congrArg (fun b=>Ending.returned (Value.bool b)) ((by simp only[lU,cv,gm])),ai.mem hw⟩⟩
instance alv{c:Cp}[hc:aV w0 L c]:bY Tryz.prog 299 w0 L [.agg (aU c)] (.tuple #[.agg (dL ((bM (cv c)).1)), .bool ((bM (cv c)).2)]) (c.bj.xs.length<=1000000):=⟨fun aA w hw=>by
 have hc:=hc.h w hw;have ka:cy w c:=⟨hc⟩;refine cw Tryz.func299 rfl Tryz.ntmps299 rfl ?_;refine Gc ?_;refine bH rfl fun b1=>bn fun b2=>cx ?_;refine bA (X:=Nat) (fun zz=>[(9, .int .i64 (zz:Nat)),(1, .pointer (some ⟨b1,0,none⟩)),(2, .pointer (some ⟨b2,0,none⟩)),(7,c.bj.sv.val),(8, .int .i64 (c.bj.xs.length:Nat))]) (fun zz=>[an b2 (dL zx) 97,an b1 (aU c) 59]) (fun zz=>zz<=c.bj.xs.length/\ ∀j f,j<zz->c.bj.xs[j]? =Option.some f->f.op≠c.ops) (fun zz=>c.bj.xs.length -zz) 0 ⟨Nat.zero_le _,fun j f hj=>by first|omega|(simp only[];omega)⟩ sb (fun w hw=>ai.mem hw) ?_;rintro i ⟨aQ,az⟩;refine al ?_;refine Gb (fun h0=>?_) fun h0=>?_
 ·
  refine jS ?_;obtain⟨f,hf⟩:=get_some (xs:=c.bj.xs) (i:=i) oM;refine ag (aR rfl rfl i rfl oM) (ag (fC rfl i hf rfl) (bn fun b5=>dP ?_));refine Gb (fun h1=>?_) fun h1=>?_
  ·
   have hs:bM (cv c)=(f,f.cut||f.fail):=Xz hf az h1;refine Gi ?_;refine iE [7] [[],[],[],[],[],[],[],[],[7]] [0,1,2,3,4,5,6,7,8] [an b5 (dL f) 97,an b1 (aU c) 59] (fun _ hw=>ai.mem hw) oK oK (ar rfl (fW rfl) (ar rfl (aK (o':=2) rfl rfl) (ar rfl (bQ rfl) (ar rfl (bf rfl) (Nh rfl rfl rfl rfl (fun hg=>(Ry.yl (aK (o':=1) rfl rfl))) (Nh rfl rfl rfl rfl (fun hg=>(Ry.yl (bQ (aw hg rfl)))) (ar rfl (wT rfl rfl rfl) (c8 rfl (np rfl rfl ⟨fun _ hw=>ai.mem hw,?_⟩)))))))));refine ar rfl (gN rfl) (Gc ?_);refine Gr fun w1 hw=>?_;exact⟨(by rw[hs]),ai.mem hw⟩
  refine al ?_;refine Gi ?_;exact aW (x:=(i)) (i+1) ⟨oF,fun j g hj hg=>if e:j=i then(by subst e;rw[hf]at hg;cases hg;exact h1)else az j g oF hg⟩ oF sb (fun w hw=>ai.mem hw)
 obtain rfl:i=c.bj.xs.length:=by omega
 have hs:bM (cv c)=(zx,false):=Xy (fun f hf=>by
  obtain⟨j,hj⟩:=aqj hf;exact az j f (ad2.1 hj).1 hj)
 refine Gc ?_;refine ag (cN (v:= .agg (dL zx)) rfl (fun w=>by kernel_rfl)) (al ?_);refine Gr fun w1 hw=>?_;exact⟨(by rw[hs]),ai.mem hw⟩⟩
instance alw{f:Ft}:bY Tryz.prog 300 w0 L [.agg (dL f)] (.tuple #[.bool f.cut, .int .i64 (oU f)]) (True):=⟨fun aA w hw=>by
 refine cw Tryz.func300 rfl Tryz.ntmps300 rfl ?_;refine Gc ?_;refine bH rfl fun b1=>aT ?_;refine Gb (fun h0=>?_) fun h0=>?_
 ·
  refine au ?_;refine Gr fun w1 hw=>?_;exact⟨(by rw[oU,if_pos h0,h0]),ai.mem hw⟩
 refine au ?_;refine Gr fun w1 hw=>?_;exact⟨(by rw[oU,if_neg (by rw[h0];simp),h0]),ai.mem hw⟩⟩
instance alx{c:Cp}{b:Int}[hc:aV w0 L c]:bE Tryz.prog 301 w0 L [.agg (aU c), .int .i64 b] (Cp) (fun zz=> .tuple #[.agg (aU zz), .int .i64 (rZ (cv c) b)]) (fun zz=>fz zz::L) (fun zz=>cv zz=qQ (cv c) b) (gn c):=⟨fun aA w hw=>Gk (fun zz=>[fz zz]) hw (by
 have hc:=hc.h w hw;have ka:cy w c:=⟨hc⟩;have kb:gn c:=aA;obtain⟨eF,fU,eY⟩:=aA;refine cz Tryz.func301 rfl Tryz.ntmps301 rfl ?_;refine Gc ?_;refine bH rfl fun b2=>bn fun b4=>al ?_;refine aY rfl (by assumption) fun x8 pn=>bn fun b6=>cx ?_;refine Gb (fun h0=>?_) fun h0=>?_
 ·
  have hE:rZ (cv c) b=1:=by rw[rZ,if_neg (by rw[h0];simp)]
  refine aH ?_;refine Gr fun w1 hw=>?_;exact⟨x8,by rw[hE],by rw[pn,qQ,if_neg (by rw[hE];decide)],nC x8 (ai.mem hw)⟩
 have hk:lU (cv c) b=true:=h0;have hh:=hk;have QB:=(ny.1 hh).2;have eO:x8.blocks.xs.length=c.blocks.xs.length:=by have:=congrArg (fun v:CV=>v.blocks.length) pn;simpa only[cv,gm]using this
 have Cr:x8.ops=c.ops:=congrArg CV.ops pn;have nN:(cv c).blocks.length=c.blocks.xs.length:=gm _;obtain⟨B,hB⟩:=get_some (xs:=x8.blocks.xs) (i:=b.toNat) oM;have mL:b.toNat<x8.blocks.xs.length:=(ad2.1 hB).1;have eu:bv B=aM (cv c) b:=by
  have h1:=EG hh;have h2:=lT hB;rw[show ij x8.blocks.xs=(cv c).blocks from congrArg CV.blocks pn,h1]at h2;exact(api h2).symm
 have fJ:oT c.ae c.size (bv B)=true:=by rw[eu];exact xD hh
 obtain⟨o1,o2,o3,o4,o5,o6⟩:=gP.1 fJ;have hO:=kQ.1 (eW.1 (ny.1 hh).1).1;have Cs:=(eW.1 (ny.1 hh).1).2.1;simp only[bv,cv]at o1 o2 o3 o4 o5 o6 hO Cs;have Fv:=nw B.ae.xs;refine au ?_;refine Gb (fun h1=>?_) fun h1=>?_
 ·
  have hE:rZ (cv c) b=7:=by rw[rZ,if_pos hk,if_pos (show(cv c).off=true from h1)]
  refine aH ?_;refine Gr fun w1 hw=>?_;exact⟨x8,by rw[hE],by rw[pn,qQ,if_neg (by rw[hE];decide)],nC x8 (ai.mem hw)⟩
 have hE:rZ (cv c) b=0:=by rw[rZ,if_pos hk,if_neg (by rw[show(cv c).off=false from h1];simp)]
 refine au ?_;refine ag (aR rfl rfl b.toNat oM mL) (ag (aK rfl rfl) (ju (s:=x8.blocks.sv) (n:=1) (k:=b.toNat) (j:=3) (a:=B) (a':=(⟨B.ae,B.used,B.bB,true⟩:Bk)) (xs:=x8.blocks.xs) (enc:=bS) (c:=4) (v:= .bool true) oK rfl rfl rfl hB (by simp[Value.cells,Value.oneCell']) (by rfl) (by decide) (by rfl) (aH ?_)));refine Gr fun w1 hw=>?_;exact⟨(⟨x8.ae,x8.size,⟨x8.blocks.sv,x8.blocks.xs.set b.toNat (⟨B.ae,B.used,B.bB,true⟩:Bk)⟩,x8.ops,x8.off,x8.bj⟩:Cp),by rw[hE];rfl,by rw[XG pn eu,qQ,if_pos hE],nC (⟨x8.ae,x8.size,⟨x8.blocks.sv,x8.blocks.xs.set b.toNat (⟨B.ae,B.used,B.bB,true⟩:Bk)⟩,x8.ops,x8.off,x8.bj⟩:Cp) (by
  simp only[XF hB (B':=(⟨B.ae,B.used,B.bB,true⟩:Bk)) rfl];exact ai.mem hw)⟩)⟩
instance aly{c:Cp}{fs:Sv}{ra:List Ft}[hc:aV w0 L c][Jz:ct w0 L dL 4 fs ra]:bE Tryz.prog 42 w0 L [.agg (aU c),fs.val] (Cp) (fun zz=> .tuple #[.agg (aU zz), .int .i64 (vA (cv c) ra)]) (fun zz=>fz zz::L) (fun zz=>cv zz=BY (cv c) ra) (gn c):=⟨fun aA w hw=>Gk (fun zz=>[fz zz]) hw (by
 have hc:=hc.h w hw;have Jz:=Jz.h w hw;have ka:cy w c:=⟨hc⟩;have alz:Gv w fs dL 4 ra:=⟨Jz⟩;have kb:gn c:=aA;obtain⟨eF,fU,eY⟩:=aA;refine cz Tryz.func42 rfl Tryz.ntmps42 rfl ?_;refine Gc ?_;refine bH rfl fun b2=>bn fun b4=>al ?_;refine aY rfl (by assumption) fun x8 pn=>bn fun b6=>lR ?_;refine Gb (fun h0=>?_) fun h0=>?_
 ·
  have hE:vA (cv c) ra=1:=by rw[vA,if_neg (fun h=>by rw[h.1]at h0;simp only[aqW,false_or]at h0;omega)]
  refine aH ?_;refine Gr fun w1 hw=>?_;exact⟨x8,by rw[hE],by rw[pn,BY,if_neg (by rw[hE];decide)],nC x8 (ai.mem hw)⟩
 have hE:vA (cv c) ra=0:=by
  rw[vA,if_pos]
  cases hk:bq (cv c)with
  |false=>rw[hk]at h0;simp at h0
  |true=>exact⟨rfl,by rw[hk]at h0;simp only[aqW,not_false_eq_true,true_and]at h0;omega⟩
 have dw:ra.length<=64:=by
  by_cases h9:bq (cv c)=true/\ra.length<=64
  ·
   exact h9.2
  rw[vA,if_neg h9]at hE;cases hE
 refine av ?_;refine dR (cs':=aU (⟨x8.ae,x8.size,x8.blocks,x8.ops,false,x8.bj⟩:Cp)) rfl rfl (by show 4<6;decide) (by first|rfl|exact Sv.one _) rfl (av ?_);refine aY rfl oM fun gK ye=>Gs ?_;refine dR (cs':=aU (⟨x8.ae,x8.size,x8.blocks,x8.ops,false,⟨gK,ra⟩⟩:Cp)) rfl rfl (by show 5<6;decide) (by first|rfl|exact Sv.one _) rfl (aH ?_);refine Gr fun w1 hw=>?_;exact⟨(⟨x8.ae,x8.size,x8.blocks,x8.ops,false,⟨gK,ra⟩⟩:Cp),by rw[hE],by rw[BY,if_pos hE,←pn];rfl,nC (⟨x8.ae,x8.size,x8.blocks,x8.ops,false,⟨gK,ra⟩⟩:Cp) (ai.mem hw)⟩)⟩
instance alA{b:Sv}{bs:List UInt8}[hb:ct w0 L aP 1 b bs]:bY Tryz.prog 269 w0 L [.int .u32 0,b.val] (.int .u32 (pT bs:Nat)) (True):=⟨fun aA w hw=>by
 have hb:=hb.h w hw;have yf:Gv w b aP 1 bs:=⟨hb⟩;have iO:=hb.bd;refine cz Tryz.func269 rfl Tryz.ntmps269 rfl ?_;refine au ?_;refine ag (Oz (p:=0) rfl rfl (by decide)) (aT ?_);refine bA (X:=Nat) (fun zz=>[(13, .int .i64 (zz:Nat)),(5, .int .u32 (jT 4294967295 (bs.take zz):Nat)),(11,b.val),(12, .int .i64 (bs.length:Nat))]) (fun zz=>[]) (fun zz=>zz<=bs.length) (fun zz=>bs.length -zz) 0 (apE _) sb (fun w hw=>ai.mem hw) ?_;rintro i hi;have bc:jT 4294967295 (bs.take i)<2^32:=Ej (by decide) _;refine al ?_;refine Gb (fun h0=>?_) fun h0=>?_
 ·
  obtain⟨y,he⟩:=get_some (xs:=bs) (i:=i) oM;have hy:=y.toNat_lt;have dI:jT 4294967295 (bs.take i)^^^y.toNat<2^32:=arS (Ej (by decide) _) oM;refine Gc ?_;refine ag (aR rfl rfl i rfl oM) (ag (bC (j:=0) rfl i he rfl (by decide)) (au ?_));refine ag (iA rfl (by simp only[nb];omega)) (ag (LH rfl rfl rfl rfl (by simp only[nb];omega) (by simp only[nb];omega)) (au ?_));refine bA (X:=Nat) (fun zz=>[(21, .int .i64 (zz:Nat)),(5, .int .u32 ((nu (jT 4294967295 (bs.take i)^^^y.toNat) zz):Nat)),(11,b.val),(12, .int .i64 (bs.length:Nat)),(13, .int .i64 (i:Nat))]) (fun zz=>[]) (fun zz=>zz<=8) (fun zz=>8 -zz) 0 (apE _) sb (fun w hw=>ai.mem hw) ?_;rintro k hk;refine al ?_;refine Gb (fun h1=>?_) fun h1=>?_
  ·
   have xw:(nu (jT 4294967295 (bs.take i)^^^y.toNat) k)<2^32:=Ic dI k;have mM:(nu (jT 4294967295 (bs.take i)^^^y.toNat) k)/2<2^32:=by omega
   refine av ?_;refine ag (Ry.to (v':= .int .u32 (((nu (jT 4294967295 (bs.take i)^^^y.toNat) k)%2:Nat):Int)) (LG (p:=(nu (jT 4294967295 (bs.take i)^^^y.toNat) k)) (q:=1) rfl rfl rfl rfl (by simp only[nb];omega) (by decide)) (by rw[Nat.and_one_is_mod])) (al ?_);refine ag (oI (p:=(nu (jT 4294967295 (bs.take i)^^^y.toNat) k)) rfl rfl (by simp only[nb];omega) oM) (au ?_);refine ag (Ui (p:=3988292384) (q:=(nu (jT 4294967295 (bs.take i)^^^y.toNat) k)%2) rfl rfl rfl rfl (by simp only[nb];omega)) ?_;refine ag (Ry.to (v':= .int .u32 ((nu (jT 4294967295 (bs.take i)^^^y.toNat) (k+1):Nat):Int)) (LH (p:=(nu (jT 4294967295 (bs.take i)^^^y.toNat) k)/2^1) (q:=3988292384*((nu (jT 4294967295 (bs.take i)^^^y.toNat) k)%2)) rfl rfl rfl rfl (by simp only[nb];omega) (by simp only[nb];omega)) (by rw[nu,Ib];rcases Nat.mod_two_eq_zero_or_one (nu (jT 4294967295 (bs.take i)^^^y.toNat) k)with h|h<;>rw[h]<;>rfl)) ?_;refine au ?_;refine Gi ?_;exact aW (x:=(k)) (k+1) oF oF sb (fun w hw=>ai.mem hw)
  obtain rfl:k=8:=by omega
  refine al ?_;refine Gi ?_;exact aW (x:=(i)) (i+1) oF oF (Sub.cons rfl (Sub.cons (look_eq rfl (by rw[Wq he];rfl)) sb)) (fun w hw=>ai.mem hw)
 obtain rfl:i=bs.length:=by omega
 refine av ?_;refine ag (Oz (p:=jT 4294967295 (bs.take bs.length)) rfl rfl (Ej (by decide) _)) (av ?_);refine Gr fun w1 hw=>?_;exact⟨(by rw[apI];rfl),ai.mem hw⟩⟩
instance alB{b:Sv}{bs:List UInt8}[hb:ct w0 L aP 1 b bs]:bY Tryz.prog 229 w0 L [b.val] (.int .u32 (pT bs:Nat)) (True):=⟨fun aA w hw=>by
 have hb:=hb.h w hw;have yf:Gv w b aP 1 bs:=⟨hb⟩;refine cw Tryz.func229 rfl Tryz.ntmps229 rfl ?_;refine cx ?_;refine Gr fun w1 hw=>?_;exact⟨rfl,ai.mem hw⟩⟩
instance alC{n:Nat}{many:Nat}:bE Tryz.prog 112 w0 L [.int .u64 (n:Nat), .int .i64 (many:Nat)] (Sv) (fun zz=>zz.val) (fun zz=>own aP 1 zz (be n many)::L) (fun zz=>True) (n<2^64/\1<=many/\many<=8):=⟨fun aA w hw=>Gk (fun zz=>[own aP 1 zz (be n many)]) hw (by
 obtain⟨eF,fU,eY⟩:=aA;refine cz Tryz.func112 rfl Tryz.ntmps112 rfl ?_;refine nq ?_;refine Gb (fun h0=>?_) fun h0=>?_
 ·
  exfalso;omega
 refine av ?_;refine rH (enc:=aP) (n:=many) (cap:=many) 0 rfl rfl rfl rfl rfl oM oM oM fun yg=>al ?_;refine ag (Ry.to (v':= .int .i64 (many:Nat)) (tn rfl) (by simp)) (av ?_);refine bA (X:=Nat) (fun zz=>[(17, .int .i64 (zz:Nat)),(5,(⟨false,yg,0,many,many,none⟩:Sv).val),(0, .int .u64 (n:Nat)),(1, .int .i64 (many:Nat)),(16, .int .i64 (many:Nat))]) (fun zz=>[own aP 1 ⟨false,yg,0,many,many,none⟩ (List.replicate (many -zz) (0:UInt8)++be n zz)]) (fun zz=>zz<=many) (fun zz=>many -zz) 0 (apE _) sb (fun w hw=>by rw[show List.replicate (many -0) (0:UInt8)++be n 0=List.replicate many 0 from by rw[be,apZ,Nat.sub_zero]];exact ai.mem hw) ?_;rintro i hi;have eO:=nj n i;have zD:(List.replicate (many -i) (0:UInt8)++be n i).length=many:=by rw[af0,ap5,eO];omega
 refine al ?_;refine Gb (fun h1=>?_) fun h1=>?_
 ·
  refine lR ?_;refine ag (mX rfl rfl oM) (ag (Ry.to (v':= .int .u64 ((n/256^i:Nat):Int)) (oI (p:=n) rfl rfl (by simp only[nb];omega) oM) (by rw[show(8*(i:Int)).toNat=8*i by omega,Nat.pow_mul])) (ag (Bp rfl rfl) (ag (aR rfl rfl (many -1 -i) oM oM) ?_)));refine aah rfl rfl (by rw[apw (by rw[ap5];omega),ary,if_pos oM]) rfl ?_;refine al ?_;refine Gi ?_;exact aW (x:=(i)) (i+1) oF oF sb (fun w hw=>by rw[XK oM]at hw;exact ai.mem hw)
 have him:i=many:=by omega
 refine au ?_;refine Gr fun w1 hw=>?_;exact⟨⟨false,yg,0,many,many,none⟩,rfl,trivial,by rw[him,aqM,List.replicate_zero,apV]at hw;exact ai.mem hw⟩)⟩
instance alD{b:Sv}{bs:List UInt8}[hb:ct w0 L aP 1 b bs]:bY Tryz.prog 113 w0 L [b.val] (.int .u64 (de bs:Nat)) (bs.length<=7):=⟨fun aA w hw=>by
 have hb:=hb.h w hw;have yf:Gv w b aP 1 bs:=⟨hb⟩;refine cw Tryz.func113 rfl Tryz.ntmps113 rfl ?_;refine fQ ?_;refine bA (X:=Nat) (fun zz=>[(8, .int .i64 (zz:Nat)),(3, .int .u64 (de (bs.take zz):Nat)),(6,b.val),(7, .int .i64 (bs.length:Nat))]) (fun zz=>[]) (fun zz=>zz<=bs.length) (fun zz=>bs.length -zz) 0 (apE _) sb (fun w hw=>ai.mem hw) ?_;rintro i hi;refine al ?_;refine Gb (fun h0=>?_) fun h0=>?_
 ·
  obtain⟨y,he⟩:=get_some (xs:=bs) (i:=i) oM;have hy:=y.toNat_lt;have bc:de (bs.take i)<256^6:=ap0 (Hj bs i hi) (aqo (by decide) oM);refine Gc ?_;refine ag (aR rfl rfl i rfl oM) (ag (bC (j:=0) rfl i he rfl (by decide)) (al ?_));refine ag (XJ (p:=de (bs.take i)) rfl rfl rfl oM) (Gs ?_);refine ag (iA rfl (by simp only[nb];omega)) (ag (Be (p:=de (bs.take i)*256) (q:=y.toNat) rfl rfl rfl rfl (by simp only[nb];omega) (by simp only[nb];omega)) (au ?_));refine Gi ?_;exact aW (x:=(i)) (i+1) oF oF (Sub.cons rfl (Sub.cons (look_eq rfl (by rw[L5 he,L7 _ _ hy])) sb)) (fun w hw=>ai.mem hw)
 obtain rfl:i=bs.length:=by omega
 refine au ?_;refine Gr fun w1 hw=>?_;exact⟨(by rw[apI]),ai.mem hw⟩⟩
instance alE{n:Nat}:bE Tryz.prog 185 w0 L [.slice none 0 0, .int .i64 (n:Nat)] (Sv) (fun zz=>zz.val) (fun zz=>own aP 1 zz ([]:List UInt8)::L) (fun zz=>True) (n<=1000000000):=⟨fun aA w hw=>Gk (fun zz=>[own aP 1 zz ([]:List UInt8)]) hw (by
 refine cz Tryz.func185 rfl Tryz.ntmps185 rfl ?_;refine aT ?_;refine Gb (fun h0=>?_) fun h0=>?_
 ·
  exfalso;omega
 refine al ?_;refine ag (zq rfl) (Gs ?_);refine ag (th rfl) (cx ?_);refine Gb (fun h1=>?_) fun h1=>?_
 ·
  refine Gi ?_;refine av ?_;refine ag (zq rfl) (ag (Ry.to (v':= .slice none 0 0) (qC (s:=Sv.none) (h:=0) rfl rfl rfl Sv.yX (apm _)) rfl) (Gs ?_));refine Ih (enc:=aP) (k:=n) (0:UInt8) rfl rfl oM oM (by decide) rfl Tryz.underlying3 oM oM fun vY vZ Ct=>Gs ?_;refine ag (th rfl) (ag (qC (s:=⟨false,vY,0,n,vZ,none⟩) (h:=0) rfl rfl rfl ⟨(fun h=>by cases h),Ct,by simp only;omega,fun _=>rfl⟩ (apE _)) (aH ?_));refine Gr fun w1 hw=>?_;refine⟨Sv.sub ⟨false,vY,0,n,vZ,none⟩ 1 0 0,rfl,trivial,?_⟩;have eZ:=Mem.Ig (i:=0) (k:=0) hw rfl (apE _);rw[apK]at eZ;exact eZ
 have hn:n=0:=by omega
 refine au ?_;refine Gr fun w1 hw=>?_;exact⟨Sv.none,rfl,trivial,(ai.mem hw:Mem w [] _).cO aP 1⟩)⟩
instance alF{a:Sl (Sl UInt8)}[ha:aV w0 L a]:bE Tryz.prog 111 w0 L [a.sv.val] (Sv) (fun zz=>zz.val) (fun zz=>own aP 1 zz (jU a.xs)::L) (fun zz=>True) ((jU a.xs).length<=1000000):=⟨fun aA w hw=>Gk (fun zz=>[own aP 1 zz (jU a.xs)]) hw (by
 have ha:=ha.h w hw;have Fw:cy w a:=⟨ha⟩;have mU:=ha.1.bd;have dw:=Wu a.xs;refine cw Tryz.func111 rfl Tryz.ntmps111 rfl ?_;refine fQ ?_;refine bA (X:=Nat) (fun zz=>[(11, .int .i64 (zz:Nat)),(3, .int .i64 ((jU (a.xs.take zz)).length:Nat)),(0,a.sv.val),(9,a.sv.val),(10, .int .i64 (a.xs.length:Nat))]) (fun zz=>[]) (fun zz=>zz<=a.xs.length) (fun zz=>a.xs.length -zz) 0 (apE _) sb (fun w hw=>ai.mem hw) ?_;rintro i hi;have rT:=dw i;have jx:=dw (i+1);refine al ?_;refine Gb (fun h0=>?_) fun h0=>?_
 ·
  refine jS ?_;obtain⟨x,hx⟩:=get_some (xs:=a.xs) (i:=i) oM;refine ag (aR rfl rfl i rfl oM) (ag (bC (j:=0) rfl i hx rfl (by decide)) ?_);have QC:(jU (a.xs.take (i+1))).length=(jU (a.xs.take i)).length+x.xs.length:=by rw[Ek hx,af0]
  have Cu:Mb x _:=⟨List.mem_of_getElem? hx⟩;refine lR ?_;refine Gb (fun h1=>?_) fun h1=>?_
  ·
   exfalso;omega
  refine al ?_;refine Gi ?_;exact aW (x:=(i)) (i+1) oF oF (Sub.cons rfl (Sub.cons (look_eq rfl (by rw[Ek hx,af0];simp)) sb)) (fun w hw=>ai.mem hw)
 obtain rfl:i=a.xs.length:=by omega
 have lO:=dw a.xs.length;refine av ?_;refine aY rfl oM fun rb Fx=>aT ?_;refine bA (X:=Nat×Sv) (fun zz=>[(27, .int .i64 (zz.1:Nat)),(6,zz.2.val),(25,a.sv.val),(26, .int .i64 (a.xs.length:Nat))]) (fun zz=>[own aP 1 zz.2 (jU (a.xs.take zz.1))]) (fun zz=>zz.1<=a.xs.length) (fun zz=>a.xs.length -zz.1) (0,rb) (Nat.zero_le _) sb (fun w hw=>(ai.mem hw:Mem _ [own aP 1 rb ([]:List UInt8)] _)) ?_;rintro⟨k,s1⟩ hk;dsimp only;simp only at hk;have rT:=dw k;have jx:=dw (k+1);refine al ?_;refine Gb (fun h2=>?_) fun h2=>?_
 ·
  refine jS ?_;obtain⟨y,hy⟩:=get_some (xs:=a.xs) (i:=k) oM;refine ag (aR rfl rfl k rfl oM) (ag (bC (j:=0) rfl k hy rfl (by decide)) ?_);have QD:(jU (a.xs.take (k+1))).length=(jU (a.xs.take k)).length+y.xs.length:=by rw[Ek hy,af0]
  have JA:Mb y _:=⟨List.mem_of_getElem? hy⟩;refine au ?_;refine jd (s:=s1) (ys:=y.xs) rfl rfl (by decide) (fun w hw=>ib (s:=y.sv) Tryz.underlying53 (by decide) ((inferInstance:Hd _ _ y.sv aP 1 y.xs).h w hw)) oM oM fun Cv QE QF=>?_;refine au ?_;refine Gi ?_;exact aW (x:=(k,s1)) (k+1,Cv) (by simp only;omega) (by simp only;omega) sb (fun w hw=>by rw[Ek hy];exact ai.mem hw)
 obtain rfl:k=a.xs.length:=by omega
 refine au ?_;refine Gr fun w1 hw=>?_;exact⟨s1,rfl,trivial,by rw[apI]at hw;exact ai.mem hw⟩)⟩
instance alG{s:Sv}{ss:List UInt8}[hs:ct w0 L aP 1 s ss]:bE Tryz.prog 230 w0 L [s.val] (Sv) (fun zz=>zz.val) (fun zz=>own aP 1 zz ss::L) (fun zz=>True) (ss.length<=1000000):=⟨fun aA w hw=>Gk (fun zz=>[own aP 1 zz ss]) hw (by
 have hs:=hs.h w hw;have uj:Gv w s aP 1 ss:=⟨hs⟩;refine cw Tryz.func230 rfl Tryz.ntmps230 rfl ?_;refine au ?_;refine ag (tp Tryz.underlying53 rfl) (Gc ?_);refine Gb (fun h0=>?_) fun h0=>?_
 ·
  have e0:ss=[]:=apB.1 (by have:=hs.ok.nil h0;have:=hs.len;omega);refine al ?_;refine Gr fun w1 hw=>?_;exact⟨Sv.none,rfl,trivial,by rw[e0];exact(ai.mem hw:Mem w [] _).cO aP 1⟩
 refine Gc ?_;refine vc aP fun b5=>Gs ?_;refine jd (s:=⟨false,b5,0,0,0,none⟩) (ys:=ss) rfl rfl (by decide) (fun w hw=>ib (s:=s) Tryz.underlying53 (by decide) ((inferInstance:Hd _ _ s aP 1 ss).h w hw)) (by simp only[af0,apj,apl];omega) (by simp only[af0,apj,apl];omega) fun s7 yc vT=>?_;refine av ?_;refine Gr fun w1 hw=>?_;exact⟨s7,rfl,trivial,by simpa using hw⟩)⟩
instance:dz Tryz.prog 324 (.agg (cL nD)):=⟨by kernel_rfl⟩
instance alH{n:Int}:bY Tryz.prog 144 w0 L [.int .i64 n] (.bool (sa n)) (True):=⟨fun aA w hw=>by
 refine cw Tryz.func144 rfl Tryz.ntmps144 rfl ?_;refine lR ?_;refine Gr fun w1 hw=>?_;exact⟨congrArg (fun b=>Ending.returned (Value.bool b)) (rfl),ai.mem hw⟩⟩
instance alI{n:Int}:bY Tryz.prog 76 w0 L [.int .i64 n] (.int .i64 (fI n)) (True):=⟨fun aA w hw=>by
 refine cw Tryz.func76 rfl Tryz.ntmps76 rfl ?_;refine cx ?_;refine Gb (fun h0=>?_) fun h0=>?_
 ·
  refine al ?_;refine Gr fun w1 hw=>?_;exact Gf ((by rw[fI,if_neg (by rw[h0];simp)])) hw
 have hf:=B5.1 h0;refine aH ?_;refine Gr fun w1 hw=>?_;exact⟨congrArg (fun b=>Ending.returned (Value.int .i64 b)) ((by rw[fI,if_pos h0])),ai.mem hw⟩⟩
instance alJ{x:eC}{n:Int}[hx:aV w0 L x]:bY Tryz.prog 268 w0 L [.agg (cL x), .int .i64 n] (.bool (zJ (cE x) n)) (True):=⟨fun aA w hw=>by
 have hx:=hx.h w hw;have Aj:cy w x:=⟨hx⟩;refine cz Tryz.func268 rfl Tryz.ntmps268 rfl ?_;refine Gc ?_;refine bH rfl fun b2=>av ?_;refine fA oK oK (Gq ?_);refine pI (bP rfl trivial) (au ?_);refine dE rfl rfl rfl (fun hg=>(Ry.yl (bf (aw hg rfl)))) (G0 rfl rfl rfl (fun hg=>(Ry.yl (aK (o':=0) rfl rfl))) (G0 rfl rfl rfl (fun hg=>(Ry.yl (bQ (aw hg rfl)))) (G0 rfl rfl rfl (fun hg=>(Ry.yl (du (aw hg rfl) rfl rfl))) (dE rfl rfl rfl (fun hg=>(Ry.yl (wT (aw hg rfl) rfl (ti hg rfl)))) (VZ ?_)))));refine dE rfl rfl rfl (fun hg=>bP (cZ (aw hg rfl) fu) trivial) (au ?_);refine Gr fun w1 hw=>?_;exact⟨congrArg (fun b=>Ending.returned (Value.bool b)) ((by simp only[zJ,cE];rw[show decide ((x.gen.toNat:Int)<281474976710656)=decide (x.gen.toNat<281474976710656)from decide_eq_decide.2 oM];rfl)),ai.mem hw⟩⟩
instance alK{b:Sv}{bs:List UInt8}[hb:ct w0 L aP 1 b bs]:bY Tryz.prog 267 w0 L [b.val] (.bool (pY bs)) (True):=⟨fun aA w hw=>by
 have hb:=hb.h w hw;have yf:Gv w b aP 1 bs:=⟨hb⟩;have iO:=hb.bd;refine cw Tryz.func267 rfl Tryz.ntmps267 rfl ?_;refine cx ?_;refine bA (X:=Nat) (fun zz=>[(7, .int .i64 (zz:Nat)),(5,b.val),(6, .int .i64 (bs.length:Nat))]) (fun zz=>[]) (fun zz=>zz<=bs.length/\ ∀j x,j<zz->bs[j]? =Option.some x->x=255) (fun zz=>bs.length -zz) 0 ⟨Nat.zero_le _,fun j x hj=>by first|omega|(simp only[];omega)⟩ sb (fun w hw=>ai.mem hw) ?_;rintro i ⟨aQ,az⟩;refine al ?_;refine Gb (fun h0=>?_) fun h0=>?_
 ·
  refine jS ?_;obtain⟨y,hy⟩:=get_some (xs:=bs) (i:=i) oM;refine ag (aR rfl rfl i rfl oM) (ag (bC (j:=0) rfl i hy rfl (by decide)) (aH ?_));refine Gb (fun h1=>?_) fun h1=>?_
  ·
   have hz:pY bs=false:=by
    cases hk:pY bs with
    |false=>rfl
    |true=>exact absurd (congrArg UInt8.toNat (OD.1 hk y (alM hy))) (by intro e;exact h1 (by rw[e];rfl))
   refine al ?_;refine Gr fun w1 hw=>?_;exact Ge (hz.symm) hw
  have JB:y=255:=arE.1 (show y.toNat=255 by omega);refine al ?_;refine Gi ?_;exact aW (x:=(i)) (i+1) ⟨oF,fun j x hj hx=>if e:j=i then(by subst e;rw[hy]at hx;cases hx;exact JB)else az j x oF hx⟩ oF sb (fun w hw=>ai.mem hw)
 obtain rfl:i=bs.length:=by omega
 have hz:pY bs=true:=OD.2 fun x hx=>by
  obtain⟨j,hj⟩:=aqj hx;exact az j x (ad2.1 hj).1 hj
 refine al ?_;refine Gr fun w1 hw=>?_;exact⟨congrArg (fun b=>Ending.returned (Value.bool b)) (hz.symm),ai.mem hw⟩⟩
instance:dz Tryz.prog 314 (.agg (dS kR)):=⟨by kernel_rfl⟩
instance alL{n:Int}:bY Tryz.prog 143 w0 L [.int .i64 n] (.int .i64 (lV n)) (True):=⟨fun aA w hw=>by
 have hrr:sa n=true->24<=n/\n<=256:=fun h=>B5.1 h;have hrb:0<=fI n/\fI n<=240:=by
  by_cases h:sa n=true
  ·
   have:=hrr h;rw[fI,if_pos h];omega
  rw[fI,if_neg h];omega
 refine cw Tryz.func143 rfl Tryz.ntmps143 rfl ?_;refine aH ?_;refine ag (lf rfl rfl oM oM) (ag (GX rfl rfl) (av ?_));refine Gr fun w1 hw=>?_;exact⟨congrArg (fun b=>Ending.returned (Value.int .i64 b)) (rfl),ai.mem hw⟩⟩
instance alN{r:cY}{n:Int}[hr:aV w0 L r]:bY Tryz.prog 254 w0 L [.agg (dS r), .int .i64 n] (.bool (tW (db r) n)) (True):=⟨fun aA w hw=>by
 have hr:=hr.h w hw;have ghr:cy w r:=⟨hr⟩;have iO:=hr.1.bd;refine cz Tryz.func254 rfl Tryz.ntmps254 rfl ?_;refine Gc ?_;refine bH rfl fun b2=>av ?_;refine fA oK oK (Gq ?_);refine pI (bP rfl trivial) (lR ?_);refine eV rfl rfl rfl (fun hg=>bP (cZ (aw hg rfl) fu) trivial) (al ?_);refine Gb (fun h0=>?_) fun h0=>?_
 ·
  have hz:tW (db r) n=false:=by
   cases hk:tW (db r) n with
   |false=>rfl
   |true=>
    obtain⟨g1,g2,g3,g4⟩:=B6.1 hk;simp only[db]at g2 g3;omega
  refine al ?_;refine Gr fun w1 hw=>?_;exact Ge (hz.symm) hw
 have g0:fI n≠0/\r.gen.toNat<281474976710656/\(r.at_.xs.length:Int)<=lV n:=⟨by omega,by omega,by omega⟩;refine aT ?_;refine bA (X:=Nat) (fun zz=>[(26, .int .i64 (zz:Nat)),(24,r.at_.sv.val),(25, .int .i64 (r.at_.xs.length:Nat))]) (fun zz=>[an b2 (dS r) 314]) (fun zz=>zz<=r.at_.xs.length/\ ∀j x,j<zz->r.at_.xs[j]? =Option.some x->zM x=true) (fun zz=>r.at_.xs.length -zz) 0 ⟨Nat.zero_le _,fun j x hj=>by first|omega|(simp only[];omega)⟩ sb (fun w hw=>ai.mem hw) ?_;rintro i ⟨aQ,az⟩;refine al ?_;refine Gb (fun h1=>?_) fun h1=>?_
 ·
  refine jS ?_;obtain⟨y,hy⟩:=get_some (xs:=r.at_.xs) (i:=i) oM;refine ag (aR rfl rfl i rfl oM) (ag (bC (j:=0) rfl i hy rfl (by decide)) (fQ ?_));refine Gb (fun h2=>?_) fun h2=>?_
  ·
   have hz:tW (db r) n=false:=by
    cases hk:tW (db r) n with
    |false=>rfl
    |true=>
     have g:=II.1 ((B6.1 hk).2.2.2 y (alM hy));omega
   refine al ?_;refine Gr fun w1 hw=>?_;exact Ge (hz.symm) hw
  have JC:zM y=true:=II.2 ⟨by omega,by omega⟩;refine al ?_;refine Gi ?_;exact aW (x:=(i)) (i+1) ⟨oF,fun j x hj hx=>if e:j=i then(by subst e;rw[hy]at hx;cases hx;exact JC)else az j x oF hx⟩ oF sb (fun w hw=>ai.mem hw)
 obtain rfl:i=r.at_.xs.length:=by omega
 have hz:tW (db r) n=true:=B6.2 ⟨g0.1,g0.2.1,g0.2.2,fun x hx=>by
  obtain⟨j,hj⟩:=aqj hx;exact az j x (ad2.1 hj).1 hj⟩
 refine al ?_;refine Gr fun w1 hw=>?_;exact⟨congrArg (fun b=>Ending.returned (Value.bool b)) (hz.symm),ai.mem hw⟩⟩
instance:dz Tryz.prog 63 (.agg (cj kS)):=⟨by kernel_rfl⟩
instance alO{c:Cp}[hc:aV w0 L c]:bY Tryz.prog 164 w0 L [.agg (aU c)] (.bool (se (cv c))) (True):=⟨fun aA w hw=>by
 have hc:=hc.h w hw;have ka:cy w c:=⟨hc⟩;refine cw Tryz.func164 rfl Tryz.ntmps164 rfl ?_;refine Gc ?_;refine bH rfl fun b1=>V0 ?_;refine Gr fun w1 hw=>?_;exact⟨congrArg (fun b=>Ending.returned (Value.bool b)) ((by simp only[se,cv,gm];rfl)),ai.mem hw⟩⟩
instance alP{c:Cp}[hc:aV w0 L c]:bE Tryz.prog 165 w0 L [.agg (aU c)] (Cp) (fun zz=> .agg (aU zz)) (fun zz=>fz zz::L) (fun zz=>cv zz=cv c) (gn c):=⟨fun aA w hw=>Gk (fun zz=>[fz zz]) hw (by
 have hc:=hc.h w hw;have ka:cy w c:=⟨hc⟩;refine cw Tryz.func165 rfl Tryz.ntmps165 rfl ?_;refine Gc ?_;refine bH rfl fun b1=>bn fun b2=>au ?_;refine aY rfl (by assumption) fun x9 Ak=>Gs ?_;refine ag (aI (v:= .agg (aU x9)) rfl rfl) (ag (aI (v:= .int .i64 (vA (cv c) c.bj.xs)) rfl rfl) (bn fun b3=>aT ?_));refine dR (cs':=aU (⟨x9.ae,x9.size,x9.blocks,x9.ops,c.off,x9.bj⟩:Cp)) rfl rfl (by show 4<6;decide) (by first|rfl|exact Sv.one _) rfl (au ?_);refine Gr fun w1 hw=>?_;exact⟨(⟨x9.ae,x9.size,x9.blocks,x9.ops,c.off,x9.bj⟩:Cp),rfl,by
  have h9:cv (⟨x9.ae,x9.size,x9.blocks,x9.ops,c.off,x9.bj⟩:Cp)={cv x9 with off:=(cv c).off}:=rfl
  rw[h9,Ak];exact XZ (cv c),by
  have h9:Mem w [fz x9] _:=ai.mem hw;exact h9⟩)⟩
instance alQ{s:Sv}{ss:List Int}[hs:ct w0 L bw 1 s ss]:bE Tryz.prog 169 w0 L [s.val] (Sv) (fun zz=>zz.val) (fun zz=>own bw 1 zz ss::L) (fun zz=>True) (ss.length<=1000000):=⟨fun aA w hw=>Gk (fun zz=>[own bw 1 zz ss]) hw (by
 have hs:=hs.h w hw;have uj:Gv w s bw 1 ss:=⟨hs⟩;refine cw Tryz.func169 rfl Tryz.ntmps169 rfl ?_;refine au ?_;refine ag (tp Tryz.underlying60 rfl) (Gc ?_);refine Gb (fun h0=>?_) fun h0=>?_
 ·
  have e0:ss=[]:=apB.1 (by have:=hs.ok.nil h0;have:=hs.len;omega);refine al ?_;refine Gr fun w1 hw=>?_;exact⟨Sv.none,rfl,trivial,by rw[e0];exact(ai.mem hw:Mem w [] _).cO bw 1⟩
 refine Gc ?_;refine vc bw fun b5=>Gs ?_;refine jd (s:=⟨false,b5,0,0,0,none⟩) (enc:=bw) (ys:=ss) rfl rfl (by decide) (fun w hw=>ib (s:=s) Tryz.underlying60 (by decide) ((inferInstance:ct _ _ bw 1 s ss).h w hw)) (by simp only[apl];omega) (by simp only[apl];omega) fun s7 yc vT=>?_;refine av ?_;refine Gr fun w1 hw=>?_;exact⟨s7,rfl,trivial,by rw[apV]at hw;exact ai.mem hw⟩)⟩
instance alR{v:cf}[hv:aV w0 L v]:bE Tryz.prog 175 w0 L [.agg (cj v)] (Cp×Sv) (fun zz=> .agg (cj (⟨zz.1,⟨zz.2,v.at_.xs⟩,v.gen,v.last⟩:cf))) (fun zz=>fz zz.1::own bw 1 zz.2 v.at_.xs::L) (fun zz=>cv zz.1=cv v.ak) (gn v.ak/\v.at_.xs.length<=1000000):=⟨fun aA w hw=>Gk (fun zz:Cp×Sv=>[fz zz.1,own bw 1 zz.2 v.at_.xs]) hw (by
 have hv:=hv.h w hw;have yi:cy w v:=⟨hv⟩;obtain⟨eF,fU⟩:=aA;refine cw Tryz.func175 rfl Tryz.ntmps175 rfl ?_;refine Gc ?_;refine bH rfl fun b1=>bn fun b2=>Gc ?_;refine rU [2,5,7,9,1001,1004,5002,5005] [[],[],[1],[],[],[1,2,4],[1,2,4],[1,2,4,5],[1,2,4,5,7],[1,2,4,5,7]] [0,1,3,4,2,6,5,7,8,9] [] [] oK (fun _ hw=>ai.mem hw) oK oK (ar rfl (aK (o':=0) rfl rfl) (ko rfl (gE rfl) (ar rfl (aK (o':=6) rfl rfl) (ko rfl (bQ rfl) (Ni rfl (om rfl (by assumption) fun x5 re=>⟨fun _ hw=>ai.mem hw,fun _ hw=>ai.mem hw,?_⟩))))));refine ar rfl (aK (o':=0) rfl rfl) (Ni rfl (om rfl oM fun x8 pn=>⟨fun _ hw=>ai.mem hw,fun _ hw=>ai.mem hw,?_⟩));refine c8 rfl (M9 (cs':=cj ({v with ak:=x5}:cf)) rfl rfl (by show 0+6<=9;decide) rfl ⟨fun _ hw=>ai.mem hw,?_⟩)
 refine ar rfl (aK (o':=6) rfl rfl) ?_;refine c8 rfl (zn (cs':=cj (⟨x5,⟨x8,v.at_.xs⟩,v.gen,v.last⟩:cf)) rfl rfl (by show 6<9;decide) (by first|rfl|exact Sv.one _) rfl ⟨fun _ hw=>ai.mem hw,?_⟩);refine au ?_;refine Gr fun w1 hw=>?_;exact⟨(x5,x8),rfl,re,ai.mem hw⟩)⟩
theorem aar(b:List UInt8)(w:World):(Instr.build 324 #[(0, .int .i64 ((b.getD 0 0).toNat:Int)),(1, .int .i64 ((b.getD 1 0).toNat:Int)),(2, .int .u64 ((de ((b.drop 2).take (8 -2)):Nat):Int))]).run Tryz.prog w= .ok (.agg (cL (tV b))) w:=by
 rw[←OG];unfold cL tV;generalize UInt64.ofNat (de ((b.drop 2).take (8 -2)))=g;kernel_rfl
instance alS{b:Sv}{bs:List UInt8}[hb:ct w0 L aP 1 b bs]:bE Tryz.prog 227 w0 L [b.val] (eC) (fun zz=> .tuple #[.agg (cL zz), .int .i64 ((dm bs).2)]) (fun zz=>own aP 1 zz.body.sv zz.body.xs::L) (fun zz=>cE zz=(dm bs).1) (True):=⟨fun aA w hw=>Gk (fun zz:eC=>[own aP 1 zz.body.sv zz.body.xs]) hw (by
 have hb:=hb.h w hw;have yf:Gv w b aP 1 bs:=⟨hb⟩;have iO:=hb.bd;have ghd:cy w (tV bs):=⟨⟨dh.nil _ _ _,fun x hx=>by cases hx⟩⟩;have hml:=OF bs;have Cx:=IE bs;have qE:=Nx (nF bs);have dF:=XQ bs;refine cw Tryz.func227 rfl Tryz.ntmps227 rfl ?_;refine Gc ?_;refine bn fun b2=>cx ?_;refine Gb (fun h0=>?_) fun h0=>?_
 ·
  have hE:dm bs=(jV,3):=by rw[dm,if_pos h0]
  refine Gc ?_;refine ag (cN (v:= .agg (cL nD)) rfl (fun w=>by kernel_rfl)) (al ?_);refine Gr fun w1 hw=>?_;exact⟨nD,by rw[hE],by rw[hE];rfl,Mem.cO aP 1 (ai.mem hw:Mem w [] _)⟩
 have hft:=B5.1 h0;have Al:fI bs.length=bs.length -16:=by rw[fI,if_pos h0]
 refine au ?_;refine Gb (fun h1=>?_) fun h1=>?_
 ·
  have hE:dm bs=(jV,0):=by rw[dm,if_neg (by rw[h0];simp),if_pos h1]
  refine Gc ?_;refine ag (cN (v:= .agg (cL nD)) rfl (fun w=>by kernel_rfl)) (al ?_);refine Gr fun w1 hw=>?_;exact⟨nD,by rw[hE],by rw[hE];rfl,Mem.cO aP 1 (ai.mem hw:Mem w [] _)⟩
 refine Gc ?_;refine fA oK oK (au ?_);have QG:Rg 0 (bs.length -4) bs.length:=⟨by omega⟩;refine bx (Ma rfl rfl (bs.length -4) oM QG.h.2) (au ?_);have Fy:Rg (bs.length -4) bs.length bs.length:=⟨by omega⟩;refine bx (w9 rfl rfl (bs.length -4) oM Fy.h.1) (au ?_);refine dv (bP (v:= .int .u64 ((de (ER bs):Nat):Int)) rfl (by rw[apk,apr];omega)) (Gs ?_);refine dv (bP (v:= .int .u32 ((pT (nF bs):Nat):Int)) rfl trivial) (ag (iA rfl (by simp only[nb];omega)) (av ?_));refine Gb (fun h2=>?_) fun h2=>?_
 ·
  have hE:dm bs=(jV,4):=by rw[dm,if_neg (by rw[h0];simp),if_neg (by rw[h1];simp),if_pos (fun e=>h2 (by rw[e]))]
  refine Gc ?_;refine ag (cN (v:= .agg (cL nD)) rfl (fun w=>by kernel_rfl)) (al ?_);refine Gr fun w1 hw=>?_;exact⟨nD,by rw[hE],by rw[hE];rfl,Mem.cO aP 1 (ai.mem hw:Mem w [] _)⟩
 have pQ: ¬de (ER bs)≠pT (nF bs):=fun e=>e oM;refine Gc ?_;refine iE [12,13] [[],[],[],[],[],[],[],[],[],[],[],[],[],[12]] [0,1,2,3,4,5,6,7,8,9,10,11,12,13] [] (fun _ hw=>ai.mem hw) oK oK (ar rfl (bf rfl) (ar rfl (aR rfl rfl 0 rfl oM) (ar rfl (bC (j:=0) rfl 0 (kL (xs:=bs) (i:=0) (d:=0) oM) rfl (by decide)) (ar rfl (xd rfl) (ar rfl (bf rfl) (ar rfl (aR rfl rfl 1 rfl oM) (ar rfl (bC (j:=0) rfl 1 (kL (xs:=bs) (i:=1) (d:=0) oM) rfl (by decide)) (ar rfl (xd rfl) (ar rfl (bf rfl) ?_)))))))));have QH:Rg 2 8 bs.length:=⟨by omega⟩;refine ar rfl (DK rfl rfl rfl 2 8 rfl rfl QH.h.1 QH.h.2) (rR rfl (bP rfl (by simp;omega)) (ar rfl (cN (v:= .agg (cL (tV bs))) rfl (aar bs)) (c8 rfl (M8 fun b6=>⟨fun _ hw=>ai.mem hw,?_⟩))));refine c8 rfl (np rfl rfl ⟨fun _ hw=>ai.mem hw,?_⟩);refine av ?_;have QI:Rg 8 10 bs.length:=⟨by omega⟩;refine ag (DK rfl rfl rfl 8 10 rfl rfl QI.h.1 QI.h.2) (dv (bP (v:= .int .u64 ((jz bs:Nat):Int)) rfl (by rw[apk];omega)) (ag (iA rfl (by simp only[nb];omega)) (dP ?_)));refine bo rfl rfl rfl (fun hg=>(Ry.yl (fW rfl))) (av ?_);refine bo rfl rfl rfl (fun hg=>bP (cZ (aw hg rfl) (cZ (aw hg rfl) fu)) trivial) (bo rfl rfl rfl (fun hg=>(Ry.yl (iz (aw hg rfl)))) (av ?_));refine Gb (fun h3=>?_) fun h3=>?_
 ·
  have pj:sd bs=false:=by
   rw[IF]at h3
   cases hk:sd bs with
   |false=>rfl
   |true=>
    simp only[sd,anc,decide_eq_true_eq]at hk;rw[hk.2]at h3;simp only[aqW,or_false]at h3;omega
  have hE:dm bs=(jV,2):=by rw[dm,if_neg (by rw[h0];simp),if_neg (by rw[h1];simp),if_neg pQ,if_pos pj]
  refine Gc ?_;refine ag (cN (v:= .agg (cL nD)) rfl (fun w=>by kernel_rfl)) (al ?_);refine Gr fun w1 hw=>?_;exact⟨nD,by rw[hE],by rw[hE];rfl,Mem.cO aP 1 (ai.mem hw:Mem w [] _)⟩
 have pj:sd bs=true:=by
  rw[IF]at h3;simp only[sd,anc,decide_eq_true_eq];exact⟨by omega,h3.2⟩
 have JD:(jz bs:Int)<=fI bs.length:=by simp only[sd,anc,decide_eq_true_eq]at pj;exact pj.1
 have vV:(oV bs).length=(nF bs).length -(10+jz bs):=by rw[oV,apk,apr];omega
 have gr:Gv w ((b.sub 1 0 (bs.length -4)).sub 1 (10+jz bs) (nF bs).length) aP 1 (oV bs):=⟨(hb.sub (lo:=0) (hi:=bs.length -4) oM oM).sub (lo:=10+jz bs) (hi:=(nF bs).length) oM (apm _)⟩;refine au ?_;have aas:Rg (10+jz bs) ((nF bs).length) (nF bs).length:=⟨by omega⟩;refine ag (w9 rfl rfl (10+jz bs) rfl aas.h.1) (al ?_);refine bA (X:=Nat) (fun zz=>[(69, .int .i64 (zz:Nat)),(0,b.val),(2, .pointer (some ⟨b2,0,none⟩)),(6, .pointer (some ⟨b6,0,none⟩)),(7, .int .i64 (jz bs:Nat)),(67,((b.sub 1 0 (bs.length -4)).sub 1 (10+jz bs) (nF bs).length).val),(68, .int .i64 ((oV bs).length:Nat))]) (fun zz=>[an b6 (cL (tV bs)) 324,an b2 (cL nD) 324]) (fun zz=>zz<=(oV bs).length/\ ∀j x,j<zz->(oV bs)[j]? =Option.some x->x=0) (fun zz=>(oV bs).length -zz) 0 ⟨Nat.zero_le _,fun j x hj=>by first|omega|(simp only[];omega)⟩ sb (fun w hw=>ai.mem hw) ?_;rintro i ⟨aQ,az⟩;refine al ?_;refine Gb (fun h4=>?_) fun h4=>?_
 ·
  refine jS ?_;obtain⟨y,hy⟩:=get_some (xs:=(oV bs)) (i:=i) oM;refine ag (aR rfl rfl i rfl oM) (ag (bC (j:=0) rfl i hy rfl (by decide)) (aH ?_));refine Gb (fun h5=>?_) fun h5=>?_
  ·
   have uk:zL (oV bs)=false:=by
    cases hk:zL (oV bs)with
    |false=>rfl
    |true=>exact absurd (congrArg UInt8.toNat (OE.1 hk y (alM hy))) (by intro e;exact h5 (by rw[e];rfl))
   have hE:dm bs=(jV,2):=by rw[dm,if_neg (by rw[h0];simp),if_neg (by rw[h1];simp),if_neg pQ,if_neg (by rw[pj];simp),if_pos uk]
   refine Gc ?_;refine ag (cN (v:= .agg (cL nD)) rfl (fun w=>by kernel_rfl)) (al ?_);refine Gr fun w1 hw=>?_;exact⟨nD,by rw[hE],by rw[hE];rfl,Mem.cO aP 1 (ai.mem hw:Mem w [] _)⟩
  have JB:y=0:=arE.1 (show y.toNat=0 by omega);refine al ?_;refine Gi ?_;exact aW (x:=(i)) (i+1) ⟨oF,fun j x hj hx=>if e:j=i then(by subst e;rw[hy]at hx;cases hx;exact JB)else az j x oF hx⟩ oF sb (fun w hw=>ai.mem hw)
 obtain rfl:i=(oV bs).length:=by omega
 have uk:zL (oV bs)=true:=OE.2 fun x hx=>by
  obtain⟨j,hj⟩:=aqj hx;exact az j x (ad2.1 hj).1 hj
 have hE:dm bs=({zK bs with body:=((bs.drop 10).take (10+jz bs -10))},0):=by rw[dm,if_neg (by rw[h0];simp),if_neg (by rw[h1];simp),if_neg pQ,if_neg (by rw[pj];simp),if_neg (by rw[uk];simp)]
 refine au ?_;refine Gb (fun h6=>?_) fun h6=>?_
 ·
  refine Gi ?_;refine al ?_;have QJ:Rg 10 (10+jz bs) bs.length:=⟨by omega⟩;refine ag (DK rfl rfl rfl 10 (10+jz bs) rfl rfl QJ.h.1 QJ.h.2) (aY rfl (by simp only[apk,apr];omega) fun JE alT=>Gs ?_);refine dR (cs':=cL (⟨((bs.getD 0 0).toNat:Int),((bs.getD 1 0).toNat:Int),(UInt64.ofNat (de ((bs.drop 2).take (8 -2)))),⟨JE,((bs.drop 10).take ((10+jz bs) -10))⟩⟩:eC)) rfl rfl (by show 3<4;decide) (by first|rfl|exact Sv.one _) rfl (aH ?_);refine Gr fun w1 hw=>?_;exact⟨⟨((bs.getD 0 0).toNat:Int),((bs.getD 1 0).toNat:Int),UInt64.ofNat (de ((bs.drop 2).take (8 -2))),⟨JE,((bs.drop 10).take (10+jz bs -10))⟩⟩,by rw[hE],by rw[hE];exact OH bs JE ((bs.drop 10).take (10+jz bs -10)),ai.mem hw⟩
 have sK:jz bs=0:=by omega
 refine aH ?_;refine Gr fun w1 hw=>?_;exact⟨tV bs,by rw[hE],by rw[hE,IF,sK];simp[zK],Mem.cO aP 1 (ai.mem hw:Mem w [] _)⟩)⟩
instance alU{c:Cp}{id:Int}{n:Int}[hc:aV w0 L c]:bY Tryz.prog 303 w0 L [.agg (aU c), .int .i64 id, .int .i64 n] (.bool (zO (cv c) id n)) (bq (cv c)=true/\1<=n/\n<=1000000):=⟨fun aA w hw=>by
 have hc:=hc.h w hw;have ka:cy w c:=⟨hc⟩;obtain⟨hk,Am,um⟩:=aA;have eO:=gm c.blocks.xs;have hO:=kQ.1 (eW.1 hk).1;simp only[cv,eO]at hO;have Cy:0<=((n -1)/c.ae):=arR oM oM;have GP:((n -1)/c.ae)<=n -1:=Int.ediv_le_self _ oM;have sK:0<=((n -1)%c.ae):=Int.emod_nonneg _ oM;have Cz:((n -1)%c.ae)<c.ae:=Int.emod_lt_of_pos _ oM;have sL:=xG (c:=c) (b:=((n -1)/c.ae));have JF:(c.blocks.xs.getD ((n -1)/c.ae).toNat oR).used=(aM (cv c) ((n -1)/c.ae)).used:=congrArg BV.used sL;refine pS Tryz.func303 rfl Tryz.ntmps303 rfl ?_;refine Gc ?_;refine bH rfl fun b3=>av ?_;refine fA oK oK (au ?_);refine bx (lf rfl rfl oM oM) (au ?_);refine bx (yS rfl rfl oM oM) (Nl ?_);refine bo rfl rfl rfl (fun hg=>(Ry.yl (aR (aw hg rfl) (aw hg rfl) (((n -1)/c.ae).toNat) (by simp only[Z0,Z1,Z2,Z3,Z4,Z5,Z6,Z7,Z8,Z9]at hg;omega) (by simp only[Z0,Z1,Z2,Z3,Z4,Z5,Z6,Z7,Z8,Z9]at hg;omega)))) (bo rfl rfl rfl (fun hg=>(Ry.yl (aK (aw hg rfl) rfl))) (bo rfl rfl rfl (fun hg=>(Ry.yl (bC (j:=1) (aw hg rfl) (((n -1)/c.ae).toNat) (kL (xs:=c.blocks.xs) (i:=((n -1)/c.ae).toNat) (d:=oR) (by simp only[Z0,Z1,Z2,Z3,Z4,Z5,Z6,Z7,Z8,Z9]at hg;omega)) rfl (by decide)))) (al ?_)));refine Gb (fun h0=>?_) fun h0=>?_
 ·
  have hz:zO (cv c) id n=false:=by
   cases sM:vC (cv c) (n -1)with
   |false=>rw[zO,sM];rfl
   |true=>
    obtain⟨g1,g2,g3⟩:=ET.1 sM;change 2<=((n -1)/c.ae)at g1;change((n -1)/c.ae)<((ij c.blocks.xs).length:Int)at g2;change((n -1)%c.ae)<(aM (cv c) ((n -1)/c.ae)).used at g3;rw[eO]at g2;omega
  refine al ?_;refine Gr fun w1 hw=>?_;exact Ge (hz.symm) hw
 have gM:vC (cv c) (n -1)=true:=ET.2 ⟨show 2<=((n -1)/c.ae) by omega,by simp only[cv,eO];omega,show((n -1)%c.ae)<(aM (cv c) ((n -1)/c.ae)).used by omega⟩;obtain⟨B,hB⟩:=get_some (xs:=c.blocks.xs) (i:=((n -1)/c.ae).toNat) oM;have rf:Mb B c.blocks:=⟨List.mem_of_getElem? hB⟩;have eu:bv B=aM (cv c) ((n -1)/c.ae):=by rw[←sL];simp[List.getD,hB]
 have fJ:=gP.1 ((eW.1 hk).2.2.2.2 (bv B) (alM (lT hB)));have iJ:=nw B.ae.xs;have QK:(B.ae.xs.length:Int)=c.ae:=by have:=fJ.1;simp only[bv,cv,iJ]at this;exact this
 obtain⟨y,hy⟩:=get_some (xs:=B.ae.xs) (i:=((n -1)%c.ae).toNat) oM;have JG:Mb y B.ae:=⟨List.mem_of_getElem? hy⟩;have qX:zN (cv c) (n -1)=y.xs:=by
  show(aM (cv c) ((n -1)/c.ae)).ae.getD ((n -1)%c.ae).toNat []=y.xs;rw[←eu];simp[bv,List.getD,oS hy]
 refine au ?_;refine ag (aR rfl rfl (((n -1)/c.ae).toNat) oM oM) (ag (aK rfl rfl) (ag (bC (j:=0) rfl (((n -1)/c.ae).toNat) hB rfl (by decide)) ?_));have alV:Mb B _:=⟨List.mem_of_getElem? hB⟩;refine Gs ?_;refine ag (aR rfl rfl (((n -1)%c.ae).toNat) oM oM) (ag (bC (j:=0) rfl (((n -1)%c.ae).toNat) hy rfl (by decide)) ?_);have alW:Mb y _:=⟨List.mem_of_getElem? hy⟩;refine aY rfl trivial fun ow yj=>?_;have e1:ow.kind=(dm y.xs).1.kind:=congrArg PV.kind yj;have e2:ow.id=(dm y.xs).1.id:=congrArg PV.id yj;refine Gs ?_;refine ag (aI (v:= .agg (cL ow)) rfl rfl) (ag (aI (v:= .int .i64 ((dm y.xs).2)) rfl rfl) (bn fun b9=>H4 ?_));refine Gr fun w1 hw=>?_;exact⟨congrArg (fun b=>Ending.returned (Value.bool b)) ((by rw[zO,gM,qX,OI,←e1,←e2];rfl)),ai.mem hw⟩⟩
def mN(n:Int):Value:= .int .i64 n
def po(_:Unit):Value:= .agg #[]
instance:Co mN:=⟨fun h=>by simpa[mN]using h⟩
instance:Cn Tryz.prog 3:=⟨Maps.int_keyed Tryz.underlying3⟩
instance:Ag Tryz.prog 318 3 319:=⟨Tryz.underlying318⟩
instance:dz Tryz.prog 319 (.agg #[]):=⟨by kernel_rfl⟩
instance:eU (#[]:Array Value) 0:=⟨rfl,by simp⟩
theorem JH{n:Int}(h: -9223372036854775808<=n/\n<=9223372036854775807): ∃l,keyOf Tryz.prog 3 (mN n)=some l:=⟨_,Maps.keyOf_int_mk Tryz.underlying3 (by simp[Lit.wf,IntKind.min,IntKind.max,IntKind.signed,IntKind.bits];omega)⟩
instance alX{c:Cp}{t:Sv}{ts:List Int}[hc:aV w0 L c][ht:ct w0 L bw 1 t ts]:bY Tryz.prog 259 w0 L [.agg (aU c),t.val] (.bool (vD (cv c) ts)) (bq (cv c)=true/\ ∀x∈ts,0<=x/\x<=65535):=⟨fun aA w hw=>by
 have hc:=hc.h w hw;have ht:=ht.h w hw;have ka:cy w c:=⟨hc⟩;have l5:Gv w t bw 1 ts:=⟨ht⟩;obtain⟨hk,nO⟩:=aA;have iO:=ht.bd;refine cz Tryz.func259 rfl Tryz.ntmps259 rfl ?_;refine Gc ?_;refine bH rfl fun b2=>au ?_;refine aai mN po rfl fun uo=>aT ?_;refine bA (X:=Nat) (fun zz=>[(15, .int .i64 (zz:Nat)),(5, .map (some uo)),(2, .pointer (some ⟨b2,0,none⟩)),(13,t.val),(14, .int .i64 (ts.length:Nat))]) (fun zz=>[omap Tryz.prog 3 mN po uo (jB ts zz),an b2 (aU c) 59]) (fun zz=>zz<=ts.length/\ ∀j,j<zz->tX (cv c) ts j=true) (fun zz=>ts.length -zz) 0 ⟨Nat.zero_le _,fun j hj=>by first|omega|(simp only[];omega)⟩ sb (fun w hw=>by
  rw[←OJ];exact ai.mem hw) ?_
 rintro i ⟨aQ,az⟩;refine al ?_;refine Gb (fun h0=>?_) fun h0=>?_
 ·
  obtain⟨y,hy⟩:=get_some (xs:=ts) (i:=i) oM;have hyr:=nO y (alM hy);have nP:=xI hy;have v7:=JH (n:=y) oM;refine av ?_;refine ag (aR rfl rfl i rfl oM) (ag (bC (j:=0) rfl i hy rfl (by decide)) (aT ?_));refine Gb (fun h1=>?_) fun h1=>?_
  ·
   subst h1;have bI:tX (cv c) ts i=true:=by rw[tX,nP];rfl
   refine al ?_;refine Gi ?_;exact aW (x:=(i)) (i+1) ⟨oF,fun j hj=>if e:j=i then e▸bI else az j oF⟩ oF sb (fun w hw=>by
    rw[OK hy];exact ai.mem hw)
  refine al ?_;refine ag (Ju (cQ:=mN) (dN:=po) (f:=jB ts i) (v:=y) (z:=()) rfl rfl v7) (Gs ?_);refine ag (aI (v:= .agg #[]) rfl rfl) (ag (aI (v:= .bool ((jB ts i y).isSome)) rfl rfl) (bn fun b8=>aH ?_));refine bo rfl rfl rfl (fun hg=>(Ry.yl (fW rfl))) (av ?_);refine bo rfl rfl rfl (fun hg=>bP (cZ (aw hg rfl) (cZ (aw hg rfl) (cZ (aw hg rfl) fu))) ⟨hk,by omega,by omega⟩) (bo rfl rfl rfl (fun hg=>(Ry.yl (iz (aw hg rfl)))) (av ?_));refine Gb (fun h2=>?_) fun h2=>?_
  ·
   have hz:vD (cv c) ts=false:=by
    cases sM:vD (cv c) ts with
    |false=>rfl
    |true=>
     have g:=IK.1 sM i oM;rw[tX,nP]at g;rw[B8]at h2;simp only[aqz,anc,decide_eq_true_eq,aqP,arJ,decide_eq_false_iff_not]at g h2;rcases g with g|g
     ·
      exact absurd g h1
     rcases h2 with h2|h2
     ·
      exact absurd h2.2 g.1
     rw[g.2]at h2;cases h2
   refine al ?_;refine Gr fun w1 hw=>?_;exact Ge (hz.symm) hw
  have bI:tX (cv c) ts i=true:=by
   rw[B8]at h2;rw[tX,nP];simp only[aqz,anc,decide_eq_true_eq,aqP,arJ,decide_eq_false_iff_not]at h2⊢;exact .inr ⟨fun hm=>h2.1 ⟨h1,hm⟩,h2.2⟩
  have eG:=OL hy h1;refine al ?_;refine ag (cN (v:= .agg #[]) rfl (fun w=>by kernel_rfl)) (Jw (cQ:=mN) (dN:=po) (v:=y) (u:=()) rfl rfl rfl v7 (al ?_));refine Gi ?_;exact aW (x:=(i)) (i+1) ⟨oF,fun j hj=>if e:j=i then e▸bI else az j oF⟩ oF sb (fun w hw=>by
   rw[←eG];exact ai.mem hw)
 obtain rfl:i=ts.length:=by omega
 have hz:vD (cv c) ts=true:=IK.2 fun j hj=>az j hj;refine al ?_;refine Gr fun w1 hw=>?_;exact⟨congrArg (fun b=>Ending.returned (Value.bool b)) (hz.symm),ai.mem hw⟩⟩
instance:dz Tryz.prog 402 (.agg (bD ik)):=⟨by kernel_rfl⟩
theorem aat(u v:Int)(b:Bool)(w:World):(Instr.build 402 #[(1, .int .i64 u),(2, .int .i64 v),(3, .bool b)]).run Tryz.prog w= .ok (.agg (bD ⟨0,u,v,b⟩)) w:=by
 unfold bD;kernel_rfl
instance alY{c:Cp}{l:Sl (Sl Int)}[hc:aV w0 L c][hl:aV w0 L l]:bE Tryz.prog 326 w0 L [.agg (aU c),l.sv.val] (Sv) (fun zz=>zz.val) (fun zz=>own bD 4 zz (iG (cv c) (ax l.xs))::L) (fun zz=>True) (vG (cv c) (ax l.xs)):=⟨fun aA w hw=>Gk (fun zz=>[own bD 4 zz (iG (cv c) (ax l.xs))]) hw (by
 have hc:=hc.h w hw;have hl:=hl.h w hw;have ka:cy w c:=⟨hc⟩;have qg:cy w l:=⟨hl⟩;obtain⟨⟨hk,ot⟩,ji,kF⟩:=aA;have iO:=hl.1.bd;have eO:=gm c.blocks.xs;have nN:(cv c).blocks.length=c.blocks.xs.length:=eO;have hO:=kQ.1 (eW.1 hk).1;simp only[cv,eO]at hO;have xw:=zP (cv c) (ax l.xs);rw[nN]at xw;have vV:(List.replicate (c.blocks.xs.length -2) ik).length=c.blocks.xs.length -2:=List.length_replicate;refine cz Tryz.func326 rfl Tryz.ntmps326 rfl ?_;refine Gc ?_;refine bH rfl fun b2=>aT ?_;refine rH (enc:=bD) (n:=(c.blocks.xs.length -2)) (cap:=(c.blocks.xs.length -2)) ik rfl rfl rfl oM oM oM oM oM fun kc=>aT ?_;refine bA (X:=Nat×List aJ) (fun zz=>[(22, .int .i64 (zz.1:Nat)),(5,(⟨false,kc,0,c.blocks.xs.length -2,c.blocks.xs.length -2,none⟩:Sv).val),(1,l.sv.val),(2, .pointer (some ⟨b2,0,none⟩)),(21, .int .i64 ((List.replicate (c.blocks.xs.length -2) ik).length:Nat))]) (fun zz=>[own bD 4 ⟨false,kc,0,c.blocks.xs.length -2,c.blocks.xs.length -2,none⟩ zz.2,an b2 (aU c) 59]) (fun zz=>zz.1<=c.blocks.xs.length -2/\zz.2.length=c.blocks.xs.length -2/\zz.2.take zz.1=(jC (cv c) (ax l.xs) 0).take zz.1) (fun zz=>c.blocks.xs.length -2 -zz.1) (0,List.replicate (c.blocks.xs.length -2) ik) ⟨Nat.zero_le _,by simp,by simp⟩ sb (fun w hw=>ai.mem hw) ?_;rintro⟨i,zs⟩ ⟨aQ,az,aX⟩;dsimp only;simp only at aQ az aX;refine al ?_;refine Gb (fun h0=>?_) fun h0=>?_
 ·
  obtain⟨B,hB⟩:=get_some (xs:=c.blocks.xs) (i:=i+2) oM;have rf:Mb B c.blocks:=⟨List.mem_of_getElem? hB⟩;obtain⟨z,hz⟩:=get_some (xs:=zs) (i:=i) oM;have BP:(zs.set i (⟨0,B.used,B.bB,B.bad⟩:aJ)).take (i+1)=(jC (cv c) (ax l.xs) 0).take (i+1):=by
   have e1:=EO (f:=id) (z':=(⟨0,B.used,B.bB,B.bad⟩:aJ)) hz;simp only[List.map_id]at e1;rw[e1,aX,aps,Ya,apG,ark oM,aqh,show aM (cv c) ((i:Int)+2)=bv B from IM (i:=i+2) hB];rfl
  refine dP ?_;refine ag (aR rfl rfl (i+2) rfl oM) (ag (fC rfl (i+2) hB rfl) ?_);have JA:Mb B c.blocks:=⟨List.mem_of_getElem? hB⟩;refine bn fun b7=>nq ?_;refine ag (cN (v:= .agg (bD (⟨0,B.used,B.bB,B.bad⟩:aJ))) rfl (aat B.used B.bB B.bad)) (ag (aR rfl rfl i rfl oM) (ju (s:=⟨false,kc,0,c.blocks.xs.length -2,c.blocks.xs.length -2,none⟩) (n:=4) (k:=i) (j:=0) (a:=z) (a':=(⟨0,B.used,B.bB,B.bad⟩:aJ)) (xs:=zs) (enc:=bD) (c:=4) (v:= .agg (bD (⟨0,B.used,B.bB,B.bad⟩:aJ))) oK rfl rfl rfl hz (bk.one (enc:=bD) (c:=4) _) rfl (by decide) (by rfl) (al ?_)));refine Gi ?_;exact aW (x:=(i,zs)) (i+1,zs.set i (⟨0,B.used,B.bB,B.bad⟩:aJ)) ⟨oF,by rw[ap8];exact az,BP⟩ (by simp only;omega) sb (fun w hw=>ai.mem hw)
 obtain rfl:i=zs.length:=by omega
 rw[apI,apy (by rw[xw];omega)]at aX;subst aX;refine Gc ?_;refine Qz mN po fun Fz=>aT ?_;refine bA (X:=Nat) (fun zz=>[(45, .int .i64 (zz:Nat)),(5,(⟨false,kc,0,c.blocks.xs.length -2,c.blocks.xs.length -2,none⟩:Sv).val),(8, .map (some Fz)),(2, .pointer (some ⟨b2,0,none⟩)),(43,l.sv.val),(44, .int .i64 (l.xs.length:Nat))]) (fun zz=>[omap Tryz.prog 3 mN po Fz (jB (ax l.xs) (ax (l.xs.take zz)).length),own bD 4 ⟨false,kc,0,c.blocks.xs.length -2,c.blocks.xs.length -2,none⟩ (jC (cv c) (ax l.xs) (ax (l.xs.take zz)).length),an b2 (aU c) 59]) (fun zz=>zz<=l.xs.length) (fun zz=>l.xs.length -zz) 0 (apE _) sb (fun w hw=>by
  have e0:(ax (l.xs.take 0)).length=0:=by simp[ax]
  simp only[e0];rw[←OJ];exact ai.mem hw) ?_
 rintro a ha1;refine al ?_;refine Gb (fun h1=>?_) fun h1=>?_
 ·
  obtain⟨x,hx⟩:=get_some (xs:=l.xs) (i:=a) oM;have QL:Mb x l:=⟨List.mem_of_getElem? hx⟩;have eH:=(hl.2 x QL.h).1.bd;refine Gc ?_;refine ag (aR rfl rfl a rfl oM) (ag (bC (j:=0) rfl a hx rfl (by decide)) ?_);have alZ:Mb x _:=⟨List.mem_of_getElem? hx⟩;refine aT ?_;refine bA (X:=Nat) (fun zz=>[(51, .int .i64 (zz:Nat)),(5,(⟨false,kc,0,c.blocks.xs.length -2,c.blocks.xs.length -2,none⟩:Sv).val),(8, .map (some Fz)),(2, .pointer (some ⟨b2,0,none⟩)),(43,l.sv.val),(44, .int .i64 (l.xs.length:Nat)),(45, .int .i64 (a:Nat)),(49,x.sv.val),(50, .int .i64 (x.xs.length:Nat))]) (fun zz=>[omap Tryz.prog 3 mN po Fz (jB (ax l.xs) ((ax (l.xs.take a)).length+zz)),own bD 4 ⟨false,kc,0,c.blocks.xs.length -2,c.blocks.xs.length -2,none⟩ (jC (cv c) (ax l.xs) ((ax (l.xs.take a)).length+zz)),an b2 (aU c) 59]) (fun zz=>zz<=x.xs.length) (fun zz=>x.xs.length -zz) 0 (apE _) sb (fun w hw=>ai.mem hw) ?_;rintro j hM;refine al ?_;refine Gb (fun h2=>?_) fun h2=>?_
  ·
   obtain⟨y,hy⟩:=get_some (xs:=x.xs) (i:=j) oM;have An:=X9 hx hy;have hya:=kF y (alM An);have nP:=xI An;have v7:=JH (n:=y) oM;refine Gc ?_;refine ag (aR rfl rfl j rfl oM) (ag (bC (j:=0) rfl j hy rfl (by decide)) (au ?_));refine ag (Ju (cQ:=mN) (dN:=po) (f:=jB (ax l.xs) ((ax (l.xs.take a)).length+j)) (v:=y) (z:=()) rfl rfl v7) (Gs ?_);refine ag (aI (v:= .agg #[]) rfl rfl) (ag (aI (v:= .bool ((jB (ax l.xs) ((ax (l.xs.take a)).length+j) y).isSome)) rfl rfl) (bn fun hQ=>fQ ?_));refine Gb (fun h3=>?_) fun h3=>?_
   ·
    have Ao:vE (ax l.xs) ((ax (l.xs.take a)).length+j)=false:=by
     rw[vE,nP];rw[B8]at h3;rcases h3 with h|h
     ·
      simp[h]
     simp only[decide_eq_true_eq]at h;simp[h.2]
    have hsk:jB (ax l.xs) (((ax (l.xs.take a)).length+j)+1)=jB (ax l.xs) ((ax (l.xs.take a)).length+j):=by
     rw[B8]at h3;rcases h3 with h|h
     ·
      exact OK (h▸An)
     exact X7 An (by simpa using h)
    refine al ?_;refine Gi ?_;exact aW (x:=(j)) (j+1) oF oF sb (fun w hw=>by
     rw[←aqK,hsk,X6 Ao];exact ai.mem hw)
   have tl:y≠0:=h3.1;obtain⟨b1,b2,b3,b4⟩:=hya.resolve_left tl;change 2<=((y -1)/c.ae)at b3;change((y -1)/c.ae)<((ij c.blocks.xs).length:Int)at b4;rw[eO]at b4;have Ao:vE (ax l.xs) ((ax (l.xs.take a)).length+j)=true:=by
    rw[vE,nP];have h9:=h3.2;rw[B8]at h9;simp only[decide_eq_false_iff_not]at h9;simp only[anc,decide_eq_true_eq,aqP,arJ,decide_eq_false_iff_not];exact⟨tl,fun hm=>h9 ⟨tl,hm⟩⟩
   have eG:=OL An tl;have tA:=zP (cv c) (ax l.xs) ((ax (l.xs.take a)).length+j);rw[nN]at tA;obtain⟨z,hz⟩:=get_some (xs:=jC (cv c) (ax l.xs) ((ax (l.xs.take a)).length+j)) (i:=(((y -1)/c.ae) -2).toNat) oM;have qh:=X8 Ao (i:=(((y -1)/c.ae) -2).toNat) (by rw[nP];show((y -1)/c.ae)=_;omega) hz;have yb:=Yb hz;have gM:=(ad2.1 An).1;refine al ?_;refine ag (cN (v:= .agg #[]) rfl (fun w=>by kernel_rfl)) (Jw (cQ:=mN) (dN:=po) (v:=y) (u:=()) rfl rfl rfl v7 (aT ?_));refine ag (lf rfl rfl oM oM) (Gs ?_);refine ag (aR rfl rfl ((((y -1)/c.ae) -2).toNat) oM oM) (ag (aK rfl rfl) (ag (bC (j:=0) rfl ((((y -1)/c.ae) -2).toNat) hz rfl (by decide)) (Gs ?_)));refine ag (aR rfl rfl ((((y -1)/c.ae) -2).toNat) oM oM) (ag (aK rfl rfl) (ju (s:=⟨false,kc,0,c.blocks.xs.length -2,c.blocks.xs.length -2,none⟩) (n:=1) (k:=(((y -1)/c.ae) -2).toNat) (j:=0) (a:=z) (a':={z with live:=z.live+1}) (xs:=(jC (cv c) (ax l.xs) ((ax (l.xs.take a)).length+j))) (enc:=bD) (c:=4) (v:= .int .i64 (z.live+1)) oK rfl rfl rfl hz (by simp[Value.cells,Value.oneCell']) (by rfl) (by decide) (by rfl) (al ?_)))
   refine Gi ?_;exact aW (x:=(j)) (j+1) oF oF sb (fun w hw=>by
    rw[←aqK,←eG,qh];exact ai.mem hw)
  obtain rfl:j=x.xs.length:=by omega
  refine al ?_;refine Gi ?_;exact aW (x:=(a)) (a+1) oF oF sb (fun w hw=>by
   rw[OV hx,af0];exact ai.mem hw)
 obtain rfl:a=l.xs.length:=by omega
 rw[apI];refine au ?_;refine Gr fun w1 hw=>?_;exact⟨⟨false,kc,0,c.blocks.xs.length -2,c.blocks.xs.length -2,none⟩,rfl,trivial,by rw[iG];exact ai.mem hw⟩)⟩
end Go.Proofs.YtkggjjnhnjjokaaGreatDoor
namespace Go.ay
open Go.RowKit
section
variable {P:Program} {N:cc} {w0:World} {env:Env} {L:List aj} {d:Option Tmp} {ty:TypeId} {ps:String} {af:Array Edge} {gd:Option (Nat×Bool)}
class lE(w0:World)(L:List aj)(b:Nat)(cs:outParam (Array Value))(T:outParam TypeId):Prop where
 h: ∀w,Mem w0 L w->w.heap[b]? =some (.cells cs T (0,0))
class qi(w0:World)(b:Nat)(cs:outParam (Array Value))(T:outParam TypeId):Prop where
 h:w0.heap[b]? =some (.cells cs T (0,0))
instance (priority:=high) lE.has {b i:Nat}{cs:Array Value}{T:TypeId}[q:Has L b cs T i]:lE w0 L b cs T:=⟨fun w hw=>hw.block q.h⟩
instance lE.old{b:Nat}{cs:Array Value}{T:TypeId}[q:qi w0 b cs T]:lE w0 L b cs T:=⟨fun w hw=>by
 have bc:b<w0.heap.size:=by
  rcases apo b w0.heap.size with h|h
  ·
   exact h
  have:=q.h;simp[aqH h]at this
 rw[hw.below.block b bc];exact q.h⟩
theorem lE.cell{b:Nat}{cs:Array Value}{T:TypeId}(q:lE w0 L b cs T){w:World}(hw:Mem w0 L w)(o:Nat):w.cell? ⟨b,o,none⟩=cs[o]? :=by
 simp[World.cell?,q.h w hw]
theorem mO{t:TypeId}{x:Operand}{b o:Nat}{cs:Array Value}{T:TypeId}{v:Value}(hx:ev env x=some (.pointer (some ⟨b,o,none⟩)))[ht:fc P t][hi:lE w0 L b cs T][hc:bK cs o v]:
  Ry P N w0 env L ⟨d, .load t x,ty,ps,af,gd⟩ v:=yO ht hx fun w hw=>by rw[hi.cell hw];exact hc.h
theorem aau{t:TypeId}{x:Operand}{b o n:Nat}{cs sub:Array Value}{T:TypeId}(hx:ev env x=some (.pointer (some ⟨b,o,none⟩)))[ht:dX P t n][hi:lE w0 L b cs T][hs:mn cs o n sub]:
  Ry P N w0 env L ⟨d, .load t x,ty,ps,af,gd⟩ (.agg sub):=Bb ht hx hs.size fun w hw j hj=>by rw[Addr.gg,hi.cell hw];exact hs.h j hj
end
section
variable {w0:World} {L:List aj}
theorem Ap{w0 w:World}{L R1 R2 R3:List aj}{e1 e2 e3:aj}{i j k:Nat}(h1:L[i]? =some e1)(d1:L.eraseIdx i=R1)(h2:R1[j]? =some e2)(d2:R1.eraseIdx j=R2)(h3:R2[k]? =some e3)(d3:R2.eraseIdx k=R3)(h:Mem w0 L w):Mem w0 (e1::e2::e3::R3) w:=by
 subst d1;subst d2;subst d3;exact h.perm ((nk h1).trans (((nk h2).trans ((nk h3).cons _)).cons _))
theorem aav{w0 w:World}{L R1 R2 R3 R4:List aj}{e1 e2 e3 e4:aj}{i j k l:Nat}(h1:L[i]? =some e1)(d1:L.eraseIdx i=R1)(h2:R1[j]? =some e2)(d2:R1.eraseIdx j=R2)(h3:R2[k]? =some e3)(d3:R2.eraseIdx k=R3)(h4:R3[l]? =some e4)(d4:R3.eraseIdx l=R4)(h:Mem w0 L w):Mem w0 (e1::e2::e3::e4::R4) w:=by
 subst d1;subst d2;subst d3;subst d4;exact h.perm ((nk h1).trans (((nk h2).trans (((nk h3).trans ((nk h4).cons _)).cons _)).cons _))
end
variable {w0:World}{L:List aj}
instance (priority:=low) Hd.tail{e:aj}{s:Sv}{α:Type}{enc:α->Array Value}{c:Nat}{xs:List α}[q:Hd w0 L s enc c xs]:Hd w0 (e::L) s enc c xs:=⟨fun w hw=>q.h w (hw.sub (apX _ _))⟩
instance (priority:=low) aV.tail{e:aj}{τ:Type}[Deep τ]{a:τ}[q:aV w0 L a]:aV w0 (e::L) a:=⟨fun w hw=>q.h w (hw.sub (apX _ _))⟩
theorem aaw{P:Program}{N:cc}{env:Env}{α:Type}{enc:α->Array Value}{c n:Nat}{t e:TypeId}{cF:Nat}{z:Value}{x y:Operand}{d:Option Tmp}{ty:TypeId}{ps:String}{af:Array Edge}{gd:Option (Nat×Bool)}{k k':IntKind}{ix iy:Int}[he:bk enc c][ht:eB P t e c cF][hz:dz P e z](x0:α)(h0:enc x0=z.cells)(hx:ev env x=some (.int k ix))(hy:ev env y=some (.int k' iy))(ex:ix=(n:Int))(ey:iy=(n:Int))(hb:cF*n<=281474976710656)(iL:n<=140737488355328):
  ∀a,cS N env a->tw P ⟨d, .makeSlice t x y,ty,ps,af,gd⟩ a.eval (vp enc c n (List.replicate n x0)):=fun a ha w0 w L hw=>by
 subst ex ey;obtain⟨w',h1,h2⟩:=Hg ht hz (k:=k) (k':=k') (n:=n) x0 h0 (apm _) hb iL w;exact⟨w.heap.size,w',by simp only[execOp,ha.ev hx,ha.ev hy,Sem.run_bind,h1,Result.andThen,Sem.run_pure],hw.call h2⟩
def sN(f:FuncId):Array Value:= #[.func (.func f) #[] #[]]
instance:bk sN 1:=⟨fun _=>rfl,fun _=>by simp[sN,Value.oneCell']⟩
instance (f:FuncId):bK (sN f) 0 (.func (.func f) #[] #[]):=⟨rfl⟩
class rh(P:Program)(w0:World)(L:List aj)(f:FuncId)(eS:Array Value){α:outParam Type}(enc:outParam (α->Array Value))(R:outParam (α->Bool)):Prop where
 fn:aE P f
 h: ∀w,Mem w0 L w-> ∀x,Calls P f ((Value.agg (enc x)::eS.toList).toArray) w fun e w'=>e= .returned (.bool (R x))/\Mem w [] w'
theorem rh.at{P:Program}{w0:World}{L:List aj}{f:FuncId}{eS:Array Value}{α:Type}{enc:α->Array Value}{R:α->Bool}(q:rh P w0 L f eS enc R){w:World}(hw:Mem w0 L w):rh P w [] f eS enc R:=
 ⟨q.fn,fun w1 h1 x=>q.h w1 (by simpa using hw.call h1) x⟩
end Go.ay
namespace Go.Proofs.YtkggjjnhnjjokaaGreatDoor
open Go.ay Go.Kb Go.RowKit
instance:dz Tryz.prog 432 (.agg (fe XH)):=⟨by kernel_rfl⟩
theorem JI(x:aJ)(p:Int)(w:World):(Instr.build 432 #[(0, .agg (bD x)),(1, .int .i64 p)]).run Tryz.prog w= .ok (.agg (fe ⟨x,p⟩)) w:=by
 obtain⟨a,b,c,d⟩:=x;unfold fe bD;kernel_rfl
variable {w0:World}{L:List aj}
instance al0{a:Int}:bY Tryz.prog 350 w0 L [.int .i64 a] (.bool false) (True):=⟨fun aA w hw=>by
 refine cw Tryz.func350 rfl Tryz.ntmps350 rfl ?_;refine dP ?_;refine Gr fun w1 hw=>?_;exact⟨congrArg (fun b=>Ending.returned (Value.bool b)) ((by simp)),ai.mem hw⟩⟩
instance al1{a:Int}{b:Int}:bY Tryz.prog 349 w0 L [.int .i64 a, .int .i64 b] (.int .i64 (xJ a b)) (True):=⟨fun aA w hw=>by
 refine cz Tryz.func349 rfl Tryz.ntmps349 rfl ?_;refine H3 ?_;refine gW rfl (fun h0=>?_) (fun h0=>?_)
 ·
  exfalso;simp at h0
 replace h0:=bz h0;refine al ?_;refine gW rfl (fun h2=>?_) (fun h2=>?_)
 ·
  exfalso;simp at h2
 replace h2:=bz h2;refine aH ?_;refine Gb (fun h3=>?_) fun h3=>?_
 ·
  refine al ?_;refine Gr fun w1 hw=>?_;exact Gf ((by rw[xJ,if_pos oM])) hw
 refine aH ?_;refine Gb (fun h4=>?_) fun h4=>?_
 ·
  refine al ?_;refine Gr fun w1 hw=>?_;exact Gf ((by rw[xJ,if_neg oM,if_pos oM])) hw
 refine al ?_;refine Gr fun w1 hw=>?_;exact⟨congrArg (fun b=>Ending.returned (Value.int .i64 b)) ((by rw[xJ,if_neg oM,if_neg oM])),ai.mem hw⟩⟩
theorem QM(w:World)(b:iF):Calls Tryz.prog 335 #[.agg (fe b)] w fun e w'=>e= .returned (.bool (sg b.ae b.w))/\Mem w [] w':=by
 refine cw Tryz.func335 rfl Tryz.ntmps335 rfl ?_;refine Gc ?_;refine bH rfl fun b1=>dP ?_;refine gh rfl rfl rfl (fun hg=>(Ry.yl (aK (o':=1) (aw hg rfl) rfl))) (cx ?_);refine Gr fun w1 hw=>?_;exact Ge (by simp only[sg,Bool.and_assoc]) hw
instance al2{b:iF}:bY Tryz.prog 335 w0 L [.agg (fe b)] (.bool (sg b.ae b.w)) (True):=⟨fun hp w hw=>QM w b⟩
theorem QN(w:World)(b:iF):Calls Tryz.prog 333 #[.agg (fe b)] w fun e w'=>e= .returned (.bool (sh b.w))/\Mem w [] w':=by
 refine cw Tryz.func333 rfl Tryz.ntmps333 rfl ?_;refine Gc ?_;refine bH rfl fun b1=>dP ?_;refine gh rfl rfl rfl (fun hg=>(Ry.yl (aK (o':=0) (aw hg rfl) rfl))) (aH ?_);refine gh rfl rfl rfl (fun hg=>(Ry.yl (aK (o':=1) (aw hg rfl) rfl))) (aH ?_);refine Gr fun w1 hw=>?_;exact Ge (by simp only[sh,Bool.and_assoc]) hw
instance al3{b:iF}:bY Tryz.prog 333 w0 L [.agg (fe b)] (.bool (sh b.w)) (True):=⟨fun hp w hw=>QN w b⟩
theorem aax(w:World)(b:iF):Calls Tryz.prog 340 #[.agg (fe b)] w fun e w'=>e= .returned (.bool (B9 b.ae b.w))/\Mem w [] w':=by
 refine cw Tryz.func340 rfl Tryz.ntmps340 rfl ?_;refine Gc ?_;refine bH rfl fun b1=>aT ?_;refine Gb (fun h0=>?_) fun h0=>?_
 ·
  refine cx ?_;refine Gr fun w1 hw=>?_;exact Ge (by rw[B9,if_pos h0]) hw
 refine fQ ?_;refine gh rfl rfl rfl (fun hg=>(Ry.yl (aK (o':=0) (aw hg rfl) rfl))) (aH ?_);refine gh rfl rfl rfl (fun hg=>(Ry.yl (aK (o':=0) (aw hg rfl) rfl))) (cx ?_);refine Gr fun w1 hw=>?_;exact Ge (by rw[B9,if_neg (by rw[h0];simp)]) hw
theorem aay(w:World)(a:iF)(b:iF):Calls Tryz.prog 336 #[.agg (fe a), .agg (fe b)] w fun e w'=>e= .returned (.int .i64 (IS a.w b.w))/\Mem w [] w':=by
 refine cz Tryz.func336 rfl Tryz.ntmps336 rfl ?_;refine Gc ?_;refine bH rfl fun b2=>bH rfl fun b3=>lR ?_;refine Gr fun w1 hw=>?_;exact⟨rfl,ai.mem hw⟩
theorem aaz(w:World)(a:iF)(b:iF):Calls Tryz.prog 334 #[.agg (fe a), .agg (fe b)] w fun e w'=>e= .returned (.int .i64 (Ca a.w b.w))/\Mem w [] w':=by
 refine cz Tryz.func334 rfl Tryz.ntmps334 rfl ?_;refine Gc ?_;refine bH rfl fun b2=>bH rfl fun b3=>lR ?_;refine Gr fun w1 hw=>?_;exact⟨rfl,ai.mem hw⟩
theorem aaA(w:World)(a:iF)(b:iF):Calls Tryz.prog 342 #[.agg (fe a), .agg (fe b)] w fun e w'=>e= .returned (.int .i64 (IT a.w b.w))/\Mem w [] w':=by
 refine cz Tryz.func342 rfl Tryz.ntmps342 rfl ?_;refine Gc ?_;refine bH rfl fun b2=>bH rfl fun b3=>lR ?_;refine Gr fun w1 hw=>?_;exact⟨rfl,ai.mem hw⟩
theorem aaB(w:World)(a:iF)(b:iF):Calls Tryz.prog 341 #[.agg (fe a), .agg (fe b)] w fun e w'=>e= .returned (.int .i64 (zQ a.w b.w))/\Mem w [] w':=by
 refine cz Tryz.func341 rfl Tryz.ntmps341 rfl ?_;refine Gc ?_;refine bH rfl fun b2=>bH rfl fun b3=>dP ?_;refine ag (TP rfl rfl Tryz.underlying4) (av ?_);refine Gb (fun h0=>?_) fun h0=>?_
 ·
  refine al ?_;refine Gr fun w1 hw=>?_;exact Gf ((by rw[zQ,if_pos (by simpa using h0)])) hw
 refine aT ?_;refine Gb (fun h1=>?_) fun h1=>?_
 ·
  refine al ?_;refine Gr fun w1 hw=>?_;exact Gf ((by rw[zQ,if_neg (by simpa using h0),if_pos h1])) hw
 refine al ?_;refine Gr fun w1 hw=>?_;exact Gf ((by rw[zQ,if_neg (by simpa using h0),if_neg (by rw[h1];simp)])) hw
instance al4{l:Sv}{ls:List aJ}{p:Int}[hl:ct w0 L bD 4 l ls]:bY Tryz.prog 346 w0 L [l.val, .int .i64 p] (.bool (oW ls p)) (True):=⟨fun aA w hw=>by
 have hl:=hl.h w hw;have qg:Gv w l bD 4 ls:=⟨hl⟩;have vJ:eo=1099511627776:=rfl;refine cz Tryz.func346 rfl Tryz.ntmps346 rfl ?_;refine VY ?_;refine Gb (fun h0=>?_) fun h0=>?_
 ·
  have hz:oW ls p=false:=by
   cases hk:oW ls p with
   |false=>rfl
   |true=>have g:=Cb.1 hk;omega
  refine al ?_;refine Gr fun w1 hw=>?_;exact Ge (hz.symm) hw
 refine aH ?_;refine bA (X:=Nat) (fun zz=>[(25, .int .i64 (zz:Nat)),(1, .int .i64 p),(23,l.val),(24, .int .i64 (ls.length:Nat))]) (fun zz=>[]) (fun zz=>zz<=ls.length/\ ∀j x,j<zz->ls[j]? =Option.some x->vH p x=true) (fun zz=>ls.length -zz) 0 ⟨Nat.zero_le _,fun j x hj=>by first|omega|(simp only[];omega)⟩ sb (fun w hw=>ai.mem hw) ?_;rintro i ⟨aQ,az⟩;refine al ?_;refine Gb (fun h1=>?_) fun h1=>?_
 ·
  refine jS ?_;obtain⟨x,hx⟩:=get_some (xs:=ls) (i:=i) oM;refine ag (aR rfl rfl i rfl oM) (ag (fC rfl i hx rfl) (bn fun b6=>Nn ?_));refine Gb (fun h2=>?_) fun h2=>?_
  ·
   have hz:oW ls p=false:=by
    cases hk:oW ls p with
    |false=>rfl
    |true=>
     have g:=zR.1 ((Cb.1 hk).2.2.2.2 x (alM hx));omega
   refine al ?_;refine Gr fun w1 hw=>?_;exact Ge (hz.symm) hw
  have zW:vH p x=true:=zR.2 ⟨by omega,by omega,by omega,by omega,by omega⟩;refine al ?_;refine Gi ?_;exact aW (x:=(i)) (i+1) ⟨oF,fun j y hj hy=>if e:j=i then(by subst e;rw[hx]at hy;cases hy;exact zW)else az j y oF hy⟩ oF sb (fun w hw=>ai.mem hw)
 obtain rfl:i=ls.length:=by omega
 have hz:oW ls p=true:=Cb.2 ⟨by omega,by omega,by omega,by omega,fun x hx=>by
  obtain⟨j,hj⟩:=aqj hx;exact az j x (ad2.1 hj).1 hj⟩
 refine al ?_;refine Gr fun w1 hw=>?_;exact⟨congrArg (fun b=>Ending.returned (Value.bool b)) (hz.symm),ai.mem hw⟩⟩
def gS(f:FuncId):aJ->aJ->Int:=if f=336 then IS else if f=334 then Ca else if f=342 then IT else zQ
theorem aaC{f:FuncId}(h:f∈[336,334,342,341]):aE Tryz.prog f/\ ∀(w:World) (a b:iF),Calls Tryz.prog f #[.agg (fe a), .agg (fe b)] w fun e w'=>e= .returned (.int .i64 (gS f a.w b.w))/\Mem w [] w':=by
 simp only[apn,ar7,or_false]at h;rcases h with rfl|rfl|rfl|rfl
 ·
  exact⟨inferInstance,fun w a b=>aay w a b⟩
 ·
  exact⟨inferInstance,fun w a b=>aaz w a b⟩
 ·
  exact⟨inferInstance,fun w a b=>aaA w a b⟩
 exact⟨inferInstance,fun w a b=>aaB w a b⟩
def lF(f:FuncId)(p:Int):aJ->Bool:=if f=335 then sg p else if f=333 then sh else B9 p
theorem aaD{f:FuncId}(h:f∈[335,333,340]):aE Tryz.prog f/\ ∀(w:World) (b:iF),Calls Tryz.prog f #[.agg (fe b)] w fun e w'=>e= .returned (.bool (lF f b.ae b.w))/\Mem w [] w':=by
 simp only[apn,ar7,or_false]at h;rcases h with rfl|rfl|rfl
 ·
  exact⟨inferInstance,fun w b=>QM w b⟩
 ·
  exact⟨inferInstance,fun w b=>QN w b⟩
 exact⟨inferInstance,fun w b=>aax w b⟩
instance al5{a:iF}{b:iF}{o:Sv}{os:List FuncId}[ho:ct w0 L sN 1 o os]:bY Tryz.prog 348 w0 L [.agg (fe a), .agg (fe b),o.val] (.bool (si a.w b.w (os.map gS))) (∀f∈os,f∈[336,334,342,341]):=⟨fun aA w hw=>by
 have ho:=ho.h w hw;have gho:Gv w o sN 1 os:=⟨ho⟩;have iO:=ho.bd;refine pS Tryz.func348 rfl Tryz.ntmps348 rfl ?_;refine Gc ?_;refine bH rfl fun b3=>bH rfl fun b4=>aT ?_;refine bA (X:=Nat) (fun zz=>[(12, .int .i64 (zz:Nat)),(3, .pointer (some ⟨b3,0,none⟩)),(4, .pointer (some ⟨b4,0,none⟩)),(10,o.val),(11, .int .i64 (os.length:Nat))]) (fun zz=>[an b4 (fe b) 432,an b3 (fe a) 432]) (fun zz=>zz<=os.length/\si a.w b.w (os.map gS)=si a.w b.w ((os.drop zz).map gS)) (fun zz=>os.length -zz) 0 ⟨Nat.zero_le _,rfl⟩ sb (fun w hw=>ai.mem hw) ?_;rintro i ⟨aQ,az⟩;refine al ?_;refine Gb (fun h0=>?_) fun h0=>?_
 ·
  obtain⟨f,hf⟩:=get_some (xs:=os) (i:=i) oM;obtain⟨isf,hfc⟩:=aaC (aA f (alM hf));have bu:si a.w b.w ((os.drop i).map gS)=if gS f a.w b.w≠0 then decide (gS f a.w b.w<0)else si a.w b.w ((os.drop (i+1)).map gS):=by
   rw[drop_at hf,apY,si]
  refine Gc ?_;refine ag (aR rfl rfl i rfl oM) (ag (bC (j:=0) rfl i hf rfl (by decide)) (aH ?_));refine dv (Fu (f:=f) (vs:=[.agg (fe a), .agg (fe b)]) rfl rfl (fun w1 _=>hfc w1 a b)) (aH ?_);refine Gb (fun h1=>?_) fun h1=>?_
  ·
   have hz:si a.w b.w (os.map gS)=decide (gS f a.w b.w<0):=by rw[az,bu,if_pos h1]
   refine aH ?_;refine Gr fun w1 hw=>?_;exact Ge (hz.symm) hw
  rw[if_neg oM]at bu;refine al ?_;refine Gi ?_;exact aW (x:=(i)) (i+1) ⟨oF,by rw[az,bu]⟩ oF sb (fun w hw=>ai.mem hw)
 obtain rfl:i=os.length:=by omega
 have hz:si a.w b.w (os.map gS)=false:=by rw[az,arp];rfl
 refine al ?_;refine Gr fun w1 hw=>?_;exact⟨congrArg (fun b=>Ending.returned (Value.bool b)) (hz.symm),ai.mem hw⟩⟩
instance al6{r:FuncId}{l:Sv}{ls:List aJ}{p:Int}{o:Sv}{os:List FuncId}[hl:ct w0 L bD 4 l ls][ho:ct w0 L sN 1 o os]:bY Tryz.prog 332 w0 L [l.val, .int .i64 p, .func (.func r) #[] #[],o.val] (.tuple #[.int .i64 ((fS ls p (lF r p) (os.map gS)).1), .bool ((fS ls p (lF r p) (os.map gS)).2)]) (r∈[335,333,340]/\ ∀f∈os,f∈[336,334,342,341]):=⟨fun aA w hw=>by
 have hl:=hl.h w hw;have ho:=ho.h w hw;have qg:Gv w l bD 4 ls:=⟨hl⟩;have gho:Gv w o sN 1 os:=⟨ho⟩;obtain⟨df,ho2⟩:=aA;obtain⟨isr,hrc⟩:=aaD df;have iO:=hl.bd;refine No Tryz.func332 rfl Tryz.ntmps332 rfl ?_;refine fQ ?_;refine Gb (fun h0=>?_) fun h0=>?_
 ·
  have hE:fS ls p (lF r p) (os.map gS)=(0,false):=if_neg (by rw[h0];simp);refine au ?_;refine Gr fun w1 hw=>?_;exact⟨by rw[hE],ai.mem hw⟩
 have hE:fS ls p (lF r p) (os.map gS)=gQ ls (lF r p) (os.map gS) ls.length:=if_pos h0;refine dP ?_;refine bA (X:=Nat) (fun zz=>[(21, .int .i64 (zz:Nat)),(10, .int .i64 ((gQ ls (lF r p) (os.map gS) zz).1)),(11, .bool ((gQ ls (lF r p) (os.map gS) zz).2)),(0,l.val),(1, .int .i64 p),(2, .func (.func r) #[] #[]),(3,o.val),(19,l.val),(20, .int .i64 (ls.length:Nat))]) (fun zz=>[]) (fun zz=>zz<=ls.length) (fun zz=>ls.length -zz) 0 (apE _) sb (fun w hw=>ai.mem hw) ?_;rintro i aQ;refine al ?_;refine Gb (fun h1=>?_) fun h1=>?_
 ·
  obtain⟨x,hx⟩:=get_some (xs:=ls) (i:=i) oM;have JJ:ls.getD i ik=x:=by simp[List.getD,hx]
  have hle:=IU ls (lF r p) (os.map gS) i;refine av ?_;refine ag (aR rfl rfl i rfl oM) (ag (fC rfl i hx rfl) (bn fun hQ=>aH ?_));refine ag (cN (v:= .agg (fe ⟨x,p⟩)) rfl (JI x p)) (bn fun yg=>au ?_);refine dv (Fu (f:=r) (vs:=[.agg (fe ⟨x,p⟩)]) rfl rfl (fun w1 _=>hrc w1 ⟨x,p⟩)) (av ?_);refine Gb (fun h2=>?_) fun h2=>?_
  ·
   have bu:(gQ ls (lF r p) (os.map gS) (i+1))=(gQ ls (lF r p) (os.map gS) i):=by rw[gQ,zS,JJ,if_neg (by rw[h2];simp)]
   refine al ?_;refine Gi ?_;exact aW (x:=(i)) (i+1) oF oF (Sub.cons rfl (Sub.cons (look_eq rfl (by rw[bu])) (Sub.cons (look_eq rfl (by rw[bu])) sb))) (fun w hw=>ai.mem hw)
  refine Gc ?_;refine fA oK oK (al ?_);refine eV rfl rfl rfl (fun hg=>(Ry.yl (fW rfl))) (av ?_);refine eV rfl rfl rfl (fun hg=>(Ry.yl (aR (aw hg rfl) (aw hg rfl) ((gQ ls (lF r p) (os.map gS) i).1.toNat) oM (by have:=hle.1;have:=hle.2.1;have:=(ad2.1 hx).1;omega)))) ?_;refine eV rfl rfl rfl (fun hg=>(Ry.yl (fC (aw hg rfl) ((gQ ls (lF r p) (os.map gS) i).1.toNat) (kL (d:=ik) (by have:=hle.1;have:=hle.2.1;have:=(ad2.1 hx).1;omega)) rfl))) ?_;refine Gh ?_;refine eV rfl rfl rfl (fun hg=>(Ry.yl (cN (v:= .agg (fe ⟨(ls.getD (gQ ls (lF r p) (os.map gS) i).1.toNat ik),p⟩)) (Bd (aw hg rfl) (Bd (aw hg rfl) LA)) (JI (ls.getD (gQ ls (lF r p) (os.map gS) i).1.toNat ik) p)))) (Gh ?_);refine eV rfl rfl rfl (fun hg=>bP (cZ (aw hg rfl) (cZ (aw hg rfl) (cZ (aw hg rfl) fu))) ho2) (av ?_);refine Gb (fun h3=>?_) fun h3=>?_
  ·
   have bu:(gQ ls (lF r p) (os.map gS) (i+1))=((i:Int),true):=by
    rw[gQ,zS,JJ,if_pos ⟨h2,h3⟩]
   refine Gi ?_;refine aT ?_;refine Gi ?_;exact aW (x:=(i)) (i+1) oF oF (Sub.cons rfl (Sub.cons (look_eq rfl (by rw[bu])) (Sub.cons (look_eq rfl (by rw[bu])) sb))) (fun w hw=>ai.mem hw)
  have bu:(gQ ls (lF r p) (os.map gS) (i+1))=(gQ ls (lF r p) (os.map gS) i):=by
   rw[gQ,zS,JJ,if_neg];rintro⟨_,g⟩;rcases g with g|g
   ·
    exact absurd (h3.1.symm.trans g) (by simp)
   exact absurd (h3.2.symm.trans g) (by simp)
  refine al ?_;refine Gi ?_;exact aW (x:=(i)) (i+1) oF oF (Sub.cons rfl (Sub.cons (look_eq rfl (by rw[bu])) (Sub.cons (look_eq rfl (by rw[bu])) sb))) (fun w hw=>ai.mem hw)
 obtain rfl:i=ls.length:=by omega
 refine aT ?_;refine Gr fun w1 hw=>?_;exact⟨by rw[hE],ai.mem hw⟩⟩
instance al7{l:Sv}{ls:List aJ}{p:Int}[hl:ct w0 L bD 4 l ls]:bY Tryz.prog 313 w0 L [l.val, .int .i64 p] (.tuple #[.int .i64 ((fZ ls p).1), .bool ((fZ ls p).2)]) (True):=⟨fun aA w hw=>by
 have hl:=hl.h w hw;have qg:Gv w l bD 4 ls:=⟨hl⟩;refine cz Tryz.func313 rfl Tryz.ntmps313 rfl ?_;refine aT ?_;refine jO (enc:=sN) (vals:=[.func (.func 336) #[] #[], .func (.func 334) #[] #[]]) [336,334] rfl rfl rfl (by decide) (by decide) fun b8=>?_;refine dv (bP rfl (by decide)) (ag (aI rfl rfl) (ag (aI rfl rfl) (al ?_)));refine Gr fun w1 hw=>?_;exact⟨rfl,ai.mem hw⟩⟩
instance al8{l:Sv}{ls:List aJ}{p:Int}[hl:ct w0 L bD 4 l ls]:bY Tryz.prog 310 w0 L [l.val, .int .i64 p] (.tuple #[.int .i64 ((gI ls p).1), .bool ((gI ls p).2)]) (True):=⟨fun aA w hw=>by
 have hl:=hl.h w hw;have qg:Gv w l bD 4 ls:=⟨hl⟩;refine cz Tryz.func310 rfl Tryz.ntmps310 rfl ?_;refine aT ?_;refine jO (enc:=sN) (vals:=[.func (.func 334) #[] #[]]) [334] rfl rfl rfl (by decide) (by decide) fun b8=>?_;refine dv (bP rfl (by decide)) (ag (aI rfl rfl) (ag (aI rfl rfl) (al ?_)));refine Gr fun w1 hw=>?_;exact⟨rfl,ai.mem hw⟩⟩
instance al9{l:Sv}{ls:List aJ}{p:Int}[hl:ct w0 L bD 4 l ls]:bY Tryz.prog 327 w0 L [l.val, .int .i64 p] (.tuple #[.int .i64 ((xK ls p).1), .bool ((xK ls p).2)]) (True):=⟨fun aA w hw=>by
 have hl:=hl.h w hw;have qg:Gv w l bD 4 ls:=⟨hl⟩;refine cz Tryz.func327 rfl Tryz.ntmps327 rfl ?_;refine aT ?_;refine jO (enc:=sN) (vals:=[.func (.func 341) #[] #[], .func (.func 342) #[] #[], .func (.func 334) #[] #[]]) [341,342,334] rfl rfl rfl (by decide) (by decide) fun b8=>?_;refine dv (bP rfl (by decide)) (ag (aI rfl rfl) (ag (aI rfl rfl) (al ?_)));refine Gr fun w1 hw=>?_;exact⟨rfl,ai.mem hw⟩⟩
instance ama{l:Sv}{ls:List aJ}{p:Int}[hl:ct w0 L bD 4 l ls]:bY Tryz.prog 330 w0 L [l.val, .int .i64 p] (.int .i64 (EW ls p)) (True):=⟨fun aA w hw=>by
 have hl:=hl.h w hw;have qg:Gv w l bD 4 ls:=⟨hl⟩;refine cz Tryz.func330 rfl Tryz.ntmps330 rfl ?_;refine dP ?_;refine Gb (fun h0=>?_) fun h0=>?_
 ·
  have hE:EW ls p=0:=if_neg (by rw[h0];simp);refine al ?_;refine Gr fun w1 hw=>?_;exact Gf (by rw[hE]) hw
 have hE:EW ls p=mC (ls.map (mB p)):=if_pos h0;obtain⟨k1,k2,k3,k4,k5⟩:=Cb.1 h0;refine cx ?_;refine bA (X:=Nat) (fun zz=>[(15, .int .i64 (zz:Nat)),(5, .int .i64 (mC ((ls.take zz).map (mB p)))),(1, .int .i64 p),(13,l.val),(14, .int .i64 (ls.length:Nat))]) (fun zz=>[]) (fun zz=>zz<=ls.length) (fun zz=>ls.length -zz) 0 (apE _) sb (fun w hw=>ai.mem hw) ?_;rintro i aQ;refine al ?_;refine Gb (fun h1=>?_) fun h1=>?_
 ·
  obtain⟨x,hx⟩:=get_some (xs:=ls) (i:=i) oM;have zW:=zR.1 (k5 x (alM hx));have eG:(mC ((ls.take (i+1)).map (mB p)))=(mC ((ls.take i).map (mB p)))+mB p x:=by rw[aps,hx,ap6,Yc];simp[mC]
  have hsb:=OZ p (ls.take i) (fun x hx=>k5 x (art hx)) oM;have km:(ls.take i).length<=32:=by rw[apk];omega
  have kb:((ls.take i).length:Int)*p<=512:=room_le km oM oM;refine Gc ?_;refine ag (aR rfl rfl i rfl oM) (ag (fC rfl i hx rfl) (bn fun b7=>au ?_));refine ag (cN (v:= .agg (fe ⟨x,p⟩)) rfl (JI x p)) (bn fun b8=>aT ?_);refine Gb (fun h2=>?_) fun h2=>?_
  ·
   have hr:mB p x=p:=if_pos h2;refine Gi ?_;refine cx ?_;refine Gi ?_;exact aW (x:=(i)) (i+1) oF oF (Sub.cons rfl (Sub.cons (look_eq rfl (by rw[eG,hr])) sb)) (fun w hw=>ai.mem hw)
  refine aH ?_;refine Gb (fun h3=>?_) fun h3=>?_
  ·
   have hr:mB p x=p -x.used:=by rw[mB,if_neg (by rw[h2];simp),if_pos h3]
   refine Gi ?_;refine au ?_;refine ag (Ry.to (v':= .int .i64 x.used) (bQ rfl) rfl) (aT ?_);refine Gi ?_;exact aW (x:=(i)) (i+1) oF oF (Sub.cons rfl (Sub.cons (look_eq rfl (by rw[eG,hr])) sb)) (fun w hw=>ai.mem hw)
  have hr:mB p x=0:=by rw[mB,if_neg (by rw[h2];simp),if_neg (by rw[h3];simp)]
  refine al ?_;refine Gi ?_;exact aW (x:=(i)) (i+1) oF oF (Sub.cons rfl (Sub.cons (look_eq rfl (by rw[eG,hr,Int.add_zero])) sb)) (fun w hw=>ai.mem hw)
 obtain rfl:i=ls.length:=by omega
 refine au ?_;refine Gr fun w1 hw=>?_;exact⟨congrArg (fun b=>Ending.returned (Value.int .i64 b)) (by rw[hE,apI]),ai.mem hw⟩⟩
instance amb{n:Nat}:bE Tryz.prog 302 w0 L [.slice none 0 0, .int .i64 (n:Nat)] (Sv) (fun zz=>zz.val) (fun zz=>own (bU (τ:=UInt8)) 1 zz ([]:List (Sl UInt8))::L) (fun zz=>True) (n<=1000000000):=⟨fun aA w hw=>Gk (fun zz=>[own (bU (τ:=UInt8)) 1 zz ([]:List (Sl UInt8))]) hw (by
 refine cz Tryz.func302 rfl Tryz.ntmps302 rfl ?_;refine aT ?_;refine Gb (fun h0=>?_) fun h0=>?_
 ·
  exfalso;omega
 refine al ?_;refine ag (zq rfl) (Gs ?_);refine ag (th rfl) (cx ?_);refine Gb (fun h1=>?_) fun h1=>?_
 ·
  refine Gi ?_;refine av ?_;refine ag (zq rfl) (ag (Ry.to (v':= .slice none 0 0) (qC (s:=Sv.none) (h:=0) rfl rfl rfl Sv.yX (apm _)) rfl) (Gs ?_));refine Ih (enc:=(bU (τ:=UInt8))) (k:=n) (⟨Sv.none,[]⟩:Sl UInt8) rfl rfl oM oM (by decide) rfl Tryz.underlying3 oM oM fun vY vZ Ct=>Gs ?_;refine ag (th rfl) (ag (qC (s:=⟨false,vY,0,n,vZ,none⟩) (h:=0) rfl rfl rfl ⟨(fun h=>by cases h),Ct,by simp only;omega,fun _=>rfl⟩ (apE _)) (aH ?_));refine Gr fun w1 hw=>?_;refine⟨Sv.sub ⟨false,vY,0,n,vZ,none⟩ 1 0 0,rfl,trivial,?_⟩;have eZ:=Mem.Ig (i:=0) (k:=0) hw rfl (apE _);rw[apK]at eZ;exact eZ
 have hn:n=0:=by omega
 refine au ?_;refine Gr fun w1 hw=>?_;exact⟨Sv.none,rfl,trivial,(ai.mem hw:Mem w [] _).cO (bU (τ:=UInt8)) 1⟩)⟩
instance QO{a:Sl (Sl (Sl UInt8))}[ha:aV w0 L a]:bE Tryz.prog 258 w0 L [a.sv.val] (Sv) (fun zz=>zz.val) (fun zz=>own (bU (τ:=UInt8)) 1 zz (ff a.xs)::L) (fun zz=>True) ((ff a.xs).length<=1000000):=⟨fun aA w hw=>Gk (fun zz=>[own (bU (τ:=UInt8)) 1 zz (ff a.xs)]) hw (by
 have ha:=ha.h w hw;have Fw:cy w a:=⟨ha⟩;have mU:=ha.1.bd;have dw:=X0 a.xs;refine cw Tryz.func258 rfl Tryz.ntmps258 rfl ?_;refine fQ ?_;refine bA (X:=Nat) (fun zz=>[(11, .int .i64 (zz:Nat)),(3, .int .i64 ((ff (a.xs.take zz)).length:Nat)),(0,a.sv.val),(9,a.sv.val),(10, .int .i64 (a.xs.length:Nat))]) (fun zz=>[]) (fun zz=>zz<=a.xs.length) (fun zz=>a.xs.length -zz) 0 (apE _) sb (fun w hw=>ai.mem hw) ?_;rintro i hi;have rT:=dw i;have jx:=dw (i+1);refine al ?_;refine Gb (fun h0=>?_) fun h0=>?_
 ·
  refine jS ?_;obtain⟨x,hx⟩:=get_some (xs:=a.xs) (i:=i) oM;refine ag (aR rfl rfl i rfl oM) (ag (bC (j:=0) rfl i hx rfl (by decide)) ?_);have QC:(ff (a.xs.take (i+1))).length=(ff (a.xs.take i)).length+x.xs.length:=by rw[EU hx,af0]
  have Cu:Mb x _:=⟨List.mem_of_getElem? hx⟩;refine lR ?_;refine Gb (fun h1=>?_) fun h1=>?_
  ·
   exfalso;omega
  refine al ?_;refine Gi ?_;exact aW (x:=(i)) (i+1) oF oF (Sub.cons rfl (Sub.cons (look_eq rfl (by rw[EU hx,af0];simp)) sb)) (fun w hw=>ai.mem hw)
 obtain rfl:i=a.xs.length:=by omega
 have lO:=dw a.xs.length;refine av ?_;refine aY rfl oM fun rb Fx=>aT ?_;refine bA (X:=Nat×Sv) (fun zz=>[(27, .int .i64 (zz.1:Nat)),(6,zz.2.val),(25,a.sv.val),(26, .int .i64 (a.xs.length:Nat))]) (fun zz=>[own (bU (τ:=UInt8)) 1 zz.2 (ff (a.xs.take zz.1))]) (fun zz=>zz.1<=a.xs.length) (fun zz=>a.xs.length -zz.1) (0,rb) (Nat.zero_le _) sb (fun w hw=>(ai.mem hw:Mem _ [own (bU (τ:=UInt8)) 1 rb ([]:List (Sl UInt8))] _)) ?_;rintro⟨k,s1⟩ hk;dsimp only;simp only at hk;have rT:=dw k;have jx:=dw (k+1);refine al ?_;refine Gb (fun h2=>?_) fun h2=>?_
 ·
  refine jS ?_;obtain⟨y,hy⟩:=get_some (xs:=a.xs) (i:=k) oM;refine ag (aR rfl rfl k rfl oM) (ag (bC (j:=0) rfl k hy rfl (by decide)) ?_);have QD:(ff (a.xs.take (k+1))).length=(ff (a.xs.take k)).length+y.xs.length:=by rw[EU hy,af0]
  have JA:Mb y _:=⟨List.mem_of_getElem? hy⟩;refine au ?_;refine jd (s:=s1) (enc:=(bU (τ:=UInt8))) (ys:=y.xs) rfl rfl (by decide) (fun w hw=>ib (s:=y.sv) Tryz.underlying178 (by decide) ((inferInstance:ct _ _ (bU (τ:=UInt8)) 1 y.sv y.xs).h w hw)) oM oM fun Cv QE QF=>?_;refine au ?_;refine Gi ?_;exact aW (x:=(k,s1)) (k+1,Cv) (by simp only;omega) (by simp only;omega) sb (fun w hw=>by rw[EU hy];exact ai.mem hw)
 obtain rfl:k=a.xs.length:=by omega
 refine au ?_;refine Gr fun w1 hw=>?_;exact⟨s1,rfl,trivial,by rw[apI]at hw;exact ai.mem hw⟩)⟩
instance amc{x:Sv}{xs:List Int}{y:Sv}{ys:List Int}[hx:ct w0 L bw 1 x xs][hy:ct w0 L bw 1 y ys]:bY Tryz.prog 167 w0 L [x.val,y.val] (.bool (decide (xs=ys))) (True):=⟨fun aA w hw=>by
 have hx:=hx.h w hw;have hy:=hy.h w hw;have Aj:Gv w x bw 1 xs:=⟨hx⟩;have QP:Gv w y bw 1 ys:=⟨hy⟩;have hbx:=hx.bd;refine cz Tryz.func167 rfl Tryz.ntmps167 rfl ?_;refine fQ ?_;refine Gb (fun h0=>?_) fun h0=>?_
 ·
  have hz:decide (xs=ys)=false:=decide_eq_false fun e=>h0 (by rw[e]);refine al ?_;refine Gr fun w1 hw=>?_;exact Ge (hz.symm) hw
 have ot:xs.length=ys.length:=by omega
 refine aH ?_;refine bA (X:=Nat) (fun zz=>[(13, .int .i64 (zz:Nat)),(0,x.val),(1,y.val),(12, .int .i64 (xs.length:Nat))]) (fun zz=>[]) (fun zz=>zz<=xs.length/\ ∀j,j<zz->xs[j]? =ys[j]?) (fun zz=>xs.length -zz) 0 ⟨Nat.zero_le _,fun j hj=>by first|omega|(simp only[];omega)⟩ sb (fun w hw=>ai.mem hw) ?_;rintro i ⟨aQ,az⟩;refine al ?_;refine Gb (fun h1=>?_) fun h1=>?_
 ·
  obtain⟨p,jQ⟩:=get_some (xs:=xs) (i:=i) oM;obtain⟨q,uq⟩:=get_some (xs:=ys) (i:=i) oM;refine au ?_;refine fA oK oK (av ?_);refine bx (aR rfl rfl i rfl oM) (bx (bC (j:=0) rfl i jQ rfl (by decide)) (av ?_));refine bx (aR rfl rfl i rfl oM) (bx (bC (j:=0) rfl i uq rfl (by decide)) (av ?_));refine Gb (fun h2=>?_) fun h2=>?_
  ·
   have hz:decide (xs=ys)=false:=decide_eq_false fun e=>h2 (by rw[e]at jQ;rw[jQ]at uq;cases uq;rfl);refine al ?_;refine Gr fun w1 hw=>?_;exact Ge (hz.symm) hw
  refine al ?_;refine Gi ?_;exact aW (x:=(i)) (i+1) ⟨oF,fun j hj=>if e:j=i then(by subst e;rw[jQ,uq,h2])else az j oF⟩ oF sb (fun w hw=>ai.mem hw)
 obtain rfl:i=xs.length:=by omega
 have hz:decide (xs=ys)=true:=decide_eq_true (ap2 fun j=>by
  rcases apo j xs.length with hj|hj
  ·
   exact az j hj
  rw[apt hj,apt oM])
 refine al ?_;refine Gr fun w1 hw=>?_;exact⟨congrArg (fun b=>Ending.returned (Value.bool b)) (hz.symm),ai.mem hw⟩⟩
theorem aaE(g:UInt64)(w:World):(Instr.build 314 #[(0, .int .u64 (g.toNat:Int))]).run Tryz.prog w= .ok (.agg (dS ⟨g,⟨Sv.none,[]⟩⟩)) w:=by
 unfold dS;kernel_rfl
instance amd{b:Sv}{bs:List UInt8}[hb:ct w0 L aP 1 b bs]:bE Tryz.prog 297 w0 L [b.val] (cY) (fun zz=> .tuple #[.agg (dS zz), .int .i64 ((fm bs).2)]) (fun zz=>own bw 1 zz.at_.sv zz.at_.xs::L) (fun zz=>db zz=(fm bs).1) (True):=⟨fun aA w hw=>Gk (fun zz:cY=>[own bw 1 zz.at_.sv zz.at_.xs]) hw (by
 have hb:=hb.h w hw;have yf:Gv w b aP 1 bs:=⟨hb⟩;refine cw Tryz.func297 rfl Tryz.ntmps297 rfl ?_;refine Gc ?_;refine bn fun b2=>al ?_;refine aY rfl trivial fun dq yk=>?_;have FA:dq.kind=(dm bs).1.kind:=congrArg PV.kind yk;have QQ:dq.id=(dm bs).1.id:=congrArg PV.id yk;have ur:dq.gen.toNat=(dm bs).1.gen:=congrArg PV.gen yk;have oo:dq.body.xs=(dm bs).1.body:=congrArg PV.body yk;have eO:=IH bs;rw[←oo]at eO;refine Gs ?_;refine ag (aI (v:= .agg (cL dq)) rfl rfl) (ag (aI (v:= .int .i64 ((dm bs).2)) rfl rfl) (bn fun b4=>aT ?_));refine Gb (fun h0=>?_) fun h0=>?_
 ·
  have hE:fm bs=(gH,(dm bs).2):=by rw[fm,if_pos h0]
  refine Gc ?_;refine ag (cN (v:= .agg (dS kR)) rfl (fun w=>by kernel_rfl)) (au ?_);refine Gr fun w1 hw=>?_;exact⟨kR,by rw[hE],by rw[hE];rfl,Mem.cO bw 1 (ai.mem hw:Mem w [] _)⟩
 refine aH ?_;refine Gb (fun h1=>?_) fun h1=>?_
 ·
  have hE:fm bs=(gH,6):=by rw[fm,if_neg oM,if_pos oM]
  refine Gc ?_;refine ag (cN (v:= .agg (dS kR)) rfl (fun w=>by kernel_rfl)) (al ?_);refine Gr fun w1 hw=>?_;exact⟨kR,by rw[hE],by rw[hE];rfl,Mem.cO bw 1 (ai.mem hw:Mem w [] _)⟩
 refine au ?_;refine ag (lf rfl rfl oM oM) (fQ ?_);refine bo rfl rfl rfl (fun hg=>(Ry.yl (L6 (p:=dq.body.xs.length) (q:=2) (aw hg rfl) rfl rfl rfl (by simp only[Z0,Z1,Z2,Z3,Z4,Z5,Z6,Z7,Z8,Z9]at hg;omega)))) (aT ?_);refine bo rfl rfl rfl (fun hg=>(Ry.yl (kI (aw hg rfl) rfl (by simp only[Z0,Z1,Z2,Z3,Z4,Z5,Z6,Z7,Z8,Z9]at hg;omega)))) (bo rfl rfl rfl (fun hg=>(Ry.yl (u4 rfl (aw hg rfl)))) (al ?_));refine Gb (fun h2=>?_) fun h2=>?_
 ·
  have pj:vB (dm bs).1=false:=by
   cases hk:vB (dm bs).1 with
   |false=>rfl
   |true=>
    simp only[vB,anc,decide_eq_true_eq,←FA,←QQ,←oo]at hk;omega
  have hE:fm bs=(gH,2):=by rw[fm,if_neg oM,if_neg oM,if_pos pj]
  refine Gc ?_;refine ag (cN (v:= .agg (dS kR)) rfl (fun w=>by kernel_rfl)) (al ?_);refine Gr fun w1 hw=>?_;exact⟨kR,by rw[hE],by rw[hE];rfl,Mem.cO bw 1 (ai.mem hw:Mem w [] _)⟩
 have pj:vB (dm bs).1=true:=by
  simp only[vB,anc,decide_eq_true_eq,←FA,←QQ,←oo];omega
 have hE:fm bs=(⟨dq.gen.toNat,pZ dq.body.xs⟩,0):=by rw[fm,if_neg oM,if_neg oM,if_neg (by rw[pj];simp),ur,oo]
 have CA:=IJ dq.body.xs;refine al ?_;refine ag (cN (v:= .agg (dS ⟨dq.gen,⟨Sv.none,[]⟩⟩)) rfl (aaE dq.gen)) (bn fun b7=>aH ?_);refine bA (X:=Nat×Sv) (fun zz=>[(49, .int .i64 (zz.1:Nat)),(7, .pointer (some ⟨b7,0,none⟩)),(2, .pointer (some ⟨b2,0,none⟩)),(4, .pointer (some ⟨b4,0,none⟩)),(48, .int .i64 ((dq.body.xs.length/2):Nat))]) (fun zz=>[an b7 (dS ⟨dq.gen,⟨zz.2,(pZ dq.body.xs).take zz.1⟩⟩) 314,own bw 1 zz.2 ((pZ dq.body.xs).take zz.1),an b4 (cL dq) 324,own aP 1 dq.body.sv dq.body.xs,an b2 (dS kR) 314]) (fun zz=>zz.1<=dq.body.xs.length/2) (fun zz=>dq.body.xs.length/2 -zz.1) (0,Sv.none) (apE _) sb (fun w hw=>by
  simp only[apK];exact ai.mem (Mem.cO bw 1 hw)) ?_
 rintro⟨i,s1⟩ aQ;dsimp only;simp only at aQ;refine al ?_;refine Gb (fun h3=>?_) fun h3=>?_
 ·
  have eG:=XT (b:=dq.body.xs) (i:=i) oM;refine au ?_;refine rU [19,20,22,1001,2019] [[],[],[],[],[],[],[],[],[],[],[],[],[],[],[],[],[],[],[],[],[1,19],[1,19,20],[1,19,20]] [0,1,2,3,4,5,6,7,8,9,10,11,12,13,14,15,16,17,18,19,20,21,22] [an b4 (cL dq) 324,own aP 1 dq.body.sv dq.body.xs] [(19,vp bw 1 1 [(qR dq.body.xs i)])] oK (fun _ hw=>ai.mem hw) oK oK (ar rfl (aK (o':=1) rfl rfl) (ko rfl (bQ rfl) (ar rfl (aK (o':=3) rfl rfl) (ar rfl (bQ rfl) (ar rfl (bf rfl) (ar rfl (mX rfl rfl oM) (ar rfl (aR rfl rfl (2*i) rfl oM) (ar rfl (bC (j:=0) rfl (2*i) (kL (xs:=dq.body.xs) (i:=2*i) (d:=0) oM) rfl (by decide)) (ar rfl (xd rfl) (ar rfl (L8 rfl rfl) (ar rfl (aK (o':=3) rfl rfl) (ar rfl (bQ rfl) ?_))))))))))));refine ar rfl (bf rfl) (ar rfl (mX rfl rfl oM) (ar rfl (uZ rfl rfl oM) (ar rfl (aR rfl rfl (2*i+1) rfl oM) (ar rfl (bC (j:=0) rfl (2*i+1) (kL (xs:=dq.body.xs) (i:=2*i+1) (d:=0) oM) rfl (by decide)) (ar rfl (xd rfl) (ar rfl (L9 rfl rfl) (oP (m:=vp bw 1 1 [(qR dq.body.xs i)]) rfl rfl (Nj (enc:=bw) (c:=1) (n:=1) (vals:=[.int .i64 (qR dq.body.xs i)]) [(qR dq.body.xs i)] rfl rfl rfl (by decide) (by decide)) (Cert.none rfl) fun FB=>?_)))))));change Ln _ _ _ _ _ _ _ _ (ca _ _ (Sv.val ⟨false,FB,0,1,1,none⟩)) (own bw 1 ⟨false,FB,0,1,1,none⟩ [(qR dq.body.xs i)]::_) _;refine c8 rfl (VL (s:=s1) (ys:=[(qR dq.body.xs i)]) rfl rfl (by decide) (fun w hw=>ib (s:=⟨false,FB,0,1,1,none⟩) Tryz.underlying60 (by decide) ((inferInstance:Hd _ _ ⟨false,FB,0,1,1,none⟩ bw 1 [(qR dq.body.xs i)]).h w hw)) (by simp only[apk,apj,apl];omega) (by simp only[apk,apj,apl];omega) fun QR ame amf=>⟨fun _ hw=>ai.mem hw,?_⟩);refine ar rfl (aK (o':=1) rfl rfl) ?_;refine c8 rfl (zn (cs':=dS (⟨dq.gen,⟨QR,(((pZ dq.body.xs).take i)++[(qR dq.body.xs i)])⟩⟩:cY)) rfl rfl (by show 1<2;decide) (by first|rfl|exact Sv.one _) rfl ⟨fun _ hw=>ai.mem hw,?_⟩);refine al ?_;refine Gi ?_;exact aW (x:=(i,s1)) (i+1,QR) (by simp only;omega) (by simp only;omega) sb (fun w hw=>by
   simp only[eG];exact ai.mem hw)
 obtain rfl:i=dq.body.xs.length/2:=by omega
 rw[apy oM]at*;refine aH ?_;refine Gr fun w1 hw=>?_;exact⟨⟨dq.gen,⟨s1,pZ dq.body.xs⟩⟩,by rw[hE],by rw[hE];rfl,ai.mem hw⟩)⟩
instance QS{l:Sl (Sl UInt8)}[hl:aV w0 L l]:bE Tryz.prog 257 w0 L [l.sv.val] (cY) (fun zz=> .tuple #[.int .i64 ((gp (aL l.xs)).1), .agg (dS zz), .int .i64 ((gp (aL l.xs)).2.2)]) (fun zz=>own bw 1 zz.at_.sv zz.at_.xs::L) (fun zz=>db zz=(gp (aL l.xs)).2.1) (True):=⟨fun aA w hw=>Gk (fun zz:cY=>[own bw 1 zz.at_.sv zz.at_.xs]) hw (by
 have hl:=hl.h w hw;have qg:cy w l:=⟨hl⟩;have iO:=hl.1.bd;have iJ:=nw l.xs;refine cw Tryz.func257 rfl Tryz.ntmps257 rfl ?_;refine av ?_;refine bn fun b3=>av ?_;refine ag (cN (v:= .agg (dS kR)) rfl (fun w=>by kernel_rfl)) (bn fun b6=>fQ ?_);refine bA (X:=Nat×cY) (fun zz=>[(16, .int .i64 (zz.1:Nat)),(5, .int .i64 ((et (aL l.xs) zz.1).at_)),(6, .pointer (some ⟨b6,0,none⟩)),(7, .bool ((et (aL l.xs) zz.1).found)),(8, .bool ((et (aL l.xs) zz.1).blank)),(3, .pointer (some ⟨b3,0,none⟩)),(14,l.sv.val),(15, .int .i64 (l.xs.length:Nat))]) (fun zz=>[an b6 (dS zz.2) 314,own bw 1 zz.2.at_.sv zz.2.at_.xs,an b3 (dS kR) 314]) (fun zz=>zz.1<=l.xs.length/\db zz.2=(et (aL l.xs) zz.1).new) (fun zz=>l.xs.length -zz.1) (0,kR) ⟨Nat.zero_le _,rfl⟩ sb (fun w hw=>by
  have h9:Mem _ [an b6 (dS kR) 314,own bw 1 Sv.none [],an b3 (dS kR) 314] _:=ai.mem (Mem.cO bw 1 hw);exact h9) ?_
 rintro⟨i,d⟩ ⟨aQ,az⟩;dsimp only;simp only at aQ az;refine al ?_;refine Gb (fun h0=>?_) fun h0=>?_
 ·
  obtain⟨y,hy⟩:=get_some (xs:=l.xs) (i:=i) oM;have JG:Mb y l:=⟨List.mem_of_getElem? hy⟩;have QT:=oS hy;have QU:d.gen.toNat=(et (aL l.xs) i).new.gen:=congrArg RV.gen az;refine av ?_;refine ag (aR rfl rfl i rfl oM) (ag (bC (j:=0) rfl i hy rfl (by decide)) (aT ?_));refine gh rfl rfl rfl (fun hg=>bP (cZ (aw hg rfl) fu) trivial) (au ?_);refine aY rfl trivial fun c6 kZ=>?_;have QV:c6.gen.toNat=(fm y.xs).1.gen:=congrArg RV.gen kZ;refine Gs ?_;refine ag (aI (v:= .agg (dS c6)) rfl rfl) (ag (aI (v:= .int .i64 ((fm y.xs).2)) rfl rfl) (bn fun nQ=>cx ?_));refine gh rfl rfl rfl (fun hg=>(Ry.yl (iz (aw hg rfl)))) (gh rfl rfl rfl (fun hg=>(Ry.yl (bf (aw hg rfl)))) (lK rfl rfl rfl (fun hg=>(Ry.yl (aK (o':=0) rfl rfl))) (lK rfl rfl rfl (fun hg=>(Ry.yl (bQ (aw hg rfl)))) (lK rfl rfl rfl (fun hg=>(Ry.yl (aK (o':=0) rfl rfl))) (lK rfl rfl rfl (fun hg=>(Ry.yl (bQ (aw hg rfl)))) (lK rfl rfl rfl (fun hg=>(Ry.yl (du (aw hg rfl) (aw hg rfl) rfl))) (gh rfl rfl rfl (fun hg=>(Ry.yl (wT (aw hg rfl) rfl (ti hg rfl)))) (av ?_))))))));refine Gb (fun h1=>?_) fun h1=>?_
  ·
   have hq:(fm y.xs).2=0/\((et (aL l.xs) i).found=false\/(et (aL l.xs) i).new.gen<=(fm y.xs).1.gen):=⟨h1.1,h1.2.imp (fun h=>h) (fun h=>by rw[←QU,←QV];omega)⟩;have uu:=XW QT hq;refine iE [3] [[],[],[],[],[3]] [0,1,2,3,4] [an nQ (dS c6) 314] (fun _ hw=>ai.mem hw) oK oK (ar rfl (bf rfl) (ar rfl (fW rfl) (ar rfl (gN rfl) (c8 rfl (np rfl rfl ⟨fun _ hw=>ai.mem hw,?_⟩)))));refine ar rfl (gN rfl) (al ?_);refine Gi ?_;exact aW (x:=(i,d)) (i+1,c6) ⟨oF,by rw[uu];exact kZ⟩ (by simp only;omega) (Sub.cons rfl (Sub.cons (look_eq rfl (by simp only[uu])) (Sub.cons rfl (Sub.cons (look_eq rfl (by simp only[uu])) (Sub.cons (look_eq rfl (by simp only[uu])) sb))))) (fun w hw=>ai.mem hw)
  have hq: ¬((fm y.xs).2=0/\((et (aL l.xs) i).found=false\/(et (aL l.xs) i).new.gen<=(fm y.xs).1.gen)):=fun hq=>by
   rw[←QU,←QV]at hq;rcases h1 with h|h
   ·
    exact h hq.1
   rcases hq.2 with g|g
   ·
    exact absurd (h.1.symm.trans g) (by simp)
   omega
  have uu:=XX QT hq;refine al ?_;refine Gi ?_;exact aW (x:=(i,d)) (i+1,d) ⟨oF,by rw[uu];exact az⟩ (by simp only;omega) (Sub.cons rfl (Sub.cons (look_eq rfl (by simp only[uu])) (Sub.cons rfl (Sub.cons (look_eq rfl (by simp only[uu])) (Sub.cons (look_eq rfl (by simp only[uu])) sb))))) (fun w hw=>ai.mem hw)
 obtain rfl:i=l.xs.length:=by omega
 rw[←iJ]at az;refine au ?_;refine Gb (fun h2=>?_) fun h2=>?_
 ·
  have hE:gp (aL l.xs)=((et (aL l.xs) (aL l.xs).length).at_,(et (aL l.xs) (aL l.xs).length).new,0):=by rw[gp,if_pos (by rw[iJ];exact h2)]
  refine Gi ?_;refine iE [3] [[],[],[],[],[3]] [0,1,2,3,4] [an b6 (dS d) 314] (fun _ hw=>ai.mem hw) oK oK (ar rfl (bf rfl) (ar rfl (fW rfl) (ar rfl (gN rfl) (c8 rfl (np rfl rfl ⟨fun _ hw=>ai.mem hw,?_⟩)))));refine ar rfl (gN rfl) (Gc ?_);refine Gr fun w1 hw=>?_;exact⟨d,by rw[hE,iJ],by rw[hE];exact az,ai.mem hw⟩
 refine au ?_;refine Gb (fun h3=>?_) fun h3=>?_
 ·
  have hE:gp (aL l.xs)=(0,gH,6):=by rw[gp,if_neg (by rw[iJ,h2];simp),if_pos (by rw[iJ];exact h3)]
  refine Gc ?_;refine ag (cN (v:= .agg (dS kR)) rfl (fun w=>by kernel_rfl)) (au ?_);refine Gr fun w1 hw=>?_;exact⟨kR,by rw[hE],by rw[hE];rfl,Mem.cO bw 1 (ai.mem hw:Mem w [] _)⟩
 have hE:gp (aL l.xs)=(0,gH,2):=by rw[gp,if_neg (by rw[iJ,h2];simp),if_neg (by rw[iJ,h3];simp)]
 refine Gc ?_;refine ag (cN (v:= .agg (dS kR)) rfl (fun w=>by kernel_rfl)) (au ?_);refine Gr fun w1 hw=>?_;exact⟨kR,by rw[hE],by rw[hE];rfl,Mem.cO bw 1 (ai.mem hw:Mem w [] _)⟩)⟩
theorem aaF(c:Cp)(s:Sl Int)(g:UInt64)(l:Int)(w:World):(Instr.build 63 #[(0, .agg (aU c)),(1,s.sv.val),(2, .int .u64 (g.toNat:Int)),(3, .int .i64 l)]).run Tryz.prog w= .ok (.agg (cj ⟨c,s,g,l⟩)) w:=by
 obtain⟨s,xs⟩:=s;obtain⟨a1,a2,⟨a3,a4⟩,a5,a6,⟨a7,a8⟩⟩:=c;unfold cj aU;obtain⟨e,b,o,l,c,p⟩:=s;obtain⟨e3,b3,o3,l3,c3,p3⟩:=a3;obtain⟨e7,b7,o7,l7,c7,p7⟩:=a7
 cases e<;>cases e3<;>cases e7<;>kernel_rfl
instance amg{c:Cp}[hc:aV w0 L c]:bE Tryz.prog 221 w0 L [.agg (aU c)] (cf) (fun zz=> .tuple #[.agg (cj zz), .int .i64 ((bJ (cv c)).2)]) (fun zz=>own bw 1 zz.at_.sv zz.at_.xs::L) (fun zz=>vv zz=(bJ (cv c)).1/\((bJ (cv c)).2=0->zz.ak=c)) (True):=⟨fun aA w hw=>Gk (fun zz:cf=>[own bw 1 zz.at_.sv zz.at_.xs]) hw (by
 have hc:=hc.h w hw;have ka:cy w c:=⟨hc⟩;refine cw Tryz.func221 rfl Tryz.ntmps221 rfl ?_;refine Gc ?_;refine bH rfl fun b1=>bn fun b2=>aT ?_;refine Gb (fun h0=>?_) fun h0=>?_
 ·
  have hE:bJ (cv c)=(mA,1):=by rw[bJ,if_pos h0]
  have cr:(1:Int)≠0:=by decide
  refine Gc ?_;refine ag (cN (v:= .agg (cj kS)) rfl (fun w=>by kernel_rfl)) (al ?_);refine Gr fun w1 hw=>?_;exact⟨kS,by rw[hE],⟨by rw[hE];rfl,fun h=>absurd (by rw[hE]at h;exact h) cr⟩,Mem.cO bw 1 (ai.mem hw:Mem w [] _)⟩
 have sL:=B7.1 h0;have hk:=sL.1;have nN:(cv c).blocks.length=c.blocks.xs.length:=gm _;have hO:=kQ.1 (eW.1 hk).1;obtain⟨B0,Aq⟩:=get_some (xs:=c.blocks.xs) (i:=0) oM;obtain⟨B1,sO⟩:=get_some (xs:=c.blocks.xs) (i:=1) oM;have aaG:Mb B0 c.blocks:=⟨List.mem_of_getElem? Aq⟩;have aaH:Mb B1 c.blocks:=⟨List.mem_of_getElem? sO⟩;have o0:=(gP.1 ((eW.1 hk).2.2.2.2 (bv B0) (alM (lT Aq)))).1;have o1:=(gP.1 ((eW.1 hk).2.2.2.2 (bv B1) (alM (lT sO)))).1;have JK:=nw B0.ae.xs;have ht1:=nw B1.ae.xs;simp only[bv,cv]at o0 o1 hO;have hT:aL (ff [B0.ae,B1.ae])=(aM (cv c) 0).ae++(aM (cv c) 1).ae:=by
  rw[IL,show aM (cv c) 0=bv B0 from IM Aq,show aM (cv c) 1=bv B1 from IM sO];rfl
 have qU:=OO (l:=(aM (cv c) 0).ae++(aM (cv c) 1).ae) (by rw[←hT,IL,af0];omega);have iJ:((aM (cv c) 0).ae++(aM (cv c) 1).ae).length=B0.ae.xs.length+B1.ae.xs.length:=by rw[←hT,IL,af0];omega
 have v8:0<=(fy (cv c)).1:=qU.1;have Am:(fy (cv c)).1<c.ae+c.ae:=by have:=qU.2;rw[iJ]at this;change(fy (cv c)).1<_ at this;omega
 have gva:OM w (ff [B0.ae,B1.ae]):=⟨fun y hy=>by
  simp only[ff,apY,aqu,aqx,ar6,apZ,apv]at hy;rcases hy with hy|hy
  ·
   exact(hc.1.2 B0 aaG.h).2 y hy
  exact(hc.1.2 B1 aaH.h).2 y hy⟩
 have amh:0<=((fy (cv c)).1/c.ae):=arR v8 oM;have ami:((fy (cv c)).1/c.ae)<2:=Int.ediv_lt_of_lt_mul oM oM;have bI:=OQ ((aM (cv c) 0).ae++(aM (cv c) 1).ae);have JF:(c.blocks.xs.getD ((fy (cv c)).1/c.ae).toNat oR).used=(aM (cv c) ((fy (cv c)).1/c.ae)).used:=congrArg BV.used (xG (c:=c));refine au ?_;refine Gb (fun h1=>?_) fun h1=>?_
 ·
  have hE:bJ (cv c)=(mA,7):=by rw[bJ,if_neg (by rw[h0];simp),if_pos (show(cv c).off=true from h1)]
  have cr:(7:Int)≠0:=by decide
  refine Gc ?_;refine ag (cN (v:= .agg (cj kS)) rfl (fun w=>by kernel_rfl)) (al ?_);refine Gr fun w1 hw=>?_;exact⟨kS,by rw[hE],⟨by rw[hE];rfl,fun h=>absurd (by rw[hE]at h;exact h) cr⟩,Mem.cO bw 1 (ai.mem hw:Mem w [] _)⟩
 have pG: ¬(cv c).off=true:=by rw[show(cv c).off=c.off from rfl,h1];simp
 refine Gc ?_;refine rU [10,11,12,17,19,2010,2017,4011,4012] [[],[],[],[],[],[],[],[],[],[],[],[10],[10,11],[10,11,12],[10,11,12],[10,11,12],[10,11,12],[],[10,11,12,17],[10,11,12,17],[10,11,12,17,19]] [0,1,2,3,4,5,6,7,8,9,10,11,12,13,14,15,16,17,18,19,20] [an b1 (aU c) 59] [(10,vp (bU (τ:=Sl UInt8)) 1 2 [B0.ae,B1.ae]),(17,jR Tryz.prog 314)] oK (fun _ hw=>ai.mem hw) oK oK (ar rfl (aK (o':=2) rfl rfl) (ar rfl (bQ rfl) (ar rfl (aR rfl rfl 0 rfl oM) (ar rfl (aK rfl rfl) (ar rfl (bC (j:=0) rfl 0 Aq rfl (by decide)) (ar rfl (aK (o':=2) rfl rfl) (ar rfl (bQ rfl) (ar rfl (aR rfl rfl 1 rfl oM) (ar rfl (aK rfl rfl) (ar rfl (bC (j:=0) rfl 1 sO rfl (by decide)) (oP (m:=vp (bU (τ:=Sl UInt8)) 1 2 [B0.ae,B1.ae]) rfl rfl (Nj (enc:=(bU (τ:=Sl UInt8))) (c:=1) (n:=2) (vals:=[B0.ae.sv.val,B1.ae.sv.val]) [B0.ae,B1.ae] rfl (by simp only[apY,aqu,Sv.iD];rfl) rfl (by decide) (by decide)) (Cert.one (i:=17) rfl rfl rfl jy (Cert.none rfl)) fun FC=>?_)))))))))));change Ln _ _ _ _ _ _ _ _ (ca _ _ (Sv.val ⟨false,FC,0,2,2,none⟩)) (own (bU (τ:=Sl UInt8)) 1 ⟨false,FC,0,2,2,none⟩ [B0.ae,B1.ae]::_) _;refine xu (hc:=QO (a:=(⟨⟨false,FC,0,2,2,none⟩,[B0.ae,B1.ae]⟩:Sl (Sl (Sl UInt8))))) (HZ:=fun e_=>QO (a:=(⟨⟨false,FC,0,2,2,none⟩,[B0.ae,B1.ae]⟩:Sl (Sl (Sl UInt8))))) rfl rfl (by simp only[ff,apY,aqu,aqx,ar6,af0,apl];omega) (fun e x w hw=>ai.mem hw) (Cert.one (i:=17) rfl rfl rfl jy (Cert.none rfl)) fun qj sP=>⟨fun _ hw=>ai.mem hw,?_⟩;refine xu (hc:=QS (l:=(⟨qj,(ff [B0.ae,B1.ae])⟩:Sl (Sl UInt8)))) (HZ:=fun e_=>QS (l:=(⟨qj,(ff [B0.ae,B1.ae])⟩:Sl (Sl UInt8)))) rfl rfl trivial (fun e x w hw=>ai.mem hw) (Cert.one (i:=17) rfl rfl rfl jy (Cert.none rfl)) fun c6 kZ=>⟨fun _ hw=>ai.mem hw,?_⟩;have df:(gp (aL (ff [B0.ae,B1.ae]))).1=(fy (cv c)).1:=by rw[hT];rfl
 have qk:(gp (aL (ff [B0.ae,B1.ae]))).2.2=(fy (cv c)).2.2:=by rw[hT];rfl
 have nR:db c6=(fy (cv c)).2.1:=by rw[kZ,hT];rfl
 have nO:c6.gen.toNat=(fy (cv c)).2.1.gen:=congrArg RV.gen nR;have FD:c6.at_.xs=(fy (cv c)).2.1.at_:=congrArg RV.at_ nR;refine ar rfl (bf rfl) (ar rfl (aI (v:= .int .i64 ((gp (aL (ff [B0.ae,B1.ae]))).1)) rfl rfl) (ar rfl (aI (v:= .agg (dS c6)) rfl rfl) (ar rfl (aI (v:= .int .i64 ((gp (aL (ff [B0.ae,B1.ae]))).2.2)) rfl rfl) (oP (m:=jR Tryz.prog 314) rfl rfl jy (Cert.none rfl) fun b5=>?_))));change Ln _ _ _ _ _ _ _ _ (ca _ _ (.pointer (some ⟨b5,0,none⟩))) (an b5 (dS kR) 314::_) _;refine ar rfl (gN rfl) (c8 rfl (np rfl rfl ⟨fun _ hw=>ai.mem hw,?_⟩));refine ar rfl (gN rfl) (au ?_);refine Gb (fun h2=>?_) fun h2=>?_
 ·
  rw[qk]at h2;have hE:bJ (cv c)=(mA,(fy (cv c)).2.2):=by rw[bJ,if_neg (by rw[h0];simp),if_neg pG,if_pos h2]
  have cr:=h2;refine Gc ?_;refine ag (cN (v:= .agg (cj kS)) rfl (fun w=>by kernel_rfl)) (au ?_);refine Gr fun w1 hw=>?_;exact⟨kS,by rw[hE,qk],⟨by rw[hE];rfl,fun h=>absurd (by rw[hE]at h;exact h) cr⟩,Mem.cO bw 1 (ai.mem hw:Mem w [] _)⟩
 rw[qk]at h2;refine au ?_;refine ag (lf rfl rfl oM oM) (av ?_);refine fA oK oK (al ?_);refine bx (yS rfl rfl oM oM) (al ?_);refine bx (aR rfl rfl (((gp (aL (ff [B0.ae,B1.ae]))).1/c.ae).toNat) (by rw[df];omega) (by rw[df];omega)) (bx (aK rfl rfl) (bx (bC (j:=1) rfl (((gp (aL (ff [B0.ae,B1.ae]))).1/c.ae).toNat) (kL (xs:=c.blocks.xs) (i:=((gp (aL (ff [B0.ae,B1.ae]))).1/c.ae).toNat) (d:=oR) (by rw[df];omega)) rfl (by decide)) (av ?_)));refine eV rfl rfl rfl (fun hg=>(Ry.yl (fW rfl))) (av ?_);refine eV rfl rfl rfl (fun hg=>bP (cZ (aw hg rfl) (cZ (aw hg rfl) fu)) ⟨hk,fun x hx=>bI x (by rw[FD]at hx;exact hx)⟩) (eV rfl rfl rfl (fun hg=>(Ry.yl (iz (aw hg rfl)))) (av ?_));refine Gb (fun h3=>?_) fun h3=>?_
 ·
  have tv:tY (cv c)=false:=by
   rw[FD]at h3
   cases sM:tY (cv c)with
   |false=>rfl
   |true=>
    simp only[tY,anc,decide_eq_true_eq]at sM;rw[sM.2]at h3;simp only[aqW,or_false]at h3;have:=sM.1;rw[df,JF]at h3;exact absurd this (by simp only[cv]at*;omega)
  have hE:bJ (cv c)=(mA,2):=by rw[bJ,if_neg (by rw[h0];simp),if_neg pG,if_neg oM,if_pos tv]
  have cr:(2:Int)≠0:=by decide
  refine Gc ?_;refine ag (cN (v:= .agg (cj kS)) rfl (fun w=>by kernel_rfl)) (al ?_);refine Gr fun w1 hw=>?_;exact⟨kS,by rw[hE],⟨by rw[hE];rfl,fun h=>absurd (by rw[hE]at h;exact h) cr⟩,Mem.cO bw 1 (ai.mem hw:Mem w [] _)⟩
 have tv:tY (cv c)=true:=by
  rw[FD,df,JF]at h3;simp only[tY,anc,decide_eq_true_eq];exact⟨by have:=h3.1;simp only[cv]at*;omega,h3.2⟩
 have hE:bJ (cv c)=(⟨cv c,(fy (cv c)).2.1.at_,(fy (cv c)).2.1.gen,(fy (cv c)).1/c.ae⟩,0):=by rw[bJ,if_neg (by rw[h0];simp),if_neg pG,if_neg oM,if_neg (by rw[tv];simp)];rfl
 refine cx ?_;refine ag (cN (v:= .agg (cj ⟨c,c6.at_,c6.gen,((gp (aL (ff [B0.ae,B1.ae]))).1/c.ae)⟩)) rfl (aaF c c6.at_ c6.gen ((gp (aL (ff [B0.ae,B1.ae]))).1/c.ae))) (al ?_);refine Gr fun w1 hw=>?_;exact⟨⟨c,c6.at_,c6.gen,(gp (aL (ff [B0.ae,B1.ae]))).1/c.ae⟩,by rw[hE],⟨by rw[hE];simp only[vv,FD,nO,df],fun _=>rfl⟩,ai.mem hw⟩)⟩
instance amj{c:Cp}[hc:aV w0 L c]:bE Tryz.prog 180 w0 L [.agg (aU c)] (cf) (fun zz=> .tuple #[.agg (cj zz), .int .i64 ((bJ (cv c)).2)]) (fun zz=>fz zz.ak::own bw 1 zz.at_.sv zz.at_.xs::L) (fun zz=>vv zz=(if(bJ (cv c)).2=0 then(bJ (cv c)).1 else mA)) (True):=⟨fun aA w hw=>Gk (fun zz:cf=>[fz zz.ak,own bw 1 zz.at_.sv zz.at_.xs]) hw (by
 have hc:=hc.h w hw;have ka:cy w c:=⟨hc⟩;refine cw Tryz.func180 rfl Tryz.ntmps180 rfl ?_;refine Gc ?_;refine bH rfl fun b1=>bn fun b2=>al ?_;refine aY rfl trivial fun x8 pn=>?_;obtain⟨QW,QX⟩:=pn;have hl8:=OS (cv c);have ha8:x8.at_.xs=(bJ (cv c)).1.at_:=congrArg VV.at_ QW;rw[←ha8]at hl8;refine Gs ?_;refine ag (aI (v:= .agg (cj x8)) rfl rfl) (ag (aI (v:= .int .i64 ((bJ (cv c)).2)) rfl rfl) (bn fun b4=>aT ?_));refine Gb (fun h0=>?_) fun h0=>?_
 ·
  refine Gc ?_;refine ag (cN (v:= .agg (cj kS)) rfl (fun w=>by kernel_rfl)) (au ?_);refine Gr fun w1 hw=>?_;exact⟨kS,rfl,by rw[if_neg h0];rfl,X5 (Mem.cO bw 1 (ai.mem hw:Mem w [] _))⟩
 have ym:(bJ (cv c)).2=0:=h0;have ec:OT x8.ak c:=⟨QX ym⟩;have kb:gn x8.ak:=by rw[QX ym];exact r8 (B7.1 (IN ym)).1
 refine iN ?_;refine rK [Deep.cd x8.at_,an b4 (cj x8) 63,an b2 (cj kS) 63,an b1 (aU c) 59] (fun w hw=>ai.mem (Mem.NB (ai.mem hw:Mem _ [own bw 1 x8.at_.sv x8.at_.xs,an b4 (cj x8) 63,an b2 (cj kS) 63,an b1 (aU c) 59] _))) (Gi ?_);refine Gs ?_;refine aY rfl ⟨by assumption,by omega⟩ fun aD jH=>al ?_;refine Gr fun w1 hw=>?_;exact⟨(⟨aD.1,⟨aD.2,x8.at_.xs⟩,x8.gen,x8.last⟩:cf),by rw[ym],by
  rw[if_pos ym,←QW];simp only[vv,jH],ai.mem hw⟩)⟩
instance amk{v:cf}[hv:aV w0 L v]:bY Tryz.prog 173 w0 L [.agg (cj v)] (.bool (p0 (vv v))) (True):=⟨fun aA w hw=>by
 have hv:=hv.h w hw;have yi:cy w v:=⟨hv⟩;refine cw Tryz.func173 rfl Tryz.ntmps173 rfl ?_;refine Gc ?_;refine bH rfl fun b1=>al ?_;refine ag (gE rfl) (bn fun b3=>al ?_);refine dR (cs':=aU (⟨v.ak.ae,v.ak.size,v.ak.blocks,v.ak.ops,false,v.ak.bj⟩:Cp)) rfl rfl (by show 4<6;decide) (by first|rfl|exact Sv.one _) rfl (av ?_);refine aY rfl trivial fun dq yk=>?_;obtain⟨JL,aml⟩:=yk;have hvg:dq.gen.toNat=(bJ {(vv v).ak with off:=false}).1.gen:=congrArg VV.gen JL
 have FE:dq.last=(bJ {(vv v).ak with off:=false}).1.last:=congrArg VV.last JL
 have hva:dq.at_.xs=(bJ {(vv v).ak with off:=false}).1.at_:=congrArg VV.at_ JL
 refine Gs ?_;refine ag (aI (v:= .agg (cj dq)) rfl rfl) (ag (aI (v:= .int .i64 ((bJ (cv (⟨v.ak.ae,v.ak.size,v.ak.blocks,v.ak.ops,false,v.ak.bj⟩:Cp))).2)) rfl rfl) (bn fun b4=>V3 ?_));refine gh rfl rfl rfl (fun hg=>bP (cZ (aw hg rfl) (cZ (aw hg rfl) fu)) trivial) (al ?_);refine Gr fun w1 hw=>?_;exact⟨congrArg (fun b=>Ending.returned (Value.bool b)) ((by rw[show decide (((dq.gen.toNat:Nat):Int)=((v.gen.toNat:Nat):Int))=decide (dq.gen.toNat=v.gen.toNat)from decide_eq_decide.2 oM,p0,←hvg,←FE,←hva];rfl)),ai.mem hw⟩⟩
instance QY{v:cf}{id:Int}[hv:aV w0 L v]:bE Tryz.prog 347 w0 L [.agg (cj v), .int .i64 id] (Sv) (fun zz=>zz.val) (fun zz=>own aP 1 zz (ll (cv v.ak) (v.at_.xs.getD id.toNat 0))::L) (fun zz=>True) (bq (cv v.ak)=true/\ ∃y,v.at_.xs[id.toNat]? =Option.some y/\0<=id/\1<=y/\y<=1000000/\2<=(y -1)/(cv v.ak).ae/\(y -1)/(cv v.ak).ae<((cv v.ak).blocks.length:Int)):=⟨fun aA w hw=>Gk (fun zz=>[own aP 1 zz (ll (cv v.ak) (v.at_.xs.getD id.toNat 0))]) hw (by
 have hv:=hv.h w hw;have yi:cy w v:=⟨hv⟩;obtain⟨hk,y,hy,hid,Jv,CB,g1,g2⟩:=aA;have nP:v.at_.xs.getD id.toNat 0=y:=xI hy;have dF:=(ad2.1 hy).1;have eO:=gm v.ak.blocks.xs;have hO:=kQ.1 (eW.1 hk).1;simp only[cv,eO]at hO;have Cy:0<=((y -1)/v.ak.ae):=arR oM oM;have sK:0<=((y -1)%v.ak.ae):=Int.emod_nonneg _ oM;have Cz:((y -1)%v.ak.ae)<v.ak.ae:=Int.emod_lt_of_pos _ oM;have sL:=xG (c:=v.ak) (b:=((y -1)/v.ak.ae));change 2<=((y -1)/v.ak.ae)at g1;change((y -1)/v.ak.ae)<((ij v.ak.blocks.xs).length:Int)at g2;rw[eO]at g2;obtain⟨B,hB⟩:=get_some (xs:=v.ak.blocks.xs) (i:=((y -1)/v.ak.ae).toNat) oM;have rf:Mb B v.ak.blocks:=⟨List.mem_of_getElem? hB⟩;have eu:bv B=aM (cv v.ak) ((y -1)/v.ak.ae):=by rw[←sL];simp[List.getD,hB]
 have fJ:=gP.1 ((eW.1 hk).2.2.2.2 (bv B) (alM (lT hB)));have iJ:=nw B.ae.xs;have QK:(B.ae.xs.length:Int)=v.ak.ae:=by have:=fJ.1;simp only[bv,cv,iJ]at this;exact this
 obtain⟨z,hz⟩:=get_some (xs:=B.ae.xs) (i:=((y -1)%v.ak.ae).toNat) oM;have vX:Mb z B.ae:=⟨List.mem_of_getElem? hz⟩;have qX:zN (cv v.ak) (y -1)=z.xs:=by
  show(aM (cv v.ak) ((y -1)/v.ak.ae)).ae.getD ((y -1)%v.ak.ae).toNat []=z.xs;rw[←eu];simp[bv,List.getD,oS hz]
 refine cz Tryz.func347 rfl Tryz.ntmps347 rfl ?_;refine Gc ?_;refine bH rfl fun b2=>aH ?_;refine ag (aR rfl rfl id.toNat oM oM) (ag (bC (j:=0) rfl id.toNat hy rfl (by decide)) (al ?_));refine rU [18,22,23,2022,4018] [[],[],[],[],[],[],[],[],[],[],[],[],[],[],[],[],[],[],[],[18],[18],[18],[],[18,22],[18,22,23]] [0,1,2,3,4,5,6,7,8,9,10,11,12,13,14,15,16,17,18,19,20,21,22,23,24] [an b2 (cj v) 63] [(22,jR Tryz.prog 324)] oK (fun _ hw=>ai.mem hw) oK oK (ar rfl (aK (o':=0) rfl rfl) (ar rfl (aK (o':=2) rfl rfl) (ar rfl (bQ rfl) (ar rfl (bf rfl) (ar rfl (aK (o':=0) rfl rfl) (ar rfl (aK (o':=0) rfl rfl) (ar rfl (bQ rfl) (ar rfl (lf rfl rfl oM oM) (ar rfl (aR rfl rfl (((y -1)/v.ak.ae).toNat) oM oM) (ar rfl (aK rfl rfl) (ar rfl (bC (j:=0) rfl (((y -1)/v.ak.ae).toNat) hB rfl (by decide)) (ar rfl (bf rfl) ?_))))))))))));refine ar rfl (aK (o':=0) rfl rfl) (ar rfl (aK (o':=0) rfl rfl) (ar rfl (bQ rfl) (ar rfl (yS rfl rfl oM oM) (ar rfl (aR rfl rfl (((y -1)%v.ak.ae).toNat) oM oM) (ar rfl (bC (j:=0) rfl (((y -1)%v.ak.ae).toNat) hz rfl (by decide)) ?_)))));refine xu rfl rfl trivial (fun e x w hw=>ai.mem hw) (Cert.one (i:=22) rfl rfl rfl jy (Cert.none rfl)) fun jI wa=>⟨fun _ hw=>ai.mem hw,?_⟩;have e1:jI.body.xs=(dm z.xs).1.body:=congrArg PV.body wa;refine ar rfl (bf rfl) (ar rfl (aI (v:= .agg (cL jI)) rfl rfl) (ar rfl (aI (v:= .int .i64 ((dm z.xs).2)) rfl rfl) (oP (m:=jR Tryz.prog 324) rfl rfl jy (Cert.none rfl) fun b6=>?_)));change Ln _ _ _ _ _ _ _ _ (ca _ _ (.pointer (some ⟨b6,0,none⟩))) (an b6 (cL nD) 324::_) _;refine c8 rfl (np rfl rfl ⟨fun _ hw=>ai.mem hw,?_⟩);refine ar rfl (gN rfl) (au ?_);refine Gb (fun h0=>?_) fun h0=>?_
 ·
  have hE:(ll (cv v.ak) (v.at_.xs.getD id.toNat 0))=[]:=by rw[nP,ll,qX,if_neg h0]
  refine al ?_;refine Gr fun w1 hw=>?_;exact⟨Sv.none,rfl,trivial,by rw[hE];exact Mem.cO aP 1 (ai.mem hw:Mem w [] _)⟩
 have ym:(dm z.xs).2=0:=h0;have hE:(ll (cv v.ak) (v.at_.xs.getD id.toNat 0))=jI.body.xs:=by rw[nP,ll,qX,if_pos ym,e1]
 refine aH ?_;refine Gr fun w1 hw=>?_;exact⟨jI.body.sv,rfl,trivial,by rw[hE];exact ai.mem hw⟩)⟩
instance amm{x:eC}{n:Int}[hx:aV w0 L x]:bE Tryz.prog 255 w0 L [.agg (cL x), .int .i64 n] (Sv) (fun zz=> .tuple #[zz.val, .int .i64 ((eX (cE x) n).2)]) (fun zz=>own aP 1 zz (eX (cE x) n).1::L) (fun zz=>True) (True):=⟨fun aA w hw=>Gk (fun zz=>[own aP 1 zz (eX (cE x) n).1]) hw (by
 have hx:=hx.h w hw;have Aj:cy w x:=⟨hx⟩;refine cz Tryz.func255 rfl Tryz.ntmps255 rfl ?_;refine Gc ?_;refine bH rfl fun b2=>dP ?_;refine Gb (fun h0=>?_) fun h0=>?_
 ·
  have hE:eX (cE x) n=([],1):=by rw[eX,if_neg (by rw[h0];simp)]
  refine au ?_;refine Gr fun w1 hw=>?_;exact⟨Sv.none,by rw[hE];rfl,trivial,by rw[hE];exact Mem.cO aP 1 (ai.mem hw:Mem w [] _)⟩
 have hE:eX (cE x) n=((nE (cE x) n.toNat)++be (pT (nE (cE x) n.toNat)) 4,0):=by rw[eX,if_pos h0]
 obtain⟨m1,m2,m3,m4,m5,m6⟩:=OC.1 h0;have hft:=B5.1 m1;have Al:fI n=n -16:=by rw[fI,if_pos m1]
 simp only[cE]at m2 m3 m4 m5 m6;have Ny:(List.replicate (n.toNat -4) (0:UInt8)).length=n.toNat -4:=ap5;have eO:x.body.xs.length+16<=n.toNat:=by omega
 have hg6:=nj x.gen.toNat 6;have hm2:=nj x.body.xs.length 2;have qE:=Nx (nE (cE x) n.toNat);have gM:(nE (cE x) n.toNat).length=n.toNat -4:=XS (by simp only[cE];omega);refine al ?_;refine rH (enc:=aP) (n:=(n.toNat -4)) (cap:=(n.toNat -4)) 0 rfl rfl rfl oM oM oM oM oM fun hQ=>Gs ?_;refine iN ?_;have CC:=EP (b:=hQ) (n:=(n.toNat -4)) oM;refine iE [9,11] [[],[],[],[],[],[],[],[],[],[],[9],[9]] [0,1,2,3,4,5,6,7,8,9,10,11] [an b2 (cL x) 324] (fun _ hw=>ai.mem hw) oK oK (ar rfl (bf rfl) (ar rfl (bf rfl) (ar rfl (aK (o':=0) rfl rfl) (ar rfl (bQ rfl) (ar rfl (tg rfl (zH _)) (ar rfl (aK (o':=1) rfl rfl) (ar rfl (bQ rfl) (ar rfl (tg rfl (zH _)) (ar rfl (lg (s:=⟨false,hQ,0,(n.toNat -4),(n.toNat -4),none⟩) (i:=0) rfl rfl rfl CC (by simp only;omega)) (c8 rfl (vo (s:=⟨false,hQ,0,(n.toNat -4),(n.toNat -4),none⟩) (n:=1) (k:=0) (j:=0) (a:=0) (a':=dA x.kind) (xs:=(List.replicate (n.toNat -4) (0:UInt8))) (enc:=aP) (c:=1) (v:= .int .u8 (dA x.kind).toNat) oK rfl rfl rfl (by rw[ary,if_pos oM]) (by simp[Value.cells,Value.oneCell']) rfl oM (by rfl) ⟨fun _ hw=>ai.mem hw,?_⟩)))))))))));refine ar rfl (lg (s:=⟨false,hQ,0,(n.toNat -4),(n.toNat -4),none⟩) (i:=1) rfl rfl rfl CC (by simp only;omega)) (c8 rfl (vo (s:=⟨false,hQ,0,(n.toNat -4),(n.toNat -4),none⟩) (n:=1) (k:=1) (j:=0) (a:=0) (a':=dA x.id) (xs:=((List.replicate (n.toNat -4) (0:UInt8)).set 0 (dA x.kind))) (enc:=aP) (c:=1) (v:= .int .u8 (dA x.id).toNat) oK rfl rfl rfl (by rw[aqG (by decide),ary,if_pos oM]) (by simp[Value.cells,Value.oneCell']) rfl oM (by rfl) ⟨fun _ hw=>ai.mem hw,?_⟩));refine iN ?_;refine rK [own aP 1 ⟨false,hQ,0,(n.toNat -4),(n.toNat -4),none⟩ ([dA x.kind,dA x.id]++List.replicate ((n.toNat -4) -2) (0:UInt8)),an b2 (cL x) 324] (fun w hw=>by
  rw[XR oM]at hw;exact ai.mem hw) ?_
 refine iE [4,5] [[],[],[],[],[],[4]] [0,1,2,3,4,5] [an b2 (cL x) 324] (fun _ hw=>ai.mem hw) oK oK (ar rfl (bf rfl) ?_);have aaI:Rg 2 8 (List.replicate (n.toNat -4) (0:UInt8)).length:=⟨by omega⟩;refine ar rfl (DG (s:=⟨false,hQ,0,(n.toNat -4),(n.toNat -4),none⟩) (l:=2) (h:=8) rfl rfl rfl rfl rfl CC oM (by simp only;omega)) (ar rfl (aK (o':=2) rfl rfl) (ar rfl (bQ rfl) (c8 rfl (om (vs:=[_, .int .i64 ((6:Nat):Int)]) rfl ⟨by omega,by omega,by omega⟩ fun c6 kZ=>⟨fun _ hw=>ai.mem hw,?_⟩))));refine c8 rfl (Ix (D:=Sv.sub ⟨false,hQ,0,(n.toNat -4),(n.toNat -4),none⟩ 1 2 8) (S:=c6) (rm:=⟨false,hQ,0,(n.toNat -4),(n.toNat -4),none⟩) (k:=2) (xs:=([dA x.kind,dA x.id]++List.replicate ((n.toNat -4) -2) (0:UInt8))) (ys:=(be x.gen.toNat 6)) rfl rfl rfl rfl (by simp only[Sv.sub];rw[if_neg oM]) rfl (by decide) rfl (by simp only[Sv.sub,nj];omega) (by simp only[af0,nj,ap5,apj,apl];omega) ⟨fun _ hw=>ai.mem hw,?_⟩);refine iN ?_;refine rK [own aP 1 ⟨false,hQ,0,(n.toNat -4),(n.toNat -4),none⟩ ([dA x.kind,dA x.id]++(be x.gen.toNat 6)++List.replicate ((n.toNat -4) -2 -(be x.gen.toNat 6).length) (0:UInt8)),an b2 (cL x) 324] (fun w hw=>by
  rw[IG (A:=[dA x.kind,dA x.id]) (k:=2) rfl]at hw;exact ai.mem hw) ?_
 refine iE [6,7] [[],[],[],[],[],[],[],[6]] [0,1,2,3,4,5,6,7] [an b2 (cL x) 324] (fun _ hw=>ai.mem hw) oK oK (ar rfl (bf rfl) ?_);have amn:Rg 8 10 (List.replicate (n.toNat -4) (0:UInt8)).length:=⟨by omega⟩;refine ar rfl (DG (s:=⟨false,hQ,0,(n.toNat -4),(n.toNat -4),none⟩) (l:=8) (h:=10) rfl rfl rfl rfl rfl CC oM (by simp only;omega)) (ar rfl (aK (o':=3) rfl rfl) (ar rfl (bQ rfl) (ar rfl (tn rfl) (ar rfl (iA rfl (by simp only[nb];omega)) (c8 rfl (om (vs:=[_, .int .i64 ((2:Nat):Int)]) rfl ⟨by omega,by omega,by omega⟩ fun Ar aaJ=>⟨fun _ hw=>ai.mem hw,?_⟩))))));refine c8 rfl (Ix (D:=Sv.sub ⟨false,hQ,0,(n.toNat -4),(n.toNat -4),none⟩ 1 8 10) (S:=Ar) (rm:=⟨false,hQ,0,(n.toNat -4),(n.toNat -4),none⟩) (k:=8) (xs:=([dA x.kind,dA x.id]++(be x.gen.toNat 6)++List.replicate ((n.toNat -4) -2 -(be x.gen.toNat 6).length) (0:UInt8))) (ys:=(be x.body.xs.length 2)) rfl rfl rfl rfl (by simp only[Sv.sub];rw[if_neg oM]) rfl (by decide) rfl (by simp only[Sv.sub,nj];omega) (by simp only[af0,nj,ap5,apj,apl];omega) ⟨fun _ hw=>ai.mem hw,?_⟩);refine iN ?_;refine rK [own aP 1 ⟨false,hQ,0,(n.toNat -4),(n.toNat -4),none⟩ ([dA x.kind,dA x.id]++(be x.gen.toNat 6)++(be x.body.xs.length 2)++List.replicate ((n.toNat -4) -2 -(be x.gen.toNat 6).length -(be x.body.xs.length 2).length) (0:UInt8)),an b2 (cL x) 324] (fun w hw=>by
  rw[IG (A:=[dA x.kind,dA x.id]++(be x.gen.toNat 6)) (k:=8) (by simp[nj])]at hw;exact ai.mem hw) ?_
 refine iE [4] [[],[],[],[],[]] [0,1,2,3,4] [an b2 (cL x) 324] (fun _ hw=>ai.mem hw) oK oK (ar rfl (bf rfl) ?_);have amo:Rg 10 ((List.replicate (n.toNat -4) (0:UInt8)).length) (List.replicate (n.toNat -4) (0:UInt8)).length:=⟨by omega⟩;refine ar rfl (qD (s:=⟨false,hQ,0,(n.toNat -4),(n.toNat -4),none⟩) (l:=10) (n:=(n.toNat -4)) rfl rfl rfl CC rfl oM) (ar rfl (aK (o':=3) rfl rfl) (ar rfl (bQ rfl) ?_));refine c8 rfl (Ix (D:=Sv.sub ⟨false,hQ,0,(n.toNat -4),(n.toNat -4),none⟩ 1 10 (n.toNat -4)) (S:=x.body.sv) (rm:=⟨false,hQ,0,(n.toNat -4),(n.toNat -4),none⟩) (k:=10) (xs:=([dA x.kind,dA x.id]++(be x.gen.toNat 6)++(be x.body.xs.length 2)++List.replicate ((n.toNat -4) -2 -(be x.gen.toNat 6).length -(be x.body.xs.length 2).length) (0:UInt8))) (ys:=x.body.xs) rfl rfl rfl rfl (by simp only[Sv.sub];rw[if_neg oM]) rfl (by decide) rfl (by simp only[Sv.sub,nj];omega) (by simp only[af0,nj,ap5,apj,apl];omega) ⟨fun _ hw=>ai.mem hw,?_⟩);refine iN ?_;refine rK [own aP 1 ⟨false,hQ,0,(n.toNat -4),(n.toNat -4),none⟩ (nE (cE x) n.toNat),an b2 (cL x) 324] (fun w hw=>by
  rw[IG (A:=[dA x.kind,dA x.id]++(be x.gen.toNat 6)++(be x.body.xs.length 2)) (k:=10) (by simp[nj]),show([dA x.kind,dA x.id]++(be x.gen.toNat 6)++(be x.body.xs.length 2)++x.body.xs++List.replicate ((n.toNat -4) -2 -(be x.gen.toNat 6).length -(be x.body.xs.length 2).length -x.body.xs.length) (0:UInt8))=(nE (cE x) n.toNat)from by
   simp only[nE,cE,nj];congr 2<;>omega]at hw
  exact ai.mem hw) ?_
 refine Gi ?_;refine al ?_;refine ag (iA rfl (by simp only[nb];omega)) (aY (vs:=[_, .int .i64 ((4:Nat):Int)]) rfl ⟨by omega,by omega,by omega⟩ fun kA wb=>?_);refine jO (enc:=(bU (τ:=UInt8))) [(⟨⟨false,hQ,0,(n.toNat -4),(n.toNat -4),none⟩,(nE (cE x) n.toNat)⟩:Sl UInt8),⟨kA,be (pT (nE (cE x) n.toNat)) 4⟩] (vals:=[(⟨false,hQ,0,(n.toNat -4),(n.toNat -4),none⟩:Sv).val,kA.val]) rfl (by simp only[apY,aqu,Sv.iD];rfl) rfl (by decide) (by decide) fun b48=>?_;refine Nz (τ:=Sl UInt8) (xs:=[(⟨⟨false,hQ,0,(n.toNat -4),(n.toNat -4),none⟩,(nE (cE x) n.toNat)⟩:Sl UInt8),⟨kA,be (pT (nE (cE x) n.toNat)) 4⟩]) fun a48 H9 g48=>?_;have QZ:jU a48.xs=(eX (cE x) n).1:=by rw[H9,hE];simp[jU]
 have Q0:(eX (cE x) n).1.length<=1000:=by rw[hE,af0,nj];omega
 refine aY rfl (by rw[QZ];omega) fun x49 amp=>al ?_;refine Gr fun w1 hw=>?_;exact⟨x49,by rw[hE],trivial,by rw[←QZ];exact ai.mem hw⟩)⟩
theorem aaK(i:Int)(g:UInt64)(w:World):(Instr.build 324 #[(0, .int .i64 2),(1, .int .i64 i),(2, .int .u64 (g.toNat:Int))]).run Tryz.prog w= .ok (.agg (cL ⟨2,i,g,⟨Sv.none,[]⟩⟩)) w:=by
 unfold cL;kernel_rfl
instance amq{r:cY}{n:Int}[hr:aV w0 L r]:bE Tryz.prog 218 w0 L [.agg (dS r), .int .i64 n] (Sv) (fun zz=> .tuple #[zz.val, .int .i64 ((dB (db r) n).2)]) (fun zz=>own aP 1 zz (dB (db r) n).1::L) (fun zz=>True) (True):=⟨fun aA w hw=>Gk (fun zz=>[own aP 1 zz (dB (db r) n).1]) hw (by
 have hr:=hr.h w hw;have ghr:cy w r:=⟨hr⟩;have iO:=hr.1.bd;refine cz Tryz.func218 rfl Tryz.ntmps218 rfl ?_;refine Gc ?_;refine bH rfl fun b2=>dP ?_;refine Gb (fun h0=>?_) fun h0=>?_
 ·
  have hE:dB (db r) n=([],1):=by rw[dB,if_neg (by rw[h0];simp)]
  refine au ?_;refine Gr fun w1 hw=>?_;exact⟨Sv.none,by rw[hE];rfl,trivial,by rw[hE];exact Mem.cO aP 1 (ai.mem hw:Mem w [] _)⟩
 have hE:dB (db r) n=eX (⟨2,(max 0 (r.at_.xs.length -1:Int)),r.gen.toNat,jA r.at_.xs⟩:PV) n:=by rw[dB,if_pos h0];rfl
 obtain⟨m1,m2,m3,m4⟩:=B6.1 h0;have hmf:lV n<=64:=by rw[lV];omega
 simp only[db]at m2 m3 m4;refine aH ?_;refine ag (u4 rfl rfl) (av ?_);refine ag (cN (v:= .agg (cL (⟨2,(max 0 (r.at_.xs.length -1:Int)),r.gen,⟨Sv.none,[]⟩⟩:eC))) rfl (aaK _ r.gen)) (bn fun b6=>cx ?_);refine bA (X:=Nat×Sv) (fun zz=>[(24, .int .i64 (zz.1:Nat)),(6, .pointer (some ⟨b6,0,none⟩)),(1, .int .i64 n),(22,r.at_.sv.val),(23, .int .i64 (r.at_.xs.length:Nat))]) (fun zz=>[an b6 (cL (⟨2,(max 0 (r.at_.xs.length -1:Int)),r.gen,⟨zz.2,jA (r.at_.xs.take zz.1)⟩⟩:eC)) 324,own aP 1 zz.2 (jA (r.at_.xs.take zz.1)),an b2 (dS r) 314]) (fun zz=>zz.1<=r.at_.xs.length) (fun zz=>r.at_.xs.length -zz.1) (0,Sv.none) (apE _) sb (fun w hw=>by
  simp only[apK,jA,aqu,ar6];exact ai.mem (Mem.cO aP 1 hw)) ?_
 rintro⟨i,s1⟩ aQ;dsimp only;simp only at aQ;refine al ?_;refine Gb (fun h1=>?_) fun h1=>?_
 ·
  obtain⟨y,hy⟩:=get_some (xs:=r.at_.xs) (i:=i) oM;have JC:=II.1 (m4 y (alM hy));have eG:jA (r.at_.xs.take (i+1))=jA (r.at_.xs.take i)++[dA (y/256),dA y]:=XU hy;have CA:=XV (r.at_.xs.take i);have hnt:(r.at_.xs.take i).length<=64:=by rw[apk];omega
  refine Gc ?_;refine ag (aR rfl rfl i rfl oM) (ag (bC (j:=0) rfl i hy rfl (by decide)) (aH ?_));refine ag (Ry.to (v':= .int .i64 (y/256)) (oI (p:=y.toNat) (Eq.trans (b:=some (Value.int .i64 y)) rfl (by rw[Int.toNat_of_nonneg JC.1])) rfl (by simp only[nb];omega) oM) (by rw[show(8:Int).toNat=8 from rfl];congr 1;omega)) (ag (tg rfl (zH _)) (Gs ?_));refine ag (tg rfl (zH _)) ?_;refine jO (enc:=aP) (vals:=[_,_]) [(dA (y/256)),(dA y)] rfl rfl rfl (by decide) (by decide) fun Q1=>?_;refine jd (s:=s1) (ys:=[(dA (y/256)),(dA y)]) rfl rfl (by decide) (fun w hw=>ib (s:=⟨false,Q1,0,2,2,none⟩) Tryz.underlying53 (by decide) ((inferInstance:Hd _ _ ⟨false,Q1,0,2,2,none⟩ aP 1 [(dA (y/256)),(dA y)]).h w hw)) (by simp only[apj,apl];omega) (by simp only[apj,apl];omega) fun Q2 amr ams=>?_;refine Gs ?_;refine dR (cs':=cL (⟨2,(max 0 (r.at_.xs.length -1:Int)),r.gen,⟨Q2,((jA (r.at_.xs.take i))++[(dA (y/256)),(dA y)])⟩⟩:eC)) rfl rfl (by show 3<4;decide) (by first|rfl|exact Sv.one _) rfl (al ?_);refine Gi ?_;exact aW (x:=(i,s1)) (i+1,Q2) (by simp only;omega) (by simp only;omega) sb (fun w hw=>by
   simp only[eG];exact ai.mem hw)
 obtain rfl:i=r.at_.xs.length:=by omega
 rw[apI];refine jS ?_;refine rK [Deep.cd (⟨s1,jA r.at_.xs⟩:Sl UInt8),an b6 (cL (⟨2,(max 0 (r.at_.xs.length -1:Int)),r.gen,⟨s1,jA r.at_.xs⟩⟩:eC)) 324] (fun w hw=>ai.mem (Mem.NB (ai.mem hw:Mem _ [own aP 1 s1 (jA r.at_.xs),an b6 (cL (⟨2,(max 0 (r.at_.xs.length -1:Int)),r.gen,⟨s1,jA r.at_.xs⟩⟩:eC)) 324] _))) (Gi ?_);refine av ?_;refine aY rfl trivial fun ir JM=>ag (aI (v:=ir.val) rfl rfl) (ag (aI (v:= .int .i64 ((eX (cE (⟨2,(max 0 (r.at_.xs.length -1:Int)),r.gen,⟨s1,jA r.at_.xs⟩⟩:eC)) n).2)) rfl rfl) (al ?_));refine Gr fun w1 hw=>?_;exact⟨ir,by rw[hE];rfl,trivial,by
  have h1:Mem w [own aP 1 ir (eX (cE (⟨2,(max 0 (r.at_.xs.length -1:Int)),r.gen,⟨s1,jA r.at_.xs⟩⟩:eC)) n).1] _:=ai.mem hw;rw[hE];exact h1⟩)⟩
instance amt{xb:Nat}{xc:Cp}{xa:Sl Int}{xg:UInt64}{xl:Int}{xy:Bool}[eH:lE w0 L xb (aN (⟨⟨xc,xa,xg,xl⟩,xy⟩:aO)) 261][dI:aV w0 L xc]:bY Tryz.prog 176 w0 L [.pointer (some ⟨xb,0,none⟩)] (.int .i64 (mF (cv xc):Nat)) (True):=⟨fun aA w hw=>by
 have eH:=eH.h w hw;have dI:=dI.h w hw;have uv:qi w xb (aN (⟨⟨xc,xa,xg,xl⟩,xy⟩:aO)) 261:=⟨eH⟩;have uw:cy w xc:=⟨dI⟩;have iO:=dI.1.1.bd;have eO:(cv xc).blocks.length=xc.blocks.xs.length:=gm _;refine cw Tryz.func176 rfl Tryz.ntmps176 rfl ?_;refine nq ?_;refine ag (Ry.to (v':=xc.blocks.sv.val) (mO rfl) rfl) (al ?_);refine bA (X:=Nat) (fun zz=>[(13, .int .i64 (zz:Nat)),(3, .int .i64 ((((ij xc.blocks.xs).take zz).filter fun b=>b.bad).length:Nat)),(11,xc.blocks.sv.val),(12, .int .i64 (xc.blocks.xs.length:Nat))]) (fun zz=>[]) (fun zz=>zz<=xc.blocks.xs.length) (fun zz=>xc.blocks.xs.length -zz) 0 (apE _) sb (fun w hw=>ai.mem hw) ?_;rintro i aQ;refine al ?_;refine Gb (fun h0=>?_) fun h0=>?_
 ·
  obtain⟨B,hB⟩:=get_some (xs:=xc.blocks.xs) (i:=i) oM;have rf:Mb B xc.blocks:=⟨List.mem_of_getElem? hB⟩;have eG:=Yq (lT hB);have hle:(((ij xc.blocks.xs).take i).filter fun b=>b.bad).length<=i:=arv (ard _ _) (by rw[apk];omega);refine Gc ?_;refine ag (aR rfl rfl i rfl oM) (ag (fC rfl i hB rfl) ?_);have aaL:Mb B xc.blocks:=⟨List.mem_of_getElem? hB⟩;refine bn fun b5=>aH ?_;refine Gb (fun h1=>?_) fun h1=>?_
  ·
   rw[if_pos (show(bv B).bad=true from h1)]at eG;refine Gi ?_;refine aT ?_;refine Gi ?_;exact aW (x:=(i)) (i+1) oF oF (Sub.cons rfl (Sub.cons (look_eq rfl (by rw[eG];rfl)) sb)) (fun w hw=>ai.mem hw)
  rw[if_neg (show ¬(bv B).bad=true by rw[show(bv B).bad=B.bad from rfl,h1];simp)]at eG;refine al ?_;refine Gi ?_;exact aW (x:=(i)) (i+1) oF oF (Sub.cons rfl (Sub.cons (look_eq rfl (by rw[eG,aqk])) sb)) (fun w hw=>ai.mem hw)
 obtain rfl:i=xc.blocks.xs.length:=by omega
 have hz:mF (cv xc)=(((ij xc.blocks.xs).take xc.blocks.xs.length).filter fun b=>b.bad).length:=by rw[←eO];exact congrArg (fun l:List BV=>(l.filter fun b=>b.bad).length) (apI).symm
 refine au ?_;refine Gr fun w1 hw=>?_;exact⟨congrArg (fun b=>Ending.returned (Value.int .i64 b)) (by rw[hz]),ai.mem hw⟩⟩
instance amu{xb:Nat}{xc:Cp}{xa:Sl Int}{xg:UInt64}{xl:Int}{xy:Bool}{b:Int}[eH:lE w0 L xb (aN (⟨⟨xc,xa,xg,xl⟩,xy⟩:aO)) 261][dI:aV w0 L xc]:bY Tryz.prog 219 w0 L [.pointer (some ⟨xb,0,none⟩), .int .i64 b] (.int .i64 (gq (cv xc) b)) (bq (cv xc)=true/\0<=b/\b<(cv xc).blocks.length):=⟨fun aA w hw=>by
 have eH:=eH.h w hw;have dI:=dI.h w hw;have uv:qi w xb (aN (⟨⟨xc,xa,xg,xl⟩,xy⟩:aO)) 261:=⟨eH⟩;have uw:cy w xc:=⟨dI⟩;obtain⟨hk,ux,pq⟩:=aA;have kb:gn xc:=r8 hk;have eO:(cv xc).blocks.length=xc.blocks.xs.length:=gm _;obtain⟨B,hB⟩:=get_some (xs:=xc.blocks.xs) (i:=b.toNat) oM;have rf:Mb B xc.blocks:=⟨List.mem_of_getElem? hB⟩;have eu:=sj hB;have fJ:=gP.1 ((eW.1 hk).2.2.2.2 (bv B) (alM (lT hB)));have hO:=kQ.1 (eW.1 hk).1;have pt:(aM (cv xc) b).used=B.used:=by rw[eu];rfl
 simp only[bv,cv]at fJ hO;refine cz Tryz.func219 rfl Tryz.ntmps219 rfl ?_;refine dP ?_;refine ag (Ry.to (v':=xc.blocks.sv.val) (mO rfl) rfl) (Gs ?_);refine ag (aR rfl rfl b.toNat oM oM) (ag (fC rfl b.toNat hB rfl) ?_);have Cu:Mb B xc.blocks:=⟨List.mem_of_getElem? hB⟩;refine bn fun b5=>aH ?_;refine Gb (fun h0=>?_) fun h0=>?_
 ·
  refine al ?_;refine Gr fun w1 hw=>?_;exact Gf ((by rw[gq,eu,if_pos (show(bv B).bad=true from h0)])) hw
 refine Gc ?_;refine fA oK oK (aH ?_);refine bx (Ry.to (v':= .int .i64 xc.ae) (mO rfl) rfl) (aH ?_);refine Gr fun w1 hw=>?_;exact⟨congrArg (fun b=>Ending.returned (Value.int .i64 b)) ((by rw[gq,eu,if_neg (show ¬(bv B).bad=true by rw[show(bv B).bad=B.bad from rfl,h0];simp)];rfl)),ai.mem hw⟩⟩
instance amv{er:Int}:bY Tryz.prog 311 w0 L [.int .i64 er] (.int .i64 (lX er)) (True):=⟨fun aA w hw=>by
 refine cw Tryz.func311 rfl Tryz.ntmps311 rfl ?_;refine aT ?_;refine Gb (fun h0=>?_) fun h0=>?_
 ·
  refine al ?_;refine Gr fun w1 hw=>?_;exact Gf ((by rw[lX,if_pos h0])) hw
 refine au ?_;refine Gr fun w1 hw=>?_;exact⟨congrArg (fun b=>Ending.returned (Value.int .i64 b)) ((by rw[lX,if_neg h0])),ai.mem hw⟩⟩
instance amw{xb:Nat}{xc:Cp}{xa:Sl Int}{xg:UInt64}{xl:Int}{xy:Bool}[eH:lE w0 L xb (aN (⟨⟨xc,xa,xg,xl⟩,xy⟩:aO)) 261][dI:aV w0 L xc]:bY Tryz.prog 306 w0 L [.pointer (some ⟨xb,0,none⟩)] (.bool (Ce xg.toNat)) (xg.toNat<281474976710656):=⟨fun aA w hw=>by
 have eH:=eH.h w hw;have dI:=dI.h w hw;have uv:qi w xb (aN (⟨⟨xc,xa,xg,xl⟩,xy⟩:aO)) 261:=⟨eH⟩;have uw:cy w xc:=⟨dI⟩;refine cw Tryz.func306 rfl Tryz.ntmps306 rfl ?_;refine cx ?_;refine ag (Ry.to (v':= .int .u64 (xg.toNat:Nat)) (mO rfl) rfl) (ag (Bf (p:=xg.toNat) (q:=2) rfl rfl rfl rfl (by simp only[nb];omega)) (al ?_));refine Gr fun w1 hw=>?_;exact⟨congrArg (fun b=>Ending.returned (Value.bool b)) (by rw[Ce];congr 1;simp only[eq_iff_iff];omega),ai.mem hw⟩⟩
instance amx{xb:Nat}{xc:Cp}{xa:Sl Int}{xg:UInt64}{xl:Int}{xy:Bool}{b:Int}[eH:lE w0 L xb (aN (⟨⟨xc,xa,xg,xl⟩,xy⟩:aO)) 261][dI:aV w0 L xc]:bY Tryz.prog 251 w0 L [.pointer (some ⟨xb,0,none⟩), .int .i64 b] (.int .u64 ((ou (cv xc) b):Nat)) (bq (cv xc)=true/\0<=b/\b<(cv xc).blocks.length):=⟨fun aA w hw=>by
 have eH:=eH.h w hw;have dI:=dI.h w hw;have uv:qi w xb (aN (⟨⟨xc,xa,xg,xl⟩,xy⟩:aO)) 261:=⟨eH⟩;have uw:cy w xc:=⟨dI⟩;obtain⟨hk,ux,pq⟩:=aA;have kb:gn xc:=r8 hk;have eO:(cv xc).blocks.length=xc.blocks.xs.length:=gm _;obtain⟨B,hB⟩:=get_some (xs:=xc.blocks.xs) (i:=b.toNat) oM;have rf:Mb B xc.blocks:=⟨List.mem_of_getElem? hB⟩;have eu:=sj hB;have fJ:=gP.1 ((eW.1 hk).2.2.2.2 (bv B) (alM (lT hB)));have hO:=kQ.1 (eW.1 hk).1;have pt:(aM (cv xc) b).used=B.used:=by rw[eu];rfl
 simp only[bv,cv]at fJ hO;have iJ:=nw B.ae.xs;have hgE:ou (cv xc) b=sk (aL B.ae.xs):=by rw[ou,eu];rfl
 refine cz Tryz.func251 rfl Tryz.ntmps251 rfl ?_;refine nq ?_;refine ag (Ry.to (v':=xc.blocks.sv.val) (mO rfl) rfl) (Gs ?_);refine ag (aR rfl rfl b.toNat oM oM) (ag (aK rfl rfl) (ag (bC (j:=0) rfl b.toNat hB rfl (by decide)) (al ?_)));refine bA (X:=Nat) (fun zz=>[(21, .int .i64 (zz:Nat)),(5, .int .u64 ((sk ((aL B.ae.xs).take zz)):Nat)),(19,B.ae.sv.val),(20, .int .i64 (B.ae.xs.length:Nat))]) (fun zz=>[]) (fun zz=>zz<=B.ae.xs.length) (fun zz=>B.ae.xs.length -zz) 0 (apE _) sb (fun w hw=>ai.mem hw) ?_;rintro i aQ;refine al ?_;refine Gb (fun h0=>?_) fun h0=>?_
 ·
  obtain⟨y,hy⟩:=get_some (xs:=B.ae.xs) (i:=i) oM;have JG:Mb y B.ae:=⟨List.mem_of_getElem? hy⟩;have eG:=Yp (oS hy);have Cx:=IZ ((aL B.ae.xs).take i);have vV:=O9 y.xs;refine Gc ?_;refine ag (aR rfl rfl i rfl oM) (ag (bC (j:=0) rfl i hy rfl (by decide)) (al ?_));refine aY rfl trivial fun qj sP=>?_;have ur:qj.gen.toNat=(fm y.xs).1.gen:=congrArg RV.gen sP;refine Gs ?_;refine ag (aI (v:= .agg (dS qj)) rfl rfl) (ag (aI (v:= .int .i64 ((fm y.xs).2)) rfl rfl) (bn fun b8=>aT ?_));refine Gb (fun h1=>?_) fun h1=>?_
  ·
   have hr:tZ y.xs=qj.gen.toNat:=by rw[tZ,if_pos h1,←ur]
   refine Gi ?_;refine al ?_;refine ag (u4 rfl rfl) (au ?_);refine Gi ?_;exact aW (x:=(i)) (i+1) oF oF (Sub.cons rfl (Sub.cons (look_eq rfl (by rw[eG,hr];congr 1;omega)) sb)) (fun w hw=>ai.mem hw)
  have hr:tZ y.xs=0:=by rw[tZ,if_neg h1]
  refine al ?_;refine Gi ?_;exact aW (x:=(i)) (i+1) oF oF (Sub.cons rfl (Sub.cons (look_eq rfl (by rw[eG,hr];congr 1;omega)) sb)) (fun w hw=>ai.mem hw)
 obtain rfl:i=B.ae.xs.length:=by omega
 have hz:sk (aL B.ae.xs)=(sk ((aL B.ae.xs).take B.ae.xs.length)):=by rw[←iJ,apI]
 refine au ?_;refine Gr fun w1 hw=>?_;exact⟨by rw[hgE,hz],ai.mem hw⟩⟩
instance amy{xb:Nat}{xc:Cp}{xa:Sl Int}{xg:UInt64}{xl:Int}{xy:Bool}{b:Int}[eH:lE w0 L xb (aN (⟨⟨xc,xa,xg,xl⟩,xy⟩:aO)) 261][dI:aV w0 L xc]:bY Tryz.prog 215 w0 L [.pointer (some ⟨xb,0,none⟩), .int .i64 b] (.bool (Cd (cv xc) b)) (bq (cv xc)=true/\0<=b/\b<(cv xc).blocks.length):=⟨fun aA w hw=>by
 have eH:=eH.h w hw;have dI:=dI.h w hw;have uv:qi w xb (aN (⟨⟨xc,xa,xg,xl⟩,xy⟩:aO)) 261:=⟨eH⟩;have uw:cy w xc:=⟨dI⟩;have aaM:=aA;obtain⟨hk,ux,pq⟩:=aA;have kb:gn xc:=r8 hk;have eO:(cv xc).blocks.length=xc.blocks.xs.length:=gm _;obtain⟨B,hB⟩:=get_some (xs:=xc.blocks.xs) (i:=b.toNat) oM;have rf:Mb B xc.blocks:=⟨List.mem_of_getElem? hB⟩;have eu:=sj hB;have fJ:=gP.1 ((eW.1 hk).2.2.2.2 (bv B) (alM (lT hB)));have hO:=kQ.1 (eW.1 hk).1;have pt:(aM (cv xc) b).used=B.used:=by rw[eu];rfl
 simp only[bv,cv]at fJ hO;refine cz Tryz.func215 rfl Tryz.ntmps215 rfl ?_;refine dP ?_;refine ag (Ry.to (v':=xc.blocks.sv.val) (mO rfl) rfl) (Gs ?_);refine ag (aR rfl rfl b.toNat oM oM) (ag (fC rfl b.toNat hB rfl) ?_);have Cu:Mb B xc.blocks:=⟨List.mem_of_getElem? hB⟩;refine bn fun b5=>fQ ?_;refine gh rfl rfl rfl (fun hg=>(Ry.yl (bf (aw hg rfl)))) (lK rfl rfl rfl (fun hg=>(Ry.yl (bf rfl))) (lK rfl rfl rfl (fun hg=>(Ry.yl (du (aw hg rfl) rfl rfl))) (lK rfl rfl rfl (fun hg=>(Ry.yl (bf (aw hg rfl)))) (kK rfl rfl rfl (fun hg=>(Ry.yl (bf rfl))) (kK rfl rfl rfl (fun hg=>(Ry.yl (bf rfl))) (kK rfl rfl rfl (fun hg=>bP (cZ (aw hg rfl) (cZ (aw hg rfl) fu)) aaM) (kK rfl rfl rfl (fun hg=>(Ry.yl (du (aw hg rfl) rfl rfl))) (lK rfl rfl rfl (fun hg=>(Ry.yl (wS (aw hg rfl) (ti hg rfl) rfl))) (gh rfl rfl rfl (fun hg=>(Ry.yl (wT (aw hg rfl) rfl (ti hg rfl)))) (al ?_))))))))));refine Gr fun w1 hw=>?_;exact⟨congrArg (fun b=>Ending.returned (Value.bool b)) ((by
  have e:decide ((0:Int)<((ou (cv xc) b:Nat):Int))=decide (0<ou (cv xc) b):=decide_eq_decide.2 oM;rw[Cd,eu,e];rfl)),ai.mem hw⟩⟩
instance amz{xb:Nat}{xc:Cp}{xa:Sl Int}{xg:UInt64}{xl:Int}{xy:Bool}{b:Int}[eH:lE w0 L xb (aN (⟨⟨xc,xa,xg,xl⟩,xy⟩:aO)) 261][dI:aV w0 L xc]:bY Tryz.prog 217 w0 L [.pointer (some ⟨xb,0,none⟩), .int .i64 b] (.int .u64 ((fT (cv xc) b):Nat)) (bq (cv xc)=true/\2<=(cv xc).blocks.length/\(b=0\/b=1)):=⟨fun aA w hw=>by
 have eH:=eH.h w hw;have dI:=dI.h w hw;have uv:qi w xb (aN (⟨⟨xc,xa,xg,xl⟩,xy⟩:aO)) 261:=⟨eH⟩;have uw:cy w xc:=⟨dI⟩;obtain⟨hk,ji,wc⟩:=aA;have Cx:=IZ (aM (cv xc) (1 -b)).ae;change ou (cv xc) (1 -b)<_ at Cx;refine cz Tryz.func217 rfl Tryz.ntmps217 rfl ?_;refine fQ ?_;refine dv (bP rfl ⟨hk,by omega,by omega⟩) (Gs ?_);refine ag (Ry.to (v':= .int .u64 (((1 -b).toNat:Nat):Int)) (GY rfl oM (by simp only[nb];omega)) (by congr 1;omega)) (ag (Bf (p:=(ou (cv xc) (1 -b))) (q:=((1 -b).toNat)) rfl rfl rfl rfl (by simp only[nb];omega)) (ag (u4 rfl rfl) (av ?_)));refine Gr fun w1 hw=>?_;exact⟨by rw[fT];congr 2;omega,ai.mem hw⟩⟩
instance amA{xb:Nat}{xc:Cp}{xa:Sl Int}{xg:UInt64}{xl:Int}{xy:Bool}[eH:lE w0 L xb (aN (⟨⟨xc,xa,xg,xl⟩,xy⟩:aO)) 261][dI:aV w0 L xc]:bY Tryz.prog 261 w0 L [.pointer (some ⟨xb,0,none⟩)] (.int .i64 (xM (cv xc) xl)) (bq (cv xc)=true/\2<=(cv xc).blocks.length/\(xl=0\/xl=1)):=⟨fun aA w hw=>by
 have eH:=eH.h w hw;have dI:=dI.h w hw;have uv:qi w xb (aN (⟨⟨xc,xa,xg,xl⟩,xy⟩:aO)) 261:=⟨eH⟩;have uw:cy w xc:=⟨dI⟩;obtain⟨hk,ji,wc⟩:=aA;have kb:gn xc:=r8 hk;have eO:(cv xc).blocks.length=xc.blocks.xs.length:=gm _;obtain⟨Bo,fJ⟩:=get_some (xs:=xc.blocks.xs) (i:=(1 -xl).toNat) oM;obtain⟨Bl,mL⟩:=get_some (xs:=xc.blocks.xs) (i:=xl.toNat) oM;have As:=sj fJ;have Q3:=sj mL;refine cw Tryz.func261 rfl Tryz.ntmps261 rfl ?_;refine al ?_;refine fA oK oK (au ?_);refine bx (Ry.to (v':= .int .i64 xl) (mO rfl) rfl) (au ?_);refine bx (Ry.to (v':= .int .i64 xl) (mO rfl) rfl) (fQ ?_);refine ag (Ry.to (v':=xc.blocks.sv.val) (mO rfl) rfl) (Gs ?_);refine ag (aR rfl rfl ((1 -xl).toNat) oM oM) (ag (aK rfl rfl) (ag (bC (j:=3) rfl ((1 -xl).toNat) fJ rfl (by decide)) (av ?_)));refine Gb (fun h0=>?_) fun h0=>?_
 ·
  refine al ?_;refine dv (bP rfl ⟨hk,by omega,by omega⟩) (av ?_);refine Gr fun w1 hw=>?_;exact Gf ((by rw[xM,As,if_pos (show(bv Bo).bad=true from h0)])) hw
 refine aT ?_;refine ag (Ry.to (v':=xc.blocks.sv.val) (mO rfl) rfl) (Gs ?_);refine ag (aR rfl rfl xl.toNat oM oM) (ag (aK rfl rfl) (ag (bC (j:=3) rfl xl.toNat mL rfl (by decide)) (al ?_)));refine gh rfl rfl rfl (fun hg=>bP (cZ (aw hg rfl) (cZ (aw hg rfl) fu)) ⟨hk,by omega,by omega⟩) (au ?_);refine Gb (fun h1=>?_) fun h1=>?_
 ·
  refine al ?_;refine dv (bP rfl ⟨hk,by omega,by omega⟩) (av ?_);refine Gr fun w1 hw=>?_;exact Gf ((by rw[xM,As,Q3,if_neg (show ¬(bv Bo).bad=true by rw[show(bv Bo).bad=Bo.bad from rfl,h0];simp),if_pos ⟨h1.1,h1.2⟩])) hw
 refine aT ?_;refine ag (Ry.to (v':= .int .i64 xc.ae) (mO rfl) rfl) (av ?_);refine Gr fun w1 hw=>?_;exact⟨congrArg (fun b=>Ending.returned (Value.int .i64 b)) ((by
  rw[xM,As,Q3,if_neg (show ¬(bv Bo).bad=true by rw[show(bv Bo).bad=Bo.bad from rfl,h0];simp),if_neg]
  ·
   rfl
  rintro⟨g1,g2⟩;rcases h1 with h|h
  ·
   exact absurd (h.symm.trans g1) (by simp)
  omega)),ai.mem hw⟩⟩
instance amB{c:Cp}{b:Int}{g:Int}{x:Sv}{xs:List UInt8}[hc:aV w0 L c][hx:ct w0 L aP 1 x xs]:bE Tryz.prog 256 w0 L [.agg (aU c), .int .i64 b, .int .i64 g,x.val] (Cp) (fun zz=> .tuple #[.agg (aU zz), .int .i64 (my (cv c) b g xs)]) (fun zz=>fz zz::L) (fun zz=>cv zz=nA (cv c) b g xs) (gn c):=⟨fun aA w hw=>Gk (fun zz=>[fz zz]) hw (by
 have hc:=hc.h w hw;have hx:=hx.h w hw;have ka:cy w c:=⟨hc⟩;have Aj:Gv w x aP 1 xs:=⟨hx⟩;have kb:gn c:=aA;obtain⟨eF,fU,eY⟩:=aA;have vJ:eo=1099511627776:=rfl;refine No Tryz.func256 rfl Tryz.ntmps256 rfl ?_;refine Gc ?_;refine bH rfl fun b4=>bn fun b8=>al ?_;refine aY rfl (by assumption) fun ck uy=>bn fun Au=>Nn ?_;refine Gb (fun h0=>?_) fun h0=>?_
 ·
  have hz: ¬tT (cv c) b g xs=true:=fun hk=>by
   obtain⟨k1,k2,k3,k4,k5⟩:=qP.1 hk;rw[k1]at h0;simp only[cv]at k3 k4 k5;simp only[aqW,false_or]at h0;omega
  refine aH ?_;refine Gr fun w1 hw=>?_;exact⟨ck,by rw[my,if_neg hz],by rw[uy,nA,if_neg (fun h=>hz h.1)],nC ck (ai.mem hw)⟩
 have hk:tT (cv c) b g xs=true:=by
  cases k1:lU (cv c) b with
  |false=>rw[k1]at h0;simp at h0
  |true=>
   rw[k1]at h0;simp only[aqW,false_or]at h0;exact qP.2 ⟨k1,by omega,by simp only[cv];omega,by simp only[cv];omega,by simp only[cv];omega⟩
 have hh:=(qP.1 hk).1;have QB:=(ny.1 hh).2;have eO:ck.blocks.xs.length=c.blocks.xs.length:=by have:=congrArg (fun v:CV=>v.blocks.length) uy;simpa only[cv,gm]using this
 have Cr:ck.ops=c.ops:=congrArg CV.ops uy;have nN:(cv c).blocks.length=c.blocks.xs.length:=gm _;obtain⟨B,hB⟩:=get_some (xs:=ck.blocks.xs) (i:=b.toNat) oM;have mL:b.toNat<ck.blocks.xs.length:=(ad2.1 hB).1;have eu:bv B=aM (cv c) b:=by
  have h1:=EG hh;have h2:=lT hB;rw[show ij ck.blocks.xs=(cv c).blocks from congrArg CV.blocks uy,h1]at h2;exact(api h2).symm
 have fJ:oT c.ae c.size (bv B)=true:=by rw[eu];exact xD hh
 obtain⟨o1,o2,o3,o4,o5,o6⟩:=gP.1 fJ;have hO:=kQ.1 (eW.1 (ny.1 hh).1).1;have Cs:=(eW.1 (ny.1 hh).1).2.1;simp only[bv,cv]at o1 o2 o3 o4 o5 o6 hO Cs;have Fv:=nw B.ae.xs;obtain⟨_,k2,k3,k4,k5⟩:=qP.1 hk;simp only[cv]at k3 k4 k5;refine au ?_;refine Gb (fun h1=>?_) fun h1=>?_
 ·
  refine aH ?_;refine Gr fun w1 hw=>?_;exact⟨ck,by rw[my,if_pos hk,if_pos (show(cv c).off=true from h1)],by rw[uy,nA,if_neg (fun h=>absurd (h1.symm.trans h.2.1) (by simp))],nC ck (ai.mem hw)⟩
 have ri:(cv c).off=false:=h1;refine au ?_;refine ag (aR rfl rfl b.toNat oM mL) (au ?_);refine ag (aK rfl rfl) (ag (bC (j:=3) rfl b.toNat hB rfl (by decide)) (al ?_));refine bo rfl rfl rfl (fun hg=>(Ry.yl (iM (aw hg rfl)))) (bo rfl rfl rfl (fun hg=>(Ry.yl (aK (aw hg rfl) rfl))) (bo rfl rfl rfl (fun hg=>(Ry.yl (bC (j:=1) (aw hg rfl) b.toNat hB rfl (by decide)))) (al ?_)));refine Gb (fun h2=>?_) fun h2=>?_
 ·
  have eZ:(aM (cv c) b).bad=true\/g≠(aM (cv c) b).used:=by rw[←eu];exact h2
  refine aH ?_;refine Gr fun w1 hw=>?_;exact⟨ck,by rw[my,if_pos hk,if_neg (by rw[ri];simp),if_pos eZ],by rw[uy,nA,if_neg (fun h=>eZ.elim (fun g1=>absurd (g1.symm.trans h.2.2.1) (by simp)) (fun g1=>g1 h.2.2.2))],nC ck (ai.mem hw)⟩
 have eZ: ¬((aM (cv c) b).bad=true\/g≠(aM (cv c) b).used):=by
  rw[←eu];rintro(h|h)
  ·
   exact absurd (h2.1.symm.trans h) (by simp)
  exact h h2.2
 have hgu:g=B.used:=h2.2;obtain⟨q,hq⟩:=get_some (xs:=(aL B.ae.xs)) (i:=g.toNat) oM;have wL:=o6 q (alM hq);have cr:B.ae.xs≠[]:=fun e=>by
  have h9:(aL B.ae.xs).length=0:=by rw[e];rfl
  omega
 have sO:(ck.blocks.xs.set b.toNat ({B with used:=B.used+1}:Bk))[b.toNat]? =Option.some ({B with used:=B.used+1}:Bk):=apJ mL
 have ku:nA (cv c) b g xs=rY (cv c) b g xs:=by
  rw[nA,if_pos ⟨hk,ri,by cases hb:(aM (cv c) b).bad with|false=>rfl|true=>exact absurd (.inl hb) eZ,Decidable.not_not.1 fun h=>eZ (.inr h)⟩]
 refine iN ?_;refine Oy (pr:=fun rm:Sv=>rm.nil=false/\rm.sp=none/\B.ae.xs=cX rm 0 (aL B.ae.xs)) (fun rm:Sv=>[own (bU (τ:=UInt8)) 1 B.ae.sv B.ae.xs,own aP 1 rm (aL B.ae.xs).flatten,own bS 4 ck.blocks.sv ck.blocks.xs,aj.all ((ck.blocks.xs.eraseIdx b.toNat).map fun b:Bk=>eN b.ae),own dL 4 ck.bj.sv ck.bj.xs,an Au (aU ck) 59,an b8 (aU fY) 59,an b4 (aU c) 59]) (fun w hw=>Oe hB cr (ai.mem hw)) fun rm Al=>?_;obtain⟨hn,hs,Av⟩:=Al;have Aw:B.ae.xs[g.toNat]? =Option.some ⟨(win rm ((aL B.ae.xs).take g.toNat).flatten.length (((aL B.ae.xs).take g.toNat).flatten.length+q.length)),q⟩:=by rw[Av,vu,EK hq,apP]
 have Q4: ∀r:List UInt8,r.length=q.length->B.ae.xs.map (fun x=>x.sv)=(cX rm 0 ((aL B.ae.xs).set g.toNat r)).map (fun x=>x.sv):=fun r hr=>(congrArg (List.map fun x:Sl UInt8=>x.sv) Av).trans (XA hq hr);refine Gi ?_;refine Gs ?_;refine dv (bP rfl oM) (Gs ?_);refine ag (aI (v:= .agg (dL ((bM (cv c)).1))) rfl rfl) (ag (aI (v:= .bool ((bM (cv c)).2)) rfl rfl) (bn fun uo=>cx ?_));refine dR (cs':=aU (⟨ck.ae,ck.size,ck.blocks,(ck.ops+1),ck.off,ck.bj⟩:Cp)) rfl rfl (by show 3<6;decide) (by first|rfl|exact Sv.one _) rfl (al ?_);refine ag (aK rfl rfl) (ag (bC (j:=1) rfl b.toNat hB rfl (by decide)) (av ?_));refine ag (aK rfl rfl) (ju (s:=ck.blocks.sv) (n:=1) (k:=b.toNat) (j:=1) (a:=B) (a':=({B with used:=B.used+1}:Bk)) (xs:=ck.blocks.xs) (enc:=bS) (c:=4) (v:= .int .i64 (B.used+1)) oK rfl rfl rfl hB (by simp[Value.cells,Value.oneCell']) (by rfl) (by decide) (by rfl) (al ?_))
 refine ag (aK rfl rfl) (ag (Ry.to (v':=B.ae.sv.val) (bC (j:=0) rfl b.toNat sO rfl (by decide)) rfl) (Gs ?_));refine ag (aR rfl rfl g.toNat oM oM) (ag (Ry.to (v':=(win rm ((aL B.ae.xs).take g.toNat).flatten.length (((aL B.ae.xs).take g.toNat).flatten.length+q.length)).val) (bC (j:=0) rfl g.toNat Aw rfl (by decide)) rfl) (Gs ?_));refine Xm (D:=(win rm ((aL B.ae.xs).take g.toNat).flatten.length (((aL B.ae.xs).take g.toNat).flatten.length+q.length))) (S:=x) (rm:=rm) (k:=((aL B.ae.xs).take g.toNat).flatten.length) (xs:=(aL B.ae.xs).flatten) (ys:=xs) rfl hn hs rfl (by rw[zG oM];omega) rfl (by decide) hn oM (by simp only[win];omega) (by have:=BZ hq;have:=B2 (aL B.ae.xs) (g.toNat+1);omega) (au ?_);refine Gb (fun h3=>?_) fun h3=>?_
 ·
  have lp:zA (cv c) xs=xs:=by rw[zA,if_neg (by rw[h3];simp)]
  refine aH ?_;refine Gr fun w1 hw=>?_;exact⟨(⟨ck.ae,ck.size,⟨ck.blocks.sv,ck.blocks.xs.set b.toNat ⟨⟨B.ae.sv,cX rm 0 ((aL B.ae.xs).set g.toNat xs)⟩,B.used+1,B.bB,B.bad⟩⟩,ck.ops+1,ck.off,ck.bj⟩:Cp),by rw[my,if_pos hk,if_neg (by rw[ri];simp),if_neg eZ,if_neg (by rw[h3];simp)];rfl,by rw[Ol uy eu,ku,rY,lp,h3,arK,show ck.off=(cv c).off from congrArg CV.off uy,ri],(by
   rw[←EJ hq oM]at hw;exact nC (⟨ck.ae,ck.size,⟨ck.blocks.sv,ck.blocks.xs.set b.toNat ⟨⟨B.ae.sv,cX rm 0 ((aL B.ae.xs).set g.toNat xs)⟩,B.used+1,B.bB,B.bad⟩⟩,ck.ops+1,ck.off,ck.bj⟩:Cp) (EL (rm:=rm) (l:=(aL B.ae.xs).set g.toNat xs) (B:=({B with used:=B.used+1}:Bk)) (B':=⟨⟨B.ae.sv,cX rm 0 ((aL B.ae.xs).set g.toNat xs)⟩,B.used+1,B.bB,B.bad⟩) (sp:=B.ae.sv) (ps:=B.ae.xs) mL (Q4 _ oM) hn rfl rfl (ai.mem hw)))⟩
 have lp:zA (cv c) xs=cU (~~~(bM (cv c)).1.mask) xs:=by rw[zA,if_pos h3]
 have sK:cU (~~~(bM (cv c)).1.mask) (xs.take 0)++xs.drop 0=xs:=by simp[cU]
 refine aH ?_;refine bA (X:=Nat) (fun zz=>[(96, .int .i64 (zz:Nat)),(2, .int .i64 g),(8, .pointer (some ⟨b8,0,none⟩)),(10, .pointer (some ⟨Au,0,none⟩)),(11, .pointer (some ⟨ck.blocks.sv.b,ck.blocks.sv.o+b.toNat*4,none⟩)),(12, .pointer (some ⟨uo,0,none⟩)),(95, .int .i64 c.size)]) (fun zz=>[an uo (dL (bM (cv c)).1) 97,own (bU (τ:=UInt8)) 1 B.ae.sv B.ae.xs,own aP 1 rm ((aL B.ae.xs).set g.toNat (cU (~~~(bM (cv c)).1.mask) (xs.take zz)++xs.drop zz)).flatten,own bS 4 ck.blocks.sv (ck.blocks.xs.set b.toNat ({B with used:=B.used+1}:Bk)),aj.all ((ck.blocks.xs.eraseIdx b.toNat).map fun b:Bk=>eN b.ae),own dL 4 ck.bj.sv ck.bj.xs,an Au (aU (⟨ck.ae,ck.size,ck.blocks,(ck.ops+1),ck.off,ck.bj⟩:Cp)) 59,an b8 (aU fY) 59,an b4 (aU c) 59]) (fun zz=>zz<=xs.length) (fun zz=>xs.length -zz) 0 (apE _) sb (fun w hw=>by
  rw[sK,EJ hq oM];exact ai.mem hw) ?_
 rintro i aQ;refine al ?_;refine Gb (fun h4=>?_) fun h4=>?_
 ·
  have vV:(cU (~~~(bM (cv c)).1.mask) (xs.take i)++xs.drop i).length=xs.length:=IA oM;obtain⟨z,hz⟩:=get_some (xs:=xs) (i:=i) oM;have uk:((aL B.ae.xs).set g.toNat (cU (~~~(bM (cv c)).1.mask) (xs.take i)++xs.drop i)).flatten[((aL B.ae.xs).take g.toNat).flatten.length+i]? =Option.some z:=by
   have h9:=zF (l:=(aL B.ae.xs).set g.toNat (cU (~~~(bM (cv c)).1.mask) (xs.take i)++xs.drop i)) (i:=g.toNat) (j:=i) (apJ oM) oM;rw[Iz]at h9;rw[h9,Om oM,hz]
  refine au ?_;refine iE [15,1009] [[],[],[],[],[],[],[],[],[],[],[],[],[],[9],[9],[9]] [0,1,2,3,4,5,6,7,8,9,10,11,12,13,14,15] [own (bU (τ:=UInt8)) 1 B.ae.sv B.ae.xs,own bS 4 ck.blocks.sv (ck.blocks.xs.set b.toNat ({B with used:=B.used+1}:Bk)),an uo (dL (bM (cv c)).1) 97] (fun _ hw=>ai.mem hw) oK oK (ar rfl (bf rfl) (ar rfl (iM rfl) (ar rfl (aK rfl rfl) (ar rfl (Ry.to (v':=B.ae.sv.val) (bC (j:=0) rfl b.toNat sO rfl (by decide)) rfl) (ar rfl (bf rfl) (ar rfl (aR rfl rfl g.toNat oM oM) (ar rfl (Ry.to (v':=(win rm ((aL B.ae.xs).take g.toNat).flatten.length (((aL B.ae.xs).take g.toNat).flatten.length+q.length)).val) (bC (j:=0) rfl g.toNat Aw rfl (by decide)) rfl) (ar rfl (bf rfl) ?_))))))))
  obtain⟨aaN,aaO⟩:=get_some (xs:=q) (i:=i) oM;refine ar rfl (lg (s:=(win rm ((aL B.ae.xs).take g.toNat).flatten.length (((aL B.ae.xs).take g.toNat).flatten.length+q.length))) (i:=i) rfl rfl rfl (EM hn hs oM) (by simp only[win];omega)) (ko rfl (bC (s:=rm) (enc:=aP) (c:=1) (xs:=((aL B.ae.xs).set g.toNat (cU (~~~(bM (cv c)).1.mask) (xs.take i)++xs.drop i)).flatten) (a:=z) (j:=0) (v:= .int .u8 z.toNat) rfl (((aL B.ae.xs).take g.toNat).flatten.length+i) uk (by rw[zG oM];omega) (by decide)) (ar rfl (aK (o':=3) rfl rfl) (ar rfl (bQ rfl) (ar rfl (Xs rfl) (ar rfl (Of rfl rfl) ?_)))));obtain⟨amC,amD⟩:=get_some (xs:=q) (i:=i) oM;refine ar rfl (lg (s:=(win rm ((aL B.ae.xs).take g.toNat).flatten.length (((aL B.ae.xs).take g.toNat).flatten.length+q.length))) (i:=i) rfl rfl rfl (EM hn hs oM) (by simp only[win];omega)) ?_;refine c8 rfl (vo (s:=rm) (n:=1) (k:=((aL B.ae.xs).take g.toNat).flatten.length+i) (j:=0) (a:=z) (a':=z|||(~~~(bM (cv c)).1.mask)) (xs:=((aL B.ae.xs).set g.toNat (cU (~~~(bM (cv c)).1.mask) (xs.take i)++xs.drop i)).flatten) (enc:=aP) (c:=1) (v:= .int .u8 (z|||(~~~(bM (cv c)).1.mask)).toNat) oK rfl rfl (by rw[zG oM];omega) uk (by simp[Value.cells,Value.oneCell']) rfl oM (by rfl) ⟨fun _ hw=>ai.mem hw,?_⟩);refine al ?_;refine Gi ?_;exact aW (x:=(i)) (i+1) oF oF sb (fun w hw=>by
   rw[On hq hz];exact ai.mem hw)
 obtain rfl:i=xs.length:=by omega
 have FF:cU (~~~(bM (cv c)).1.mask) (xs.take xs.length)++xs.drop xs.length=cU (~~~(bM (cv c)).1.mask) xs:=by rw[apI,arp,apZ]
 refine au ?_;refine ag (aI (v:= .bool (((bM (cv c)).1).cut)) rfl rfl) (ag (aI (v:= .int .i64 (oU ((bM (cv c)).1))) rfl rfl) (aH ?_));refine dR (cs':=aU (⟨ck.ae,ck.size,ck.blocks,(ck.ops+1),((bM (cv c)).1).cut,ck.bj⟩:Cp)) rfl rfl (by show 4<6;decide) (by first|rfl|exact Sv.one _) rfl (aT ?_);refine Gr fun w1 hw=>?_;exact⟨(⟨ck.ae,ck.size,⟨ck.blocks.sv,ck.blocks.xs.set b.toNat ⟨⟨B.ae.sv,cX rm 0 ((aL B.ae.xs).set g.toNat (cU (~~~(bM (cv c)).1.mask) xs))⟩,B.used+1,B.bB,B.bad⟩⟩,ck.ops+1,(bM (cv c)).1.cut,ck.bj⟩:Cp),by rw[my,if_pos hk,if_neg (by rw[ri];simp),if_neg eZ,if_pos h3];rfl,by rw[Ol uy eu,ku,rY,lp,h3,aqw],(by
  rw[FF]at hw;have hhl:(cU (~~~(bM (cv c)).1.mask) xs).length=xs.length:=by rw[cU,apQ]
  exact nC (⟨ck.ae,ck.size,⟨ck.blocks.sv,ck.blocks.xs.set b.toNat ⟨⟨B.ae.sv,cX rm 0 ((aL B.ae.xs).set g.toNat (cU (~~~(bM (cv c)).1.mask) xs))⟩,B.used+1,B.bB,B.bad⟩⟩,ck.ops+1,(bM (cv c)).1.cut,ck.bj⟩:Cp) (EL (rm:=rm) (l:=(aL B.ae.xs).set g.toNat (cU (~~~(bM (cv c)).1.mask) xs)) (B:=({B with used:=B.used+1}:Bk)) (B':=⟨⟨B.ae.sv,cX rm 0 ((aL B.ae.xs).set g.toNat (cU (~~~(bM (cv c)).1.mask) xs))⟩,B.used+1,B.bB,B.bad⟩) (sp:=B.ae.sv) (ps:=B.ae.xs) mL (Q4 _ oM) hn rfl rfl (ai.mem hw)))⟩)⟩
end Go.Proofs.YtkggjjnhnjjokaaGreatDoor
