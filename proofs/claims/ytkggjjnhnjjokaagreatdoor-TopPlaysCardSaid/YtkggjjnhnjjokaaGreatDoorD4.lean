/- Part of a proof. -/
import Derived.Test.YtkggjjnhnjjokaaGreatDoorD3
import Derived.Test.YtkggjjnhnjjokaaGreatDoorD2
import Derived.Maps.Keyed
set_option maxRecDepth 20000
set_option linter.unusedSimpArgs false
set_option linter.unusedVariables false
namespace Go.Kb
open Go.ax
instance:Plain Rt:=⟨fun _=>rfl⟩
instance:gh Rt:=gh.flat fun _ _=>trivial
structure dx where
 aq:cm
 table:Sl Rt
def dw(x:dx):Array Value:= #[.int .i64 x.aq.ae.pages, .int .i64 x.aq.ae.size,x.aq.ae.blocks.sv.val, .int .i64 x.aq.ae.ops, .bool x.aq.ae.off,x.aq.ae.aV.sv.val,x.aq.at_.sv.val, .int .u64 x.aq.gen.toNat, .int .i64 x.aq.last,x.table.sv.val]
instance:bm dw 10:=⟨fun _=>rfl,fun x=>by
 simp only[dw,auh,auo,auD,Sv.one,vz,vA,at7]⟩
instance (x:dx):fW (dw x) 10:=⟨rfl,bm.one x⟩
instance (x:dx):cc (dw x) 1 (.int .i64 x.aq.ae.size):=⟨rfl⟩
instance (x:dx):cc (dw x) 6 (x.aq.at_.sv.val):=⟨rfl⟩
instance (x:dx):cc (dw x) 7 (.int .u64 x.aq.gen.toNat):=⟨rfl⟩
instance (x:dx):cc (dw x) 8 (.int .i64 x.aq.last):=⟨rfl⟩
instance (x:dx):cc (dw x) 9 (x.table.sv.val):=⟨rfl⟩
instance (x:dx):nJ (dw x) 0 9 (cw x.aq):=⟨rfl,fun j hj=>by
 match j,hj with
 |0,_=>rfl
 |1,_=>rfl
 |2,_=>rfl
 |3,_=>rfl
 |4,_=>rfl
 |5,_=>rfl
 |6,_=>rfl
 |7,_=>rfl
 |8,_=>rfl⟩
instance (x:dx):nJ (dw x) 0 6 (aT x.aq.ae):=⟨rfl,fun j hj=>by
 match j,hj with
 |0,_=>rfl
 |1,_=>rfl
 |2,_=>rfl
 |3,_=>rfl
 |4,_=>rfl
 |5,_=>rfl⟩
instance:Deep dx where
 c:=10
 cells:=dw
 size:=bm.size
 one:=bm.one
 cH h x:=Deep.cH h x.aq/\Deep.cH h x.table
 bR x:= .two (Deep.bR x.aq) (Deep.bR x.table)
 jv h x hs:=⟨Deep.jv h x.aq hs.1,Deep.jv h x.table hs.2.1⟩
 mono w w' x hg hb:=⟨Deep.mono w w' x.aq hg.1 hb,Deep.mono w w' x.table hg.2 hb⟩
instance:gh dx where
 reach x k:=gh.reach x.aq k\/gh.reach x.table k
 congr h h' x e hg:=⟨gh.congr h h' x.aq (fun k hk=>e k (.inl hk)) hg.1,gh.congr h h' x.table (fun k hk=>e k (.inr hk)) hg.2⟩
variable {w0:World}{L:List aj}
instance{x:dx}[q:aU w0 L x]:aU w0 L x.aq:=⟨fun w hw=>(q.h w hw).1⟩
instance{x:dx}[q:aU w0 L x]:aU w0 L x.table:=⟨fun w hw=>(q.h w hw).2⟩
instance{aq:cm}{table:Sl Rt}[q0:aU w0 L aq][q1:aU w0 L table]:aU w0 L (dx.mk aq table):=⟨fun w hw=>⟨q0.h w hw,q1.h w hw⟩⟩
def nE:dx:=⟨l6,⟨Sv.none,[]⟩⟩
structure FV where
 aq:VV
 table:List Rt
 deriving DecidableEq
def cg(f:dx):FV:=⟨vv f.aq,f.table.xs⟩
def rH:FV:=⟨lE,[]⟩
def zb(b p s:Int):Int:=min (uv b p/2) (kB s)
def zd(b p s:Int):Int:=jA (zb b p s) (dV s)
def eK(c:CV):Int:=zb c.blocks.length c.pages c.size
def eG(c:CV):Int:=zd c.blocks.length c.pages c.size
def eU(c:CV)(y:Int):List UInt8:=if y -1<0 then[]else ji c y
def cy(v:VV):List (List UInt8):=v.at_.map (eU v.ae)
def dz(c:CV):FV×Int:=
 if eG c=0 then(rH,1)
 else if(bG c).2≠0 then(rH,(bG c).2)
 else if((bG c).1.at_.length:Int)≠eK c then(rH,2)
 else if lf (cy (bG c).1)≠0 then(rH,2)
 else(⟨(bG c).1,jN (cy (bG c).1)⟩,0)
def lj(c:CV):List (List UInt8):=if(dz c).2=0 then cy (bG c).1 else[]
theorem SW{c:CV}(h:eG c=0):dz c=(rH,1)/\lj c=[]:=by
 have e:dz c=(rH,1):=by rw[dz,if_pos h]
 exact⟨e,by rw[lj,e];rfl⟩
theorem SX{c:CV}(h: ¬eG c=0)(h1:(bG c).2≠0):dz c=(rH,(bG c).2)/\lj c=[]:=by
 have e:dz c=(rH,(bG c).2):=by rw[dz,if_neg h,if_pos h1]
 exact⟨e,by rw[lj,e,if_neg h1]⟩
theorem SY{c:CV}(h: ¬eG c=0)(h1:(bG c).2=0)(h2:((bG c).1.at_.length:Int)≠eK c):dz c=(rH,2)/\lj c=[]:=by
 have e:dz c=(rH,2):=by rw[dz,if_neg h,if_neg (fun g=>g h1),if_pos h2]
 exact⟨e,by rw[lj,e];rfl⟩
theorem SZ{c:CV}(h: ¬eG c=0)(h1:(bG c).2=0)(h2:((bG c).1.at_.length:Int)=eK c)(h3:lf (cy (bG c).1)≠0):dz c=(rH,2)/\lj c=[]:=by
 have e:dz c=(rH,2):=by rw[dz,if_neg h,if_neg (fun g=>g h1),if_neg (fun g=>g h2),if_pos h3]
 exact⟨e,by rw[lj,e];rfl⟩
theorem GZ{c:CV}(h: ¬eG c=0)(h1:(bG c).2=0)(h2:((bG c).1.at_.length:Int)=eK c)(h3:lf (cy (bG c).1)=0):dz c=(⟨(bG c).1,jN (cy (bG c).1)⟩,0)/\lj c=cy (bG c).1:=by
 have e:dz c=(⟨(bG c).1,jN (cy (bG c).1)⟩,0):=by rw[dz,if_neg h,if_neg (fun g=>g h1),if_neg (fun g=>g h2),if_neg (fun g=>g h3)]
 exact⟨e,by rw[lj,e,if_pos rfl]⟩
theorem G0{c:CV}(h:(dz c).2=0): ¬eG c=0/\(bG c).2=0/\((bG c).1.at_.length:Int)=eK c/\lf (cy (bG c).1)=0:=by
 by_cases h0:eG c=0
 ·
  rw[(SW h0).1]at h;cases h
 by_cases h1:(bG c).2=0
 ·
  by_cases h2:((bG c).1.at_.length:Int)=eK c
  ·
   by_cases h3:lf (cy (bG c).1)=0
   ·
    exact⟨h0,h1,h2,h3⟩
   rw[(SZ h0 h1 h2 h3).1]at h;cases h
  rw[(SY h0 h1 h2).1]at h;cases h
 rw[(SX h0 h1).1]at h;exact absurd h h1
def ll(f:FV):Bool:=decide ((dz {f.aq.ae with off:=false}).2=0)&&decide (f.aq.gen=(dz {f.aq.ae with off:=false}).1.aq.gen)&&decide (f.aq.last=(dz {f.aq.ae with off:=false}).1.aq.last)&&decide (f.aq.at_=(dz {f.aq.ae with off:=false}).1.aq.at_)&&decide (f.table=(dz {f.aq.ae with off:=false}).1.table)
theorem Lr{f:FV}:ll f=true↔(dz {f.aq.ae with off:=false}).2=0/\f.aq.gen=(dz {f.aq.ae with off:=false}).1.aq.gen/\f.aq.last=(dz {f.aq.ae with off:=false}).1.aq.last/\f.aq.at_=(dz {f.aq.ae with off:=false}).1.aq.at_/\f.table=(dz {f.aq.ae with off:=false}).1.table:=by
 simp only[ll,alM,decide_eq_true_eq,and_assoc]
theorem ac6{f:FV}:ll f=(decide ((dz {f.aq.ae with off:=false}).2=0)&&me f.aq&&decide ((dz {f.aq.ae with off:=false}).1.table=f.table)):=by
 rw[avo,Lr];simp only[me,alM,decide_eq_true_eq];constructor
 ·
  rintro⟨h1,h2,h3,h4,h5⟩;obtain⟨g0,g1,g2,g3⟩:=G0 h1;rw[(GZ g0 g1 g2 g3).1]at h2 h3 h4;exact⟨⟨h1,⟨⟨g1,h2.symm⟩,h3.symm⟩,h4.symm⟩,h5.symm⟩
 rintro⟨⟨h1,⟨⟨g4,h2⟩,h3⟩,h4⟩,h5⟩;obtain⟨g0,g1,g2,g3⟩:=G0 h1;rw[(GZ g0 g1 g2 g3).1]at h5⊢;exact⟨rfl,h2.symm,h3.symm,h4.symm,h5.symm⟩
theorem ac7{bs:List (List UInt8)}(h:lf bs=0):bF (jN bs)=true:=by
 unfold lf jN at*
 cases hu:gW bs with
 |none=>rw[hu]at h;cases h
 |some t=>
  rw[hu]at h;simp only at h⊢
  by_cases ht:bF t=true
  ·
   rw[if_pos ht];exact ht
  rw[if_neg ht]at h;cases h
def cG(f:FV)(l:List Ch):FV×Int:=
 if ll f=false then(f,1)
 else if cx f.table l≠0 then(f,cx f.table l)
 else if kf (bM f.table l) (eK f.aq.ae) (dV f.aq.ae.size)≠0 then(f,kf (bM f.table l) (eK f.aq.ae) (dV f.aq.ae.size))
 else if fe (lj {f.aq.ae with off:=false}) (k9 (bM f.table l) (eK f.aq.ae) (dV f.aq.ae.size))=[]then(⟨f.aq,bM f.table l⟩,0)
 else(⟨(fV f.aq (fe (lj {f.aq.ae with off:=false}) (k9 (bM f.table l) (eK f.aq.ae) (dV f.aq.ae.size)))).1,if(fV f.aq (fe (lj {f.aq.ae with off:=false}) (k9 (bM f.table l) (eK f.aq.ae) (dV f.aq.ae.size)))).2≠0 then f.table else bM f.table l⟩,(fV f.aq (fe (lj {f.aq.ae with off:=false}) (k9 (bM f.table l) (eK f.aq.ae) (dV f.aq.ae.size)))).2)
def rI(c:CV):FV×Int:=if eG c=0 then(⟨⟨c,[],0,0⟩,[]⟩,1)else(⟨(pn c (eK c)).1,[]⟩,(pn c (eK c)).2)
theorem Dj{w0 w:World}{L:List aj}{a:Sl Rt}(h:Mem w0 (own ay 19 a.sv a.xs::L) w):Mem w0 (fz a::L) w:=F2 (fun _ _ h=>h) (fun _ _=>trivial) h
theorem G1{w0 w:World}{L:List aj}{f:dx}(h:Mem w0 (fz f.aq.ae::fz f.aq.at_::fz f.table::L) w):Mem w0 (fz f::L) w:=by
 refine Mem.freeze (es:=[fz f.aq.ae,fz f.aq.at_,fz f.table]) f ⟨⟨h.sat (fz f.aq.ae) (by simp),h.sat (fz f.aq.at_) (by simp)⟩,h.sat (fz f.table) (by simp)⟩ (fun k hk=>?_) h;rcases hk with(hk|hk)|hk
 ·
  exact⟨fz f.aq.ae,by simp,hk⟩
 ·
  exact⟨fz f.aq.at_,by simp,hk⟩
 exact⟨fz f.table,by simp,hk⟩
theorem S0{w0 w:World}{L:List aj}{f:dx}(h:Mem w0 (fz f.aq.ae::own bu 1 f.aq.at_.sv f.aq.at_.xs::own ay 19 f.table.sv f.table.xs::L) w):Mem w0 (fz f::L) w:=by
 have h1:=yM (a:=f.aq.at_) (h.perm (List.Perm.swap _ _ _));have h2:=Dj (a:=f.table) (h1.perm ((List.Perm.cons _ (List.Perm.swap _ _ _)).trans (List.Perm.swap _ _ _)));exact G1 (h2.perm ((List.Perm.cons _ (List.Perm.swap _ _ _)).trans ((List.Perm.swap _ _ _).trans (List.Perm.cons _ (List.Perm.swap _ _ _)))))
theorem G2{w0 w:World}{L:List aj}(h:Mem w0 L w):Mem w0 (fz nE::L) w:=
 Mem.freeze (es:=[]) nE ⟨⟨⟨wM,wM⟩,wM⟩,wM⟩ (fun k hk=>by
  rcases hk with(((⟨bO,_⟩|⟨x,hx,_⟩)|⟨bO,_⟩|⟨x,hx,_⟩)|⟨bO,_⟩|⟨x,hx,_⟩)|⟨bO,_⟩|⟨x,hx,_⟩
  all_goals first|exact absurd rfl bO|cases hx) h
theorem A5{w0 w:World}{L:List aj}:Mem w0 L w->Mem w0 (fz (⟨Sv.none,[]⟩:Sl (Sl UInt8))::L) w:=
 Mem.freeze (es:=[]) _ wM (fun k hk=>by
  rcases hk with⟨bO,_⟩|⟨x,hx,_⟩
  ·
   exact absurd rfl bO
  cases hx)
theorem S1(s:Int):0<=kB s/\kB s<=64:=by
 rw[kB,dV];split
 ·
  rename_i h;have:=sJ.1 h;omega
 omega
theorem Ls(c:CV):eK c<=64:=by
 have:=S1 c.size;rw[eK,zb];omega
theorem ac8(b p:Int):0<=uv b p/\uv b p<=448:=by
 rw[uv];split
 ·
  omega
 rename_i h;have h1:0<=b -4/\b -4<=28:=by omega
 have h2:1<=p/\p<=16:=by omega
 exact⟨Int.mul_nonneg h1.1 (by omega),Int.le_trans (avt h1.2 h2.2 (by omega) (by omega)) (by decide)⟩
theorem S2{c:CV}(h:(bG c).2=0):(bG c).1.ae=c:=by
 obtain⟨_,_,e⟩:=KG h;rw[e]
theorem ac9{c:CV}(h:(bG c).2=0):c.off=false:=by
 cases ho:c.off with
 |false=>rfl
 |true=>rw[bG,if_neg (by rw[KF h];simp),if_pos ho]at h;cases h
theorem ada{c:CV}(h:(bG c).2=0):me (bG c).1=true:=by
 have e:{(bG c).1.ae with off:=false}=c:=by rw[S2 h,←ac9 h]
 simp only[me,e,h,decide_true,at7]
theorem adb(c:CV)(n:Int):(ji c n).length<=65536:=by
 rw[ji];split
 ·
  exact KB _
 simp
theorem A6(v:VV):(cy v).length=v.at_.length:=by rw[cy,as8]
theorem ade(c:CV)(n:Int):(eU c n).length<=65536:=by
 rw[eU];split
 ·
  simp
 exact adb c n
theorem adf(c:CV):(lj c).length<=64:=by
 rw[lj];split
 ·
  rename_i h;obtain⟨g0,g1,g2,g3⟩:=G0 h;have:=Ls c;rw[A6];omega
 simp
def eV(f:FV):List (List UInt8):=lj {f.aq.ae with off:=false}
def xA(f:FV)(l:List Ch):Int:=kf (bM f.table l) (eK f.aq.ae) (dV f.aq.ae.size)
def dF(f:FV)(l:List Ch):List (List UInt8):=k9 (bM f.table l) (eK f.aq.ae) (dV f.aq.ae.size)
theorem adg{f:FV}{l:List Ch}(h0:ll f=false):cG f l=(f,1):=by rw[cG,if_pos h0]
theorem G3(f:FV)(l:List Ch):cG f l=(if ll f=false then(f,1)
 else if cx f.table l≠0 then(f,cx f.table l)
 else if xA f l≠0 then(f,xA f l)
 else if fe (eV f) (dF f l)=[]then(⟨f.aq,bM f.table l⟩,0)
 else(⟨(fV f.aq (fe (eV f) (dF f l))).1,if(fV f.aq (fe (eV f) (dF f l))).2≠0 then f.table else bM f.table l⟩,(fV f.aq (fe (eV f) (dF f l))).2)):=rfl
theorem S3{f:FV}{l:List Ch}(h0:ll f=true)(h1:cx f.table l≠0):cG f l=(f,cx f.table l):=by
 rw[G3,if_neg (by rw[h0];simp),if_pos h1]
theorem S4{f:FV}{l:List Ch}(h0:ll f=true)(h1:cx f.table l=0)(h2:xA f l≠0):cG f l=(f,xA f l):=by
 rw[G3,if_neg (by rw[h0];simp),if_neg (fun h=>h h1),if_pos h2]
theorem S5{f:FV}{l:List Ch}(h0:ll f=true)(h1:cx f.table l=0)(h2:xA f l=0)(h3:fe (eV f) (dF f l)=[]):cG f l=(⟨f.aq,bM f.table l⟩,0):=by
 rw[G3,if_neg (by rw[h0];simp),if_neg (fun h=>h h1),if_neg (fun h=>h h2),if_pos h3]
theorem G4{f:FV}{l:List Ch}(h0:ll f=true)(h1:cx f.table l=0)(h2:xA f l=0)(h3: ¬fe (eV f) (dF f l)=[]):cG f l=(⟨(fV f.aq (fe (eV f) (dF f l))).1,if(fV f.aq (fe (eV f) (dF f l))).2≠0 then f.table else bM f.table l⟩,(fV f.aq (fe (eV f) (dF f l))).2):=by
 rw[G3,if_neg (by rw[h0];simp),if_neg (fun h=>h h1),if_neg (fun h=>h h2),if_neg h3]
def S6(f:FV):Bool:=ba f.aq.ae&&decide (f.aq.at_.length<=1000000)&&decide (f.table.length<=1000000)
end Go.Kb
namespace Go.ax
open Go.RowKit
theorem Lt{P:Program}{fn:Func}{N:ct}{env:Env}{w0:World}{L:List aj}(hf:fn.results= #[]): ∀a w,dr N env a->Mem w0 L w->(results fn a.tmps).run P w= .ok (.tuple #[]) w:=fun a w _ _=>by
 simp[results,hf]
section
variable {P:Program} {w0:World} {env:Env}
theorem S7{N:ct}{L:List aj}{d:Option Tmp}{ty:TypeId}{ps:String}{af:Array Edge}{gd:Option (Nat×Bool)}{t:TypeId}{x:Operand}{p:Addr}{v:Value}[ht:fR P t](hx:ev env x=some (.pointer (some p)))(hc:w0.cell? p=some v):Ry P N w0 env L ⟨d, .load t x,ty,ps,af,gd⟩ v:=
 zQ ht hx fun w hw=>(hw.below.cell (by
  unfold World.cell? at hc
  cases ho:w0.heap[p.block]?with
  |none=>simp[ho]at hc
  |some o=>exact(aua.1 ho).1)).trans hc
end
section
variable {P:Program} {N:ct} {w0:World} {env:Env} {L:List aj} {l:List Oper} {Q:Exit->Act->World->Prop} {rest:List Oper} {d:Option Tmp} {ty:TypeId} {ps:String} {af:Array Edge} {K:Value->List aj->Prop}
instance cc.one{v:Value}:cc #[v] 0 v:=⟨rfl⟩
theorem adh{t:TypeId}{x:Operand}{v:Value}(hc:v.cells= #[v])(hx:ev env x=some v)(hk: ∀b,Sq P N w0 l Q rest (cJ env d (.pointer (some ⟨b,0,none⟩))) (ar b #[v] t::L))(hd:dA N d=true:=by rfl):
  Sq P N w0 l Q (⟨d, .box t x,ty,ps,af,none⟩::rest) env L:=IX hx (by rw[hc];exact hk) hd
theorem adi{t:TypeId}{z:Value}[hz:eR P t z](hc:z.cells= #[z])(hk: ∀b,Sq P N w0 l Q rest (cJ env d (.pointer (some ⟨b,0,none⟩))) (ar b #[z] t::L))(hd:dA N d=true:=by rfl):
  Sq P N w0 l Q (⟨d, .alloc t,ty,ps,af,none⟩::rest) env L:=Ov (z:=z) (by rw[hc];exact hk) hd
theorem adj{t:TypeId}{x y:Operand}{i b:Nat}{u:Value}{T:TypeId}{v:Value}(hv:v.oneCell'=true)(hx:ev env x=some (.pointer (some ⟨b,0,none⟩)))(hy:ev env y=some v)[ht:fR P t][hh:Has L b #[u] T i]{L':List aj}[hu:fC L i (ar b #[v] T) L'](hk:Sq P N w0 l Q rest env L'):
  Sq P N w0 l Q (⟨none, .store t x y,ty,ps,af,none⟩::rest) env L:=eu (cs':= #[v]) hx hy (by show 0<1;decide) hv rfl hk
end
theorem adk{P:Program}{N:ct}{w0:World}{env:Env}{L:List aj}{l:List Oper}{Q:Exit->Act->World->Prop}{rest:List Oper}{ty:TypeId}{ps:String}{af:Array Edge}{t:TypeId}{x y:Operand}{i k p:Nat}{s:Sv}{xs:List UInt8}{a v:UInt8}[ht:fR P t](hx:ev env x=some (.pointer (some ⟨s.b,p,none⟩)))(hy:ev env y=some (.int .u8 v.toNat))[q:fu L s aG 1 xs i](ha:xs[k]? =some a)(fE:p=s.o+k*1){L':List aj}[hu:fC L i (own aG 1 s (xs.set k v)) L'](hk:Sq P N w0 l Q rest env L'):
  Sq P N w0 l Q (⟨none, .store t x y,ty,ps,af,none⟩::rest) env L:=
 ku (j:=0) (n:=1) (a':=v) ht.size hx hy (q:=q) (by omega) ha (by simp[Value.cells,Value.oneCell']) rfl (by omega) (by rfl) hk
variable {w0:World}{L:List aj}
theorem Mem.putObj{w:World}{e e':aj}{l:Nat}{o:Obj}(h:Mem w0 (e::L) w)(uW: ∀k,e'.fp k->e.fp k)(hl:e.fp l)
  (IB:e'.sat fun k=>(w.putObj l o).heap[k]?):Mem w0 (e'::L) (w.putObj l o):=
 h.change (i:=0) rfl uW (fun k hk=>World.putObj_heap_other (fun nT=>hk (nT▸hl))) World.putObj_size ⟨rfl,rfl,rfl⟩ IB
section
variable {P:Program} {N:ct} {w0:World} {env:Env} {L:List aj} {Q:Exit->Act->World->Prop}
end
section
variable {P:Program} {n:Nat} {w0:World} {env:Env} {L:List aj} {Q:Exit->Act->World->Prop} {l:List Oper} {k:Nat} {rest:List Oper}
theorem drop_at{α:Type}{l rest:List α}{k:Nat}{o:α}(h:l.drop k=o::rest):l[k]? =some o/\l.drop (k+1)=rest:=by
 constructor
 ·
  have:=congrArg (·[0]?) h;simpa using this
 have:=congrArg (List.drop 1) h;simpa[at3,avh]using this
end
def omap(P:Program)(k:TypeId){α β:Type}(dq:α->Value)(eP:β->Value)(b:Nat)(f:α->Option β):aj:=
  ⟨fun i=>i=b,fun h=> ∃(es:Array MapEntry) (clock:Nat) (m:List (α×β)),h b=some (.map es clock)/\es.toList.map (fun e=>(e.key,e.val))=m.map (fun p=>(dq p.1,eP p.2))/\
    (∀p∈m,∃l,keyOf P k (dq p.1)=some l)/\(m.map Prod.fst).Nodup/\(∀x v,f x=some v↔(x,v)∈m),
   fun h h' e st=>by rw[e b rfl];exact st⟩
class A7(P:Program)(t:TypeId)(k e:outParam TypeId):Prop where
  fc:P.underlying t=some (.map k e)
class Dk(P:Program)(k:TypeId):Prop where
  K:Maps.Keyed P k
class Dl{α:Type}(dq:α->Value):Prop where
  inj: ∀{a b:α},dq a=dq b->a=b
class xB(P:Program)(L:List aj)(b:Nat){α β:outParam Type}(k:TypeId)(dq:outParam (α->Value))(eP:outParam (β->Value))(f:outParam (α->Option β))(i:outParam Nat):Prop where
  h:L[i]? =some (omap P k dq eP b f)
instance (priority:=high) xB.here {P:Program}{L:List aj}{b:Nat}{α β:Type}{k:TypeId}{dq:α->Value}{eP:β->Value}{f:α->Option β}:xB P (omap P k dq eP b f::L) b k dq eP f 0:=⟨rfl⟩
instance xB.there{P:Program}{L:List aj}{e:aj}{b:Nat}{α β:Type}{k:TypeId}{dq:α->Value}{eP:β->Value}{f:α->Option β}{i:Nat}[q:xB P L b k dq eP f i]:xB P (e::L) b k dq eP f (i+1):=⟨by simpa using q.h⟩
theorem S8{P:Program}{k:TypeId}{α β:Type}{dq:α→Value}{eP:β→Value}{f:α→Option β}[K:Dk P k][I:Dl dq]{es:Array MapEntry}{m:List (α×β)}(h1:es.toList.map (fun e=>(e.key,e.val))=m.map (fun p=>(dq p.1,eP p.2)))
    (h2: ∀p∈m,∃l,keyOf P k (dq p.1)=some l) (h3: ∀x v,f x=some v↔(x,v)∈m) {x:α} (hx: ∃l,keyOf P k (dq x)=some l) (w:World):
    ((Instr.findKey k (dq x) es.toList).run P w= .ok none w/\f x=none/\ ∀v,(x,v)∉m)\/ ∃(j:Nat) (v:β),(Instr.findKey k (dq x) es.toList).run P w= .ok (some (j,eP v)) w/\m[j]? =some (x,v)/\f x=some v/\(es[j]?).map (·.key)=some (dq x):=by
  have k7: ∀j:Nat,(es.toList[j]?).map (fun e=>(e.key,e.val))=(m[j]?).map (fun p=>(dq p.1,eP p.2)):=fun j=>by rw[←asB,←asB,h1]
  have iT: ∀e∈es.toList,∃l,keyOf P k e.key=some l:=fun e he=>by
    obtain⟨j,hj,rfl⟩:=atZ he;have:=k7 j;rw[asr hj]at this
    cases hm:m[j]?with
    |none=>rw[hm]at this;cases this
    |some p=>
     rw[hm]at this;simp only[as7,at0,avw]at this;rw[this.1];exact h2 p (anc hm)
  obtain⟨lx,vO⟩:=hx;rcases K.K.find w vO es.toList iT with⟨hr,hn⟩|⟨j,e,hr,hj,hk⟩
  ·have fP: ∀v,(x,v)∉m:=fun v hv=>by
      obtain⟨j,hj,hje⟩:=atZ hv;have:=k7 j;rw[asr hj,hje]at this
      cases he:es.toList[j]?with
      |none=>rw[he]at this;cases this
      |some e=>
       rw[he]at this;simp only[as7,at0,avw]at this;exact hn e (anc he) this.1
   refine .inl ⟨hr,?_,fP⟩
   cases hf:f x with
   |none=>rfl
   |some v=>exact absurd ((h3 x v).1 hf) (fP v)
  ·have:=k7 j
   rw[hj]at this
   cases hm:m[j]?with
   |none=>rw[hm]at this;cases this
   |some p=>
    rw[hm]at this;simp only[as7,at0,avw]at this;have hp:p.1=x:=I.inj (this.1.symm.trans hk);refine .inr ⟨j,p.2,by rw[hr,this.2],by rw[hm,←hp],(h3 x p.2).2 (by rw[←hp];exact anc hm),?_⟩;have jd:es[j]? =some e:=by simpa using hj
    rw[jd,as7,hk]
section
variable {P:Program} {N:ct} {w0:World} {env:Env} {L:List aj} {d:Option Tmp} {ty:TypeId} {ps:String} {af:Array Edge} {gd:Option (Nat×Bool)} {α β:Type} {dq:α->Value} {eP:β->Value} {f:α->Option β}
theorem run_getObj_map{w:World}{b:Nat}{es:Array MapEntry}{clock:Nat}(h:w.heap[b]? =some (.map es clock)):(getObj b).run P w= .ok (.map es clock) w:=by simp[getObj,Sem.run,h]
theorem run_setObj_map{w:World}{b:Nat}{es:Array MapEntry}{clock:Nat}(o:Obj)(h:w.heap[b]? =some (.map es clock)):(setObj b o).run P w= .ok () (w.putObj b o):=by simp[setObj,Sem.run,h,World.putObj]
theorem Lu{t k e:TypeId}{m x:Operand}{b i:Nat}{z:β}{v:α}[ht:A7 P t k e][K:Dk P k][I:Dl dq][hz:eR P e (eP z)](hm:ev env m=some (.map (some b)))(hx:ev env x=some (dq v))[q:xB P L b k dq eP f i](hv: ∃l,keyOf P k (dq v)=some l):
    Ry P N w0 env L ⟨d, .lookup t m x true,ty,ps,af,gd⟩ (.tuple #[eP ((f v).getD z), .bool (f v).isSome]):=fun a w ha hw=>by
  obtain⟨es,clock,ml,h0,h1,h2,_,h3⟩:=hw.get q.h;obtain⟨l,hl⟩:=hv;have hc:=K.K.check w es.isEmpty hl;simp only[execOp,ha.ev hm,ha.ev hx,Instr.lookup,Sem.run_bind,run_underlying ht.fc,Result.andThen,run_getObj_map h0,Sem.run_pure,hc];rcases S8 (P:=P) (k:=k) h1 h2 h3 ⟨l,hl⟩ w with⟨hr,hf,_⟩|⟨j,u,hr,_,hf,_⟩
  ·simp only[hr,hf,Option.getD_none,ED w hz,Sem.run_bind,Result.andThen,Sem.run_pure];rfl
  ·simp only[hr,hf,auC,Sem.run_pure];rfl
end
section
variable {P:Program} {N:ct} {w0:World} {env:Env} {L:List aj} {l:List Oper} {Q:Exit->Act->World->Prop} {rest:List Oper} {d:Option Tmp} {ty:TypeId} {ps:String} {af:Array Edge} {α β:Type} {dq:α->Value} {eP:β->Value} {f:α->Option β}
theorem Mem.S9{w:World}(P:Program)(k:TypeId)(dq:α->Value)(eP:β->Value)(h:Mem w0 L w):Mem w0 (omap P k dq eP w.heap.size (fun _=>none)::L) (w.alloc (.map #[] 0)):=by
  refine h.call (E:=[omap P k dq eP w.heap.size (fun _=>none)]) ⟨(Below.refl _ _).alloc (asu _) _,fun e he=>?_,fun e he j hj=>?_,by simp⟩
  ·obtain rfl:e=omap P k dq eP w.heap.size (fun _=>none):=by simpa using he
   exact⟨#[],0,[],Below.Eo w _,rfl,by simp,by simp,by simp⟩
  ·obtain rfl:e=omap P k dq eP w.heap.size (fun _=>none):=by simpa using he
   have:j=w.heap.size:=hj;subst this;simp
theorem adl{t k e:TypeId}(dq:α→Value)(eP:β→Value){r:Operand}{kk:IntKind}{n:Int}[ht:A7 P t k e](hr:ev env r=some (.int kk n))(hk: ∀b,Sq P N w0 l Q rest (cJ env d (.map (some b))) (omap P k dq eP b (fun _=>none)::L))(hd:dA N d=true:=by rfl):
    Sq P N w0 l Q (⟨d, .makeMap t (some r),ty,ps,af,none⟩::rest) env L:=
  oB rfl hd fun a w ha hw=>⟨_,_,_,by
    simp only[execOp,as7,ha.ev hr,Instr.makeMap,Sem.run_bind,run_underlying ht.fc,Result.andThen,Sem.run_pure,asInt,asIntOf,newObj,Sem.run];rfl,hw.S9 P k dq eP,hk _⟩
theorem Ta{t k e:TypeId}(dq:α→Value)(eP:β→Value)[ht:A7 P t k e](hk: ∀b,Sq P N w0 l Q rest (cJ env d (.map (some b))) (omap P k dq eP b (fun _=>none)::L))(hd:dA N d=true:=by rfl):
    Sq P N w0 l Q (⟨d, .makeMap t none,ty,ps,af,none⟩::rest) env L:=
  oB rfl hd fun a w ha hw=>⟨_,_,_,by
    simp only[execOp,Option.map_none,Instr.makeMap,Sem.run_bind,Result.andThen,Sem.run_pure,newObj,Sem.run];rfl,hw.S9 P k dq eP,hk _⟩
theorem adm{t k e:TypeId}{m x y:Operand}{b i:Nat}{v:α}{u:β}[DecidableEq α][ht:A7 P t k e][K:Dk P k][I:Dl dq](hm:ev env m=some (.map (some b)))(hx:ev env x=some (dq v))(hy:ev env y=some (eP u))[q:xB P L b k dq eP f i](hv: ∃l,keyOf P k (dq v)=some l)
    {L':List aj} [hu:fC L i (omap P k dq eP b (fun z=>if z=v then some u else f z)) L'] {a:Act} {w:World} (ha:dr N env a) (hw:Mem w0 L w):
    ∃w',(execOp a.eval ⟨none, .mapUpdate t m x y,ty,ps,af,none⟩).run P w= .ok .skip w'/\Mem w0 L' w':=by
  obtain⟨es,clock,ml,h0,h1,h2,cC,h3⟩:=hw.get q.h;obtain⟨lk,hl⟩:=hv;have hc:=K.K.check w false hl;have br:=K.K.stays w hl;have step: ∀o:Obj,(omap P k dq eP b (fun z=>if z=v then some u else f z)).sat (fun j=>(w.putObj b o).heap[j]?)->Mem w0 L' (w.putObj b o):=fun o ho=>by
    rw[←hu.h];exact hw.change q.h (fun j hj=>hj) (fun j hj=>World.putObj_heap_other (fun e=>hj e)) World.putObj_size ⟨rfl,rfl,rfl⟩ ho
  have bc:b<w.heap.size:=(aua.1 h0).1;rcases S8 (P:=P) (k:=k) h1 h2 h3 ⟨lk,hl⟩ w with⟨hr,hf,fP⟩|⟨j,u0,hr,hj,hf,adn⟩
  ·refine⟨w.putObj b (.map (es.push {key:=dq v,val:=eP u,born:=clock}) (clock+1)),?_,step _ ⟨_,_,ml++[(v,u)],World.putObj_heap_same bc,?_,?_,?_,?_⟩⟩
   ·simp only[execOp,ha.ev hm,ha.ev hx,ha.ev hy,Instr.mapUpdate,Sem.run_bind,run_underlying ht.fc,Result.andThen,run_getObj_map h0,hc,hr,run_setObj_map _ h0,Sem.run_pure]
   ·simp[h1]
   ·intro p hp
    rcases asz.1 hp with hp|hp
    ·exact h2 p hp
    ·obtain rfl:p=(v,u):=by simpa using hp
     exact⟨lk,hl⟩
   ·rw[as0,at6]
    refine⟨cC,by simp,fun x1 mi y1 G5 e1=>?_⟩;obtain rfl:y1=v:=by simpa using G5
    subst e1;obtain⟨p,hp,rfl⟩:=atw.1 mi;exact fP p.2 hp
   ·intro x' v'
    show(if x'=v then some u else f x')=some v'↔_
    by_cases e:x'=v
    ·subst e;rw[if_pos rfl]
     constructor
     ·intro h;cases h;simp
     ·intro h
      rcases asz.1 h with h|h
      ·exact absurd h (fP v')
      ·simp at h;rw[h]
    ·rw[if_neg e,h3 x' v'];simp[e]
  ·have iu:j<ml.length:=(ad2.1 hj).1
   refine⟨w.putObj b (.map (es.modify j fun e=>{e with key:=dq v,val:=eP u}) clock),?_,step _ ⟨_,_,ml.set j (v,u),World.putObj_heap_same bc,?_,?_,?_,?_⟩⟩
   ·simp only[execOp,ha.ev hm,ha.ev hx,ha.ev hy,Instr.mapUpdate,Sem.run_bind,run_underlying ht.fc,Result.andThen,run_getObj_map h0,hc,hr,adn,auC,br,run_setObj_map _ h0,Sem.run_pure]
   ·refine atj fun n=>?_
    have:=congrArg (·[n]?) h1;simp only[asB]at this⊢;rw[atb]
    by_cases e:j=n
    ·subst e
     rw[if_pos rfl,if_pos iu];rw[hj]at this
     cases he:es.toList[j]?with
     |none=>rw[he]at this;cases this
     |some e0=>
      have qw:es[j]? =some e0:=by simpa using he
      simp[Array.getElem?_modify,qw]
    ·rw[if_neg e,←this]
     simp[Array.getElem?_modify,e]
   ·intro p hp
    rcases asV hp with hp|rfl
    ·exact h2 p hp
    ·exact⟨lk,hl⟩
   ·rw[auP]
    have:(ml.map Prod.fst)[j]? =some v:=by rw[asB,hj];rfl
    rw[show(ml.map Prod.fst).set j (v,u).1=ml.map Prod.fst from by
        refine atj fun n=>?_;rw[atb]
        by_cases e:j=n
        ·subst e;rw[if_pos rfl,if_pos (by simpa using iu),this]
        ·rw[if_neg e]]
    exact cC
   ·intro x' v'
    have ado: ∀n p,ml[n]? =some p→p.1=v→n=j:=fun n p hn hp=>by
        have a1:(ml.map Prod.fst)[n]? =some v:=by rw[asB,hn,as7,hp]
        have a2:(ml.map Prod.fst)[j]? =some v:=by rw[asB,hj];rfl
        exact(List.getElem?_inj (by simpa using(ad2.1 hn).1) cC).1 (a1.trans a2.symm)
    show(if x'=v then some u else f x')=some v'↔_
    by_cases e:x'=v
    ·subst e;rw[if_pos rfl]
     constructor
     ·intro h;cases h
      exact anc (i:=j) (by rw[atb,if_pos rfl,if_pos iu])
     ·intro h
      obtain⟨n,hn⟩:=atP.1 h;rw[atb]at hn
      by_cases en:j=n
      ·rw[if_pos en,if_pos iu]at hn;simp only[at0,avw,true_and]at hn;rw[hn]
      ·rw[if_neg en]at hn;exact absurd (ado n _ hn rfl).symm en
    ·rw[if_neg e,h3 x' v']
     constructor
     ·intro h
      obtain⟨n,hn⟩:=atP.1 h;refine anc (i:=n) ?_;rw[atb,if_neg,hn];rintro rfl;rw[hj]at hn;simp only[at0,avw]at hn;exact e hn.1.symm
     ·intro h
      rcases asV h with h|h
      ·exact h
      ·simp only[avw]at h;exact absurd h.1 e
theorem Lw{t k e:TypeId}{m x y:Operand}{b i:Nat}{v:α}{u:β}[DecidableEq α][ht:A7 P t k e][K:Dk P k][I:Dl dq](hm:ev env m=some (.map (some b)))(hx:ev env x=some (dq v))(hy:ev env y=some (eP u))[q:xB P L b k dq eP f i](hv: ∃l,keyOf P k (dq v)=some l)
    {L':List aj} [hu:fC L i (omap P k dq eP b (fun z=>if z=v then some u else f z)) L'] (hk:Sq P N w0 l Q rest env L'):
    Sq P N w0 l Q (⟨none, .mapUpdate t m x y,ty,ps,af,none⟩::rest) env L:=
  EJ rfl rfl fun a w ha hw=>by
    obtain⟨w',h1,h2⟩:=adm (t:=t) (k:=k) (e:=e) (ty:=ty) (ps:=ps) (af:=af) hm hx hy hv (L':=L') ha hw;exact⟨w',L',h1,h2,hk⟩
end
open Go.Kb
theorem G6{w0 w:World}{L R:List aj}{e:aj}{i:Nat}(q:L[i]? =some e)(d:L.eraseIdx i=R)(h:Mem w0 L w):Mem w0 (e::R) w:=by
 have:=h.perm (oN q);rwa [d]at this
theorem s0{w0 w:World}{L R1 R2:List aj}{e1 e2:aj}{i j:Nat}(h1:L[i]? =some e1)(d1:L.eraseIdx i=R1)(h2:R1[j]? =some e2)(d2:R1.eraseIdx j=R2)(h:Mem w0 L w):Mem w0 (e1::e2::R2) w:=by
 subst d1;subst d2;exact h.perm ((oN h1).trans ((oN h2).cons _))
theorem adp{p:bt}(h:bw p=true):IntKind.i64.wrap (1*2^min (4 -(p.len -4*((bK p:Nat):Int))).toNat IntKind.i64.bits)=((2^lV p:Nat):Int):=by
 obtain⟨h1,h2⟩:=CS h;have e:(4 -(p.len -4*((bK p:Nat):Int))).toNat=lV p:=rfl;rw[e];generalize lV p=x at h1
 match x,h1 with
 |0,_=>rfl
 |1,_=>rfl
 |2,_=>rfl
 |3,_=>rfl
 |4,_=>rfl
instance (priority:=low) ai.drop {L L':List aj}{e:aj}[k:ai L L']:ai (e::L) L':=⟨by
 obtain⟨R,hR⟩:=k.h;exact⟨e::R,(hR.cons e).trans auB.symm⟩⟩
section
variable {P:Program} {N:ct} {w0:World} {env:Env} {L:List aj} {Q:Exit->Act->World->Prop} {d:Option Tmp} {ty:TypeId} {ps:String} {af:Array Edge} {gd:Option (Nat×Bool)} {K:Value->List aj->Prop}
theorem Ry.to{o:Oper}{v v':Value}(h:Ry P N w0 env L o v)(e:v=v'):Ry P N w0 env L o v':=e▸h
theorem G7{f:FuncId}{x:Operand}{lL:Array Value}{xs:List Operand}{ts:Array TypeId}{vs:List Value}{v:Value}[hf:aK P f](hx:ev env x=some (.func (.func f) #[] lL))(hxs:iU env xs=some vs)
  (hc: ∀w,Mem w0 L w->Calls P f (vs++lL.toList).toArray w fun e w'=>e= .returned v/\Mem w [] w'):
  Yl P N w0 env L ⟨d, .call {callee:= .value x,args:=xs.toArray,argTypes:=ts},ty,ps,af,gd⟩ v:=fun a ha w hw=>by
 unfold Oper.quietAt;obtain⟨fn,h1,h2,h3⟩:=hf.fn;have IQ: ¬fn.body=none:=fun e=>by simp[e]at h2
 have zS: ¬fn.name= "runtime.NumGoroutine" :=by simpa using h3
 have e:(execOp a.eval ⟨d, .call {callee:= .value x,args:=xs.toArray,argTypes:=ts},ty,ps,af,gd⟩).run P w= .ok (.enter f (vs++lL.toList).toArray) w:=by
  have hm:=ha.iU hxs;simp[execOp,resolve,ha.ev hx,Deferred.ofValue,invoke,callFunc,h1,IQ,zS,Result.andThen,←hm]
 rw[e];exact⟨rfl,hc w hw⟩
theorem Ly{f:Fn}{xs:List Operand}{vs:List Value}(hx:iU env xs=some vs):Ry P N w0 env L ⟨d, .makeFunc f #[] xs.toArray,ty,ps,af,gd⟩ (.func f #[] vs.toArray):=fun a w ha _=>by
 have hm:=ha.iU hx;simp[execOp,Instr.makeFunc,Result.andThen,←hm]
instance (s:Sv):cc (tO s) 0 s.val:=⟨rfl⟩
instance (s:Sv):cc s.val.cells 0 s.val:=⟨by rw[Sv.iX];rfl⟩
variable {s:Sv} {xs:List Nd} {a:Nd}
theorem adq{t:TypeId}{x y:Operand}{i k p:Nat}{v:Int}[ht:fR P t](hx:ev env x=some (.pointer (some ⟨s.b,p,none⟩)))(hy:ev env y=some (.int .i64 v))[q:fu L s dB 48 xs i](ha:xs[k]? =some a)(b:Nat)(hb:b<16)(fE:p=s.o+k*48+32+b){L':List aj}[hu:fC L i (own dB 48 s (xs.set k (a.xd b v))) L'](hk:K undef (L')):
  iG P N w0 env L ⟨none, .store t x y,ty,ps,af,none⟩ K:=
 wW (j:=32+b) (n:=1) (a':=a.xd b v) ht.size hx hy (q:=q) (by omega) ha (by simp[Value.cells,Value.oneCell']) rfl (by omega) (aaN a hb v) hk
end
end Go.ax
namespace Go.Proofs.YtkggjjnhnjjokaaGreatDoor
open Go.ax Go.Kb Go.RowKit
instance:eR Tryz.prog 97 (.agg (eN AI)):=⟨by kernel_rfl⟩
instance:eR Tryz.prog 180 (.agg (bZ qF)):=⟨by kernel_rfl⟩
instance:eR Tryz.prog 59 (.agg (aT gT)):=⟨by kernel_rfl⟩
instance:eR Tryz.prog 5 (.int .u8 0):=⟨by kernel_rfl⟩
instance:eR Tryz.prog 53 (.slice none 0 0):=⟨by kernel_rfl⟩
variable {w0:World}{L:List aj}
instance aou{b:Int}{n:Int}{s:Int}:cE Tryz.prog 93 w0 L [.int .i64 b, .int .i64 n, .int .i64 s] (.bool (vB b n s)) (True):=⟨fun aH w hw=>by
 refine vn Tryz.func93 rfl Tryz.ntmps93 rfl ?_;refine ZG ?_;refine Gr fun w1 hw=>?_;exact⟨congrArg (fun b=>Ending.returned (Value.bool b)) (rfl),ai.mem hw⟩⟩
instance aov{c:Cp}[hc:aU w0 L c]:cE Tryz.prog 106 w0 L [.agg (aT c)] (.bool (ba (cv c))) (True):=⟨fun aH w hw=>by
 have hc:=hc.h w hw;have ln:cL w c:=⟨hc⟩;have dW:=ia c.blocks.xs;have bB:ba (cv c)=true↔vB c.blocks.xs.length c.pages c.size=true/\0<=c.ops/\c.ops<=cX/\c.aV.xs.length<=64/\ ∀b∈jh c.blocks.xs,qH c.pages c.size b=true:=by rw[fF];simp only[cv,dW]
 have qK:cX=1099511627776:=rfl;refine cB Tryz.func106 rfl Tryz.ntmps106 rfl ?_;refine Gc ?_;refine cf rfl fun b1=>ZH ?_;refine Gb (fun h0=>?_) fun h0=>?_
 ·
  have hz:ba (cv c)=false:=by
   cases hk:ba (cv c)with
   |false=>rfl
   |true=>
    have g:=bB.1 hk;rw[g.1]at h0;simp only[aue,false_or]at h0;omega
  refine al ?_;refine Gr fun w1 hw=>?_;exact Ge (hz.symm) hw
 have g0:vB c.blocks.xs.length c.pages c.size=true/\0<=c.ops/\c.ops<=cX/\c.aV.xs.length<=64:=by
  cases hk:vB c.blocks.xs.length c.pages c.size with
  |false=>rw[hk]at h0;simp at h0
  |true=>rw[hk]at h0;simp only[aue,not_false_eq_true,true_and]at h0;exact⟨rfl,by omega,by omega,by omega⟩
 have gs:=lX.1 g0.1;refine aS ?_;refine bQ (X:=Nat) (fun zz=>[(35, .int .i64 (zz:Nat)),(1, .pointer (some ⟨b1,0,none⟩)),(33,c.blocks.sv.val),(34, .int .i64 (c.blocks.xs.length:Nat))]) (fun zz=>[ar b1 (aT c) 59]) (fun zz=>zz<=c.blocks.xs.length/\ ∀j b,j<zz->(jh c.blocks.xs)[j]? =Option.some b->qH c.pages c.size b=true) (fun zz=>c.blocks.xs.length -zz) 0 ⟨Nat.zero_le _,fun j b hj=>by first|omega|(simp only[];omega)⟩ sb (fun w hw=>ai.mem hw) ?_;rintro i ⟨aZ,aE⟩;refine al ?_;refine Gb (fun h1=>?_) fun h1=>?_
 ·
  refine nt ?_;obtain⟨x,hx⟩:=get_some (xs:=c.blocks.xs) (i:=i) oM;refine ag (aW rfl rfl i rfl oM) (ag (iF rfl i hx rfl) ?_);have adr:Mb x c.blocks:=⟨List.mem_of_getElem? hx⟩;refine bl fun b4=>ZI ?_;refine Gb (fun h2=>?_) fun h2=>?_
  ·
   have hz:ba (cv c)=false:=by
    cases hk:ba (cv c)with
    |false=>rfl
    |true=>
     have g:=fk.1 ((bB.1 hk).2.2.2.2 (bv x) (anc (nw hx)));simp only[bv,oU]at g;omega
   refine al ?_;refine Gr fun w1 hw=>?_;exact Ge (hz.symm) hw
  refine aS ?_;refine bQ (X:=Nat) (fun zz=>[(70, .int .i64 (zz:Nat)),(1, .pointer (some ⟨b1,0,none⟩)),(33,c.blocks.sv.val),(34, .int .i64 (c.blocks.xs.length:Nat)),(35, .int .i64 (i:Nat)),(68,x.pages.sv.val),(69, .int .i64 (x.pages.xs.length:Nat))]) (fun zz=>[ar b4 (bZ x) 180,ar b1 (aT c) 59]) (fun zz=>zz<=x.pages.xs.length/\ ∀k y,k<zz->(bv x).pages[k]? =Option.some y->(y.length:Int)=c.size) (fun zz=>x.pages.xs.length -zz) 0 ⟨Nat.zero_le _,fun k y hk=>by first|omega|(simp only[];omega)⟩ sb (fun w hw=>ai.mem hw) ?_;rintro j ⟨ja,dJ⟩;refine al ?_;refine Gb (fun h3=>?_) fun h3=>?_
  ·
   refine nt ?_;obtain⟨y,hy⟩:=get_some (xs:=x.pages.xs) (i:=j) oM;refine ag (aW rfl rfl j rfl oM) (ag (bE (j:=0) rfl j hy rfl (by decide)) ?_);have aow:Mb y _:=⟨List.mem_of_getElem? hy⟩;refine eI ?_;refine Gb (fun h4=>?_) fun h4=>?_
   ·
    have hz:ba (cv c)=false:=by
     cases hk:ba (cv c)with
     |false=>rfl
     |true=>
      have g:=(fk.1 ((bB.1 hk).2.2.2.2 (bv x) (anc (nw hx)))).2.2.2.2.2 y.xs (anc (qG hy));omega
    refine al ?_;refine Gr fun w1 hw=>?_;exact Ge (hz.symm) hw
   refine al ?_;refine Gi ?_;exact bj (x:=(j)) (j+1) ⟨oF,fun k z hk hz=>if e:k=j then(by subst e;rw[show(bv x).pages=aN x.pages.xs from rfl,qG hy]at hz;cases hz;omega)else dJ k z oF hz⟩ oF sb (fun w hw=>ai.mem hw)
  have xr:qH c.pages c.size (bv x)=true:=fk.2 ⟨by simp only[bv,oU];omega,by simp only[bv];omega,by simp only[bv];omega,by simp only[bv];omega,by simp only[bv];omega,fun y hy=>by
   obtain⟨k,hk⟩:=asM hy;exact dJ k y (by have h:=(ad2.1 hk).1;simp only[bv,oU]at h;omega) hk⟩
  refine al ?_;refine Gi ?_;exact bj (x:=(i)) (i+1) ⟨oF,fun j b hj hb=>if e:j=i then(by subst e;rw[nw hx]at hb;cases hb;exact xr)else aE j b oF hb⟩ oF sb (fun w hw=>ai.mem hw)
 obtain rfl:i=c.blocks.xs.length:=by omega
 have hz:ba (cv c)=true:=bB.2 ⟨g0.1,g0.2.1,g0.2.2.1,g0.2.2.2,fun b hb=>by
  obtain⟨j,hj⟩:=asM hb;exact aE j b (by have:=(ad2.1 hj).1;omega) hj⟩
 refine al ?_;refine Gr fun w1 hw=>?_;exact⟨congrArg (fun b=>Ending.returned (Value.bool b)) (hz.symm),ai.mem hw⟩⟩
theorem ads{xs:List UInt8}{k i:Nat}(h:k+i<xs.length):(xs.take k++(List.replicate i 255++xs.drop (k+i))).set (k+i) 255=xs.take k++(List.replicate (i+1) 255++xs.drop (k+(i+1))):=by
 rw[at5 _ _ (by rw[asq];omega),asq,auM oM,atG,at5 _ _ (by simp),ata,atS,aut h,atI,List.replicate_succ',asF,auk,atN]
theorem adt(w0 w:World)(L:List aj)(rm:Sv)(k:Nat)(n:Nat)(cap:Nat)(xs:List UInt8)(hw:Mem w0 (own aG 1 rm xs::L) w)(aH:k+n<=xs.length/\n<=1000000):Calls Tryz.prog 94 #[.slice (some ⟨rm.b,rm.o+k,none⟩) n cap] w fun e w'=> ∃zz:Unit,e= .returned (.tuple #[])/\(True)/\Mem w0 (own aG 1 rm (xs.take k++(List.replicate n 255++xs.drop (k+n)))::L) w':=by
 obtain⟨gq,gy⟩:=aH;refine jZ (args:=[_]) Tryz.func94 rfl Tryz.ntmps94 rfl hw ?_;change Cw _ _ _ _ _ [(0, .slice (some ⟨rm.b,rm.o+k,none⟩) n cap)] (own aG 1 rm xs::L);refine av ?_;refine ag (yg rfl) (av ?_);refine bQ (X:=Nat×List UInt8) (fun zz=>[(5, .int .i64 (zz.1:Nat)),(0, .slice (some ⟨rm.b,rm.o+k,none⟩) n cap),(4, .int .i64 (n:Nat))]) (fun zz=>own aG 1 rm zz.2::L) (fun zz=>zz.1<=n/\zz.2=xs.take k++(List.replicate zz.1 255++xs.drop (k+zz.1))) (fun zz=>n -zz.1) (0,xs) ⟨Nat.zero_le _,by simp⟩ sb (fun w hw=>ai.mem hw) ?_;rintro⟨i,zs⟩ ⟨aZ,aE⟩;dsimp only;simp only at aZ aE;have qP:zs.length=xs.length:=by rw[aE];simp only[List.length_append,List.length_take,List.length_replicate,List.length_drop];omega
 refine al ?_;refine Gb (fun h0=>?_) fun h0=>?_
 ·
  refine aS ?_;refine ag (Oh (b:=rm.b) (o:=rm.o+k) (len:=n) (cap:=cap) rfl rfl oM oM) ?_;obtain⟨z,hz⟩:=get_some (xs:=zs) (i:=k+i) oM;refine ku (s:=rm) (n:=1) (k:=k+i) (j:=0) (a:=z) (a':=(255:UInt8)) (xs:=zs) (enc:=aG) (c:=1) (v:= .int .u8 255) oK rfl rfl oM hz (by simp[Value.cells,Value.oneCell']) rfl oM (by rfl) (al ?_);refine Gi ?_;exact bj (x:=(i,zs)) (i+1,zs.set (k+i) 255) ⟨oF,by rw[aE];exact ads oF⟩ (by simp only;omega) sb (fun w hw=>ai.mem hw)
 obtain rfl:i=n:=by omega
 refine Gc ?_;refine hO (.inr rfl) (Lt rfl) (fun w1 hw=>?_);exact⟨(),rfl,trivial,by rw[←aE];exact ai.mem hw⟩
instance adu{w0:World}{L L2:List aj}{i:Nat}{rm:Sv}{k:Nat}{n:Nat}{cap:Nat}{xs:List UInt8}[q:fu L rm aG 1 xs i][d1:dt L i L2]:bN Tryz.prog 94 w0 L [.slice (some ⟨rm.b,rm.o+k,none⟩) n cap] (Unit) (fun zz=> .tuple #[]) (fun zz=>own aG 1 rm (xs.take k++(List.replicate n 255++xs.drop (k+n)))::L2) (fun zz=>True) (k+n<=xs.length/\n<=1000000):=⟨fun hp w hw=>adt w0 w L2 rm k n cap xs (G6 q.h d1.h hw) hp⟩
instance aox{s:Sv}{ss:List Bk}[hs:cD w0 L bZ 4 s ss]:bN Tryz.prog 162 w0 L [s.val] (Sv) (fun zz=>zz.val) (fun zz=>own bZ 4 zz ss::L) (fun zz=>True) (ss.length<=1000000):=⟨fun aH w hw=>Gk (fun zz=>[own bZ 4 zz ss]) hw (by
 have hs:=hs.h w hw;have ze:Gv w s bZ 4 ss:=⟨hs⟩;refine cB Tryz.func162 rfl Tryz.ntmps162 rfl ?_;refine au ?_;refine ag (vd Tryz.underlying56 rfl) (Gc ?_);refine Gb (fun h0=>?_) fun h0=>?_
 ·
  have e0:ss=[]:=asI.1 (by have:=hs.ok.nil h0;have:=hs.len;omega);refine al ?_;refine Gr fun w1 hw=>?_;exact⟨Sv.none,rfl,trivial,by rw[e0];exact(ai.mem hw:Mem w [] _).dj bZ 4⟩
 refine Gc ?_;refine wL bZ fun b5=>Gs ?_;refine gS (s:=⟨false,b5,0,0,0,none⟩) (enc:=bZ) (ys:=ss) rfl rfl (by decide) (fun w hw=>fY (s:=s) Tryz.underlying56 (by decide) ((inferInstance:cD _ _ bZ 4 s ss).h w hw)) (by simp only[asn];omega) (by simp only[asn];omega) fun s7 zf xC=>?_;refine av ?_;refine Gr fun w1 hw=>?_;exact⟨s7,rfl,trivial,by rw[atc]at hw;exact ai.mem hw⟩)⟩
instance aoy{s:Sv}{ss:List Ft}[hs:cD w0 L eN 4 s ss]:bN Tryz.prog 107 w0 L [s.val] (Sv) (fun zz=>zz.val) (fun zz=>own eN 4 zz ss::L) (fun zz=>True) (ss.length<=1000000):=⟨fun aH w hw=>Gk (fun zz=>[own eN 4 zz ss]) hw (by
 have hs:=hs.h w hw;have ze:Gv w s eN 4 ss:=⟨hs⟩;refine cB Tryz.func107 rfl Tryz.ntmps107 rfl ?_;refine au ?_;refine ag (vd Tryz.underlying57 rfl) (Gc ?_);refine Gb (fun h0=>?_) fun h0=>?_
 ·
  have e0:ss=[]:=asI.1 (by have:=hs.ok.nil h0;have:=hs.len;omega);refine al ?_;refine Gr fun w1 hw=>?_;exact⟨Sv.none,rfl,trivial,by rw[e0];exact(ai.mem hw:Mem w [] _).dj eN 4⟩
 refine Gc ?_;refine wL eN fun b5=>Gs ?_;refine gS (s:=⟨false,b5,0,0,0,none⟩) (enc:=eN) (ys:=ss) rfl rfl (by decide) (fun w hw=>fY (s:=s) Tryz.underlying57 (by decide) ((inferInstance:cD _ _ eN 4 s ss).h w hw)) (by simp only[asn];omega) (by simp only[asn];omega) fun s7 zf xC=>?_;refine av ?_;refine Gr fun w1 hw=>?_;exact⟨s7,rfl,trivial,by rw[atc]at hw;exact ai.mem hw⟩)⟩
instance aoz{ps:Sl (Sl UInt8)}[Dm:aU w0 L ps]:bN Tryz.prog 179 w0 L [ps.sv.val] (Sl (Sl UInt8)) (fun zz=>zz.sv.val) (fun zz=>fw zz::L) (fun zz=>aN zz.xs=aN ps.xs) (QQ (aN ps.xs)):=⟨fun aH w hw=>Gk (fun zz=>[fw zz]) hw (by
 have Dm:=Dm.h w hw;have aoA:cL w ps:=⟨Dm⟩;obtain⟨gq,gy⟩:=aH;have bW:=oU ps.xs;rw[bW]at gq;refine cB Tryz.func179 rfl Tryz.ntmps179 rfl ?_;refine au ?_;refine ag (vd Tryz.underlying178 rfl) (Gc ?_);refine Gb (fun h0=>?_) fun h0=>?_
 ·
  have e0:ps.xs=[]:=asI.1 (by have:=Dm.1.ok.nil h0;have:=Dm.1.len;omega);refine al ?_;refine Gr fun w1 hw=>?_;exact⟨⟨Sv.none,[]⟩,rfl,by rw[e0],aa1 (Mem.dj (bT (τ:=UInt8)) 1 (ai.mem hw:Mem w [] _))⟩
 refine cW ?_;refine bQ (X:=Nat×Nat) (fun zz=>[(15, .int .i64 (zz.1:Nat)),(3, .int .i64 (zz.2:Nat)),(0,ps.sv.val),(13,ps.sv.val),(14, .int .i64 (ps.xs.length:Nat))]) (fun zz=>[]) (fun zz=>zz.1<=ps.xs.length/\zz.2=((aN ps.xs).take zz.1).flatten.length) (fun zz=>ps.xs.length -zz.1) (0,0) ⟨Nat.zero_le _,by simp⟩ sb (fun w hw=>ai.mem hw) ?_;rintro⟨i,mm⟩ ⟨aZ,aE⟩;dsimp only;simp only at aZ aE;refine al ?_;refine Gb (fun h1=>?_) fun h1=>?_
 ·
  obtain⟨y,hy⟩:=get_some (xs:=ps.xs) (i:=i) oM;have Tb:Mb y ps:=⟨List.mem_of_getElem? hy⟩;have A8:=CY (qG hy);have jl:=CZ (aN ps.xs) (i+1);refine Gc ?_;refine ag (aW rfl rfl i rfl oM) (ag (bE (j:=0) rfl i hy rfl (by decide)) ?_);have aoB:Mb y _:=⟨List.mem_of_getElem? hy⟩;refine sF ?_;refine Gi ?_;exact bj (x:=(i,mm)) (i+1,mm+y.xs.length) ⟨oF,by rw[aE,A8]⟩ (by simp only;omega) sb (fun w hw=>ai.mem hw)
 obtain rfl:i=ps.xs.length:=by omega
 rw[List.take_of_length_le oM]at aE;have hN:mm=(aN ps.xs).flatten.length:=aE;refine av ?_;refine sg (enc:=aG) (n:=0) (cap:=mm) 0 rfl rfl rfl rfl rfl oM oM oM fun xD=>au ?_;refine sg (enc:=bT (τ:=UInt8)) (n:=ps.xs.length) (cap:=ps.xs.length) (⟨Sv.none,[]⟩:Sl UInt8) rfl rfl rfl rfl rfl oM oM oM fun s8=>aS ?_;refine bQ (X:=Nat×Nat×List UInt8×List (Sl UInt8)) (fun zz=>[(31, .int .i64 (zz.1:Nat)),(6,(⟨false,xD,0,zz.2.1,mm,none⟩:Sv).val),(7,(⟨false,s8,0,ps.xs.length,ps.xs.length,none⟩:Sv).val),(29,ps.sv.val),(30, .int .i64 (ps.xs.length:Nat))]) (fun zz=>[own aG 1 ⟨false,xD,0,zz.2.1,mm,none⟩ zz.2.2.1,own (bT (τ:=UInt8)) 1 ⟨false,s8,0,ps.xs.length,ps.xs.length,none⟩ zz.2.2.2]) (fun zz=>zz.1<=ps.xs.length/\zz.2.1=zz.2.2.1.length/\zz.2.2.1=((aN ps.xs).take zz.1).flatten/\zz.2.2.2=dD ⟨false,xD,0,mm,mm,none⟩ 0 ((aN ps.xs).take zz.1)++List.replicate (ps.xs.length -zz.1) (⟨Sv.none,[]⟩:Sl UInt8)) (fun zz=>ps.xs.length -zz.1) (0,0,List.replicate 0 0,List.replicate ps.xs.length (⟨Sv.none,[]⟩:Sl UInt8)) ⟨Nat.zero_le _,rfl,by simp,by simp[dD]⟩ sb (fun w hw=>ai.mem hw) ?_;rintro⟨i,m,r,zs⟩ ⟨aZ,aE,bo,dn⟩;dsimp only;simp only at aZ aE bo dn;refine al ?_;refine Gb (fun h2=>?_) fun h2=>?_
 ·
  obtain⟨y,hy⟩:=get_some (xs:=ps.xs) (i:=i) oM;have Tb:Mb y ps:=⟨List.mem_of_getElem? hy⟩;have A8:=CY (qG hy);have jl:=CZ (aN ps.xs) (i+1);have xE:r.length+y.xs.length<=mm:=by rw[hN,bo,←A8];exact jl
  have qa:=get_some (xs:=zs) (i:=i) (by rw[dn,af0,Kh,asq,ata];omega);obtain⟨z,hz⟩:=qa;have qP:i<zs.length:=(ad2.1 hz).1;refine av ?_;refine ag (aW rfl rfl i rfl oM) (ag (bE (j:=0) rfl i hy rfl (by decide)) ?_);have aoC:Mb y _:=⟨List.mem_of_getElem? hy⟩;refine hU ?_;refine aaZ (s:=⟨false,xD,0,m,mm,none⟩) (enc:=aG) (xs:=r) (ys:=y.xs) rfl rfl (fun w hw=>fY (s:=y.sv) Tryz.underlying53 (by decide) ((inferInstance:cD _ _ aG 1 y.sv y.xs).h w hw)) rfl (by simp only;omega) (by simp only;omega) ?_;refine sF ?_;refine ag (Ry.to (v':=(win (⟨false,xD,0,mm,mm,none⟩:Sv) r.length (r.length+y.xs.length)).val) (P7 (l:=r.length) (h:=(r++y.xs).length) (m:=(r++y.xs).length) rfl rfl rfl rfl rfl rfl rfl (by simp) (by simp) (by simp)) (by simp[win,Sv.sub,Sv.top])) (ag (aW rfl rfl i rfl oM) (E5 (s:=⟨false,s8,0,ps.xs.length,ps.xs.length,none⟩) (xs:=zs) (k:=i) (a:=z) (⟨(win (⟨false,xD,0,mm,mm,none⟩:Sv) r.length (r.length+y.xs.length)),y.xs⟩:Sl UInt8) oK rfl rfl oM hz (al ?_)));refine Gi ?_;exact bj (x:=(i,m,r,zs)) (i+1,m+y.xs.length,r++y.xs,zs.set i ⟨(win (⟨false,xD,0,mm,mm,none⟩:Sv) r.length (r.length+y.xs.length)),y.xs⟩) ⟨oF,by rw[af0,aE],by rw[bo,asC,qG hy];simp,by rw[dn];exact aa3 (by rw[bW]) bo (qG hy)⟩ (by simp only;omega) sb (fun w hw=>ai.mem hw)
 obtain rfl:i=ps.xs.length:=by omega
 rw[asy oM]at bo dn;rw[atS,List.replicate_zero,asZ]at dn;refine au ?_;refine Gr fun w1 hw=>?_;exact⟨⟨⟨false,s8,0,ps.xs.length,ps.xs.length,none⟩,zs⟩,rfl,by rw[dn,xf],QP (rm:=⟨false,xD,0,mm,mm,none⟩) dn rfl (by rw[show m=mm by rw[aE,bo,hN],bo]at hw;exact ai.mem hw)⟩)⟩
instance aoD{c:Cp}[hc:aU w0 L c]:bN Tryz.prog 105 w0 L [.agg (aT c)] (Cp) (fun zz=> .agg (aT zz)) (fun zz=>own bZ 4 zz.blocks.sv zz.blocks.xs::aj.all (zz.blocks.xs.map fun b:Bk=>fw b.pages)::own eN 4 zz.aV.sv zz.aV.xs::L) (fun zz=>cv zz=cv c) (gO c):=⟨fun aH w hw=>Gk (fun zz:Cp=>[own bZ 4 zz.blocks.sv zz.blocks.xs,aj.all (zz.blocks.xs.map fun b:Bk=>fw b.pages),own eN 4 zz.aV.sv zz.aV.xs]) hw (by
 have hc:=hc.h w hw;have ln:cL w c:=⟨hc⟩;obtain⟨gq,gy,kH⟩:=aH;refine cB Tryz.func105 rfl Tryz.ntmps105 rfl ?_;refine Gc ?_;refine cf rfl fun b1=>bl fun b2=>al ?_;refine aX rfl oM fun x6 Tc=>Gs ?_;refine eu (cs':=aT (⟨c.pages,c.size,⟨x6,c.blocks.xs⟩,c.ops,c.off,c.aV⟩:Cp)) rfl rfl (by show 2<6;decide) (by first|rfl|exact Sv.one _) rfl (aS ?_);refine bQ (X:=Nat×List Bk) (fun zz=>[(11, .int .i64 (zz.1:Nat)),(1, .pointer (some ⟨b1,0,none⟩)),(2, .pointer (some ⟨b2,0,none⟩)),(10, .int .i64 (c.blocks.xs.length:Nat))]) (fun zz=>[own bZ 4 x6 zz.2,aj.all ((zz.2.take zz.1).map fun b:Bk=>fw b.pages),ar b2 (aT gT) 59,ar b1 (aT (⟨c.pages,c.size,⟨x6,zz.2⟩,c.ops,c.off,c.aV⟩:Cp)) 59]) (fun zz=>zz.1<=c.blocks.xs.length/\zz.2.length=c.blocks.xs.length/\jh zz.2=jh c.blocks.xs/\ ∀j,zz.1<=j->zz.2[j]? =c.blocks.xs[j]?) (fun zz=>c.blocks.xs.length -zz.1) (0,c.blocks.xs) ⟨Nat.zero_le _,rfl,rfl,fun _ _=>rfl⟩ sb (fun w hw=>by
  simp only[asW,ato];exact ai.mem (Mem.yI hw)) ?_
 rintro⟨i,zs⟩ ⟨aZ,aE,bo,dn⟩;dsimp only;simp only at aZ aE bo dn;refine al ?_;refine Gb (fun h0=>?_) fun h0=>?_
 ·
  obtain⟨z,hz⟩:=get_some (xs:=zs) (i:=i) oM;have xF:Mb z c.blocks:=⟨List.mem_of_getElem? (by rw[←dn i (asu _)];exact hz)⟩;refine al ?_;refine gg ?_;refine FC (s:=x6) (enc:=bZ) (c:=4) (xs:=zs) inferInstance oM fun hn6 hs6 ho6 hl6=>?_;refine iY [9,12,1003,1004,1006,1007,1008,1010,1011] [[],[],[],[],[3],[],[3,4],[3,4,6],[3,4,6,7],[3,4,6,7,8],[3,4,6,7,8,9],[3,4,6,7,8,9,10],[3,4,6,7,8,9,10,11]] [0,1,2,3,4,5,6,7,8,9,10,11,12] [ar b1 (aT (⟨c.pages,c.size,⟨x6,zs⟩,c.ops,c.off,c.aV⟩:Cp)) 59] (fun _ hw=>ai.mem hw) oK oK (an rfl (aO (o':=2) rfl rfl) (an rfl (bY rfl) (an rfl (bf rfl) (lA rfl (aO (o':=2) rfl rfl) (lA rfl (bY rfl) (an rfl (bf rfl) (lA rfl (aW rfl rfl i rfl oM) (lA rfl (aO rfl rfl) (lA rfl (bE (j:=0) rfl i hz rfl (by decide)) (dH rfl (pU rfl (kH z xF.h) fun om G8=>⟨fun _ hw=>ai.mem hw,?_⟩)))))))))));refine lA rfl (mz (s:=x6) (i:=i) rfl rfl rfl ho6 oM) (lA rfl (aO rfl rfl) ?_);refine dH rfl (wW (n:=1) (k:=i) (j:=0) (a:=z) (a':=({z with pages:=om}:Bk)) (xs:=zs) (enc:=bZ) (c:=4) (v:=om.sv.val) oK rfl rfl rfl hz (by rw[Sv.iX];simp[Sv.one]) (by rw[Sv.iX];rfl) (by decide) (by rw[Sv.iX];rfl) ⟨fun _ hw=>ai.mem hw,?_⟩)
  refine al ?_;refine Gi ?_;exact bj (x:=(i,zs)) (i+1,zs.set i ({z with pages:=om}:Bk)) ⟨oF,by rw[as1];exact aE,by rw[yO,←bo,show bv ({z with pages:=om}:Bk)=bv z from by rw[bv,bv,G8],←yO,xi hz],fun j hj=>by rw[asS oF];exact dn j oF⟩ (by simp only;omega) sb (fun w hw=>by
   have h1:=Mem.AK (e:=fw om) (es:=(zs.take i).map fun b:Bk=>fw b.pages) (ai.mem hw:Mem _ (fw om::aj.all ((zs.take i).map fun b:Bk=>fw b.pages)::[own bZ 4 x6 (zs.set i ({z with pages:=om}:Bk)),ar b2 (aT gT) 59,ar b1 (aT (⟨c.pages,c.size,⟨x6,zs⟩,c.ops,c.off,c.aV⟩:Cp)) 59]) _)
   rw[aba (z':=({z with pages:=om}:Bk)) hz]at h1
   exact(ai.mem h1:Mem _ [own bZ 4 x6 (zs.set i ({z with pages:=om}:Bk)),aj.all (((zs.set i ({z with pages:=om}:Bk)).take (i+1)).map fun b:Bk=>fw b.pages),ar b2 (aT gT) 59,ar b1 (aT (⟨c.pages,c.size,⟨x6,zs⟩,c.ops,c.off,c.aV⟩:Cp)) 59] _))
 obtain rfl:i=zs.length:=by omega
 rw[asy (asu _)]at*;refine av ?_;refine ag (Ry.to (v':=c.aV.sv.val) (bY rfl) rfl) (aX rfl oM fun qb Dn=>Gs ?_);refine eu (cs':=aT (⟨c.pages,c.size,⟨x6,zs⟩,c.ops,c.off,⟨qb,c.aV.xs⟩⟩:Cp)) rfl rfl (by show 5<6;decide) (by first|rfl|exact Sv.one _) rfl (au ?_);refine Gr fun w1 hw=>?_;exact⟨⟨c.pages,c.size,⟨x6,zs⟩,c.ops,c.off,⟨qb,c.aV.xs⟩⟩,rfl,by simp only[cv,bo],ai.mem hw⟩)⟩
instance aoE{c:Cp}{b:Int}[hc:aU w0 L c]:cE Tryz.prog 298 w0 L [.agg (aT c), .int .i64 b] (.bool (ib (cv c) b)) (True):=⟨fun aH w hw=>by
 have hc:=hc.h w hw;have ln:cL w c:=⟨hc⟩;refine cQ Tryz.func298 rfl Tryz.ntmps298 rfl ?_;refine Gc ?_;refine cf rfl fun b2=>P0 ?_;refine Gr fun w1 hw=>?_;exact⟨congrArg (fun b=>Ending.returned (Value.bool b)) ((by simp only[ib,cv,ia])),ai.mem hw⟩⟩
instance aoF{c:Cp}[hc:aU w0 L c]:cE Tryz.prog 299 w0 L [.agg (aT c)] (.tuple #[.agg (eN ((bn (cv c)).1)), .bool ((bn (cv c)).2)]) (c.aV.xs.length<=1000000):=⟨fun aH w hw=>by
 have hc:=hc.h w hw;have ln:cL w c:=⟨hc⟩;refine cB Tryz.func299 rfl Tryz.ntmps299 rfl ?_;refine Gc ?_;refine cf rfl fun b1=>bl fun b2=>cW ?_;refine bQ (X:=Nat) (fun zz=>[(9, .int .i64 (zz:Nat)),(1, .pointer (some ⟨b1,0,none⟩)),(2, .pointer (some ⟨b2,0,none⟩)),(7,c.aV.sv.val),(8, .int .i64 (c.aV.xs.length:Nat))]) (fun zz=>[ar b2 (eN AI) 97,ar b1 (aT c) 59]) (fun zz=>zz<=c.aV.xs.length/\ ∀j f,j<zz->c.aV.xs[j]? =Option.some f->f.op≠c.ops) (fun zz=>c.aV.xs.length -zz) 0 ⟨Nat.zero_le _,fun j f hj=>by first|omega|(simp only[];omega)⟩ sb (fun w hw=>ai.mem hw) ?_;rintro i ⟨aZ,aE⟩;refine al ?_;refine Gb (fun h0=>?_) fun h0=>?_
 ·
  refine nt ?_;obtain⟨f,hf⟩:=get_some (xs:=c.aV.xs) (i:=i) oM;refine ag (aW rfl rfl i rfl oM) (ag (iF rfl i hf rfl) (bl fun b5=>eI ?_));refine Gb (fun h1=>?_) fun h1=>?_
  ·
   have hs:bn (cv c)=(f,f.cut||f.fail):=abc hf aE h1;refine Gi ?_;refine iY [7] [[],[],[],[],[],[],[],[],[7]] [0,1,2,3,4,5,6,7,8] [ar b5 (eN f) 97,ar b1 (aT c) 59] (fun _ hw=>ai.mem hw) oK oK (an rfl (jY rfl) (an rfl (aO (o':=2) rfl rfl) (an rfl (bY rfl) (an rfl (bf rfl) (PW rfl rfl rfl rfl (fun hg=>(Ry.yl (aO (o':=1) rfl rfl))) (PW rfl rfl rfl rfl (fun hg=>(Ry.yl (bY (aF hg rfl)))) (an rfl (zO rfl rfl rfl) (dH rfl (pV rfl rfl ⟨fun _ hw=>ai.mem hw,?_⟩)))))))));refine an rfl (hG rfl) (Gc ?_);refine Gr fun w1 hw=>?_;exact⟨(by rw[hs]),ai.mem hw⟩
  refine al ?_;refine Gi ?_;exact bj (x:=(i)) (i+1) ⟨oF,fun j g hj hg=>if e:j=i then(by subst e;rw[hf]at hg;cases hg;exact h1)else aE j g oF hg⟩ oF sb (fun w hw=>ai.mem hw)
 obtain rfl:i=c.aV.xs.length:=by omega
 have hs:bn (cv c)=(AI,false):=abb (fun f hf=>by
  obtain⟨j,hj⟩:=asM hf;exact aE j f (ad2.1 hj).1 hj)
 refine Gc ?_;refine ag (dm (v:= .agg (eN AI)) rfl (fun w=>by kernel_rfl)) (al ?_);refine Gr fun w1 hw=>?_;exact⟨(by rw[hs]),ai.mem hw⟩⟩
instance aoG{f:Ft}:cE Tryz.prog 300 w0 L [.agg (eN f)] (.tuple #[.bool f.cut, .int .i64 (lY f)]) (True):=⟨fun aH w hw=>by
 refine cB Tryz.func300 rfl Tryz.ntmps300 rfl ?_;refine Gc ?_;refine cf rfl fun b1=>aS ?_;refine Gb (fun h0=>?_) fun h0=>?_
 ·
  refine au ?_;refine Gr fun w1 hw=>?_;exact⟨(by rw[lY,if_pos h0,h0]),ai.mem hw⟩
 refine au ?_;refine Gr fun w1 hw=>?_;exact⟨(by rw[lY,if_neg (by rw[h0];simp),h0]),ai.mem hw⟩⟩
instance aoH{c:Cp}{b:Int}[hc:aU w0 L c]:bN Tryz.prog 301 w0 L [.agg (aT c), .int .i64 b] (Cp) (fun zz=> .tuple #[.agg (aT zz), .int .i64 (pZ (cv c) b)]) (fun zz=>fz zz::L) (fun zz=>cv zz=lZ (cv c) b) (gO c):=⟨fun aH w hw=>Gk (fun zz=>[fz zz]) hw (by
 have hc:=hc.h w hw;have ln:cL w c:=⟨hc⟩;have lM:gO c:=aH;obtain⟨gq,gy,kH⟩:=aH;refine cQ Tryz.func301 rfl Tryz.ntmps301 rfl ?_;refine Gc ?_;refine cf rfl fun b2=>bl fun b4=>al ?_;refine aX rfl (by assumption) fun x8 rJ=>bl fun b6=>cW ?_;refine Gb (fun h0=>?_) fun h0=>?_
 ·
  have hE:pZ (cv c) b=1:=by rw[pZ,if_neg (by rw[h0];simp)]
  refine aM ?_;refine Gr fun w1 hw=>?_;exact⟨x8,by rw[hE],by rw[rJ,lZ,if_neg (by rw[hE];decide)],oZ x8 (ai.mem hw)⟩
 have hk:ib (cv c) b=true:=h0;have hh:=hk;have G9:=(ic.1 hh).2;have dW:x8.blocks.xs.length=c.blocks.xs.length:=by have:=congrArg (fun v:CV=>v.blocks.length) rJ;simpa only[cv,ia]using this
 have A9:x8.ops=c.ops:=congrArg CV.ops rJ;have pq:(cv c).blocks.length=c.blocks.xs.length:=ia _;obtain⟨B,hB⟩:=get_some (xs:=x8.blocks.xs) (i:=b.toNat) oM;have oo:b.toNat<x8.blocks.xs.length:=(ad2.1 hB).1;have ff:bv B=ak (cv c) b:=by
  have h1:=F4 hh;have h2:=nw hB;rw[show jh x8.blocks.xs=(cv c).blocks from congrArg CV.blocks rJ,h1]at h2;exact(aso h2).symm
 have gC:qH c.pages c.size (bv B)=true:=by rw[ff];exact qI hh
 obtain⟨o1,o2,o3,o4,o5,o6⟩:=fk.1 gC;have iO:=lX.1 (fF.1 (ic.1 hh).1).1;have Dp:=(fF.1 (ic.1 hh).1).2.1;simp only[bv,cv]at o1 o2 o3 o4 o5 o6 iO Dp;have Td:=oU B.pages.xs;refine au ?_;refine Gb (fun h1=>?_) fun h1=>?_
 ·
  have hE:pZ (cv c) b=7:=by rw[pZ,if_pos hk,if_pos (show(cv c).off=true from h1)]
  refine aM ?_;refine Gr fun w1 hw=>?_;exact⟨x8,by rw[hE],by rw[rJ,lZ,if_neg (by rw[hE];decide)],oZ x8 (ai.mem hw)⟩
 have hE:pZ (cv c) b=0:=by rw[pZ,if_pos hk,if_neg (by rw[show(cv c).off=false from h1];simp)]
 refine au ?_;refine ag (aW rfl rfl b.toNat oM oo) (ag (aO rfl rfl) (ku (s:=x8.blocks.sv) (n:=1) (k:=b.toNat) (j:=3) (a:=B) (a':=(⟨B.pages,B.used,B.aR,true⟩:Bk)) (xs:=x8.blocks.xs) (enc:=bZ) (c:=4) (v:= .bool true) oK rfl rfl rfl hB (by simp[Value.cells,Value.oneCell']) (by rfl) (by decide) (by rfl) (aM ?_)));refine Gr fun w1 hw=>?_;exact⟨(⟨x8.pages,x8.size,⟨x8.blocks.sv,x8.blocks.xs.set b.toNat (⟨B.pages,B.used,B.aR,true⟩:Bk)⟩,x8.ops,x8.off,x8.aV⟩:Cp),by rw[hE];rfl,by rw[abj rJ ff,lZ,if_pos hE],oZ (⟨x8.pages,x8.size,⟨x8.blocks.sv,x8.blocks.xs.set b.toNat (⟨B.pages,B.used,B.aR,true⟩:Bk)⟩,x8.ops,x8.off,x8.aV⟩:Cp) (by
  simp only[abi hB (B':=(⟨B.pages,B.used,B.aR,true⟩:Bk)) rfl];exact ai.mem hw)⟩)⟩
instance aoI{c:Cp}{fs:Sv}{s9:List Ft}[hc:aU w0 L c][Lz:cD w0 L eN 4 fs s9]:bN Tryz.prog 42 w0 L [.agg (aT c),fs.val] (Cp) (fun zz=> .tuple #[.agg (aT zz), .int .i64 (xh (cv c) s9)]) (fun zz=>fz zz::L) (fun zz=>cv zz=CW (cv c) s9) (gO c):=⟨fun aH w hw=>Gk (fun zz=>[fz zz]) hw (by
 have hc:=hc.h w hw;have Lz:=Lz.h w hw;have ln:cL w c:=⟨hc⟩;have aoJ:Gv w fs eN 4 s9:=⟨Lz⟩;have lM:gO c:=aH;obtain⟨gq,gy,kH⟩:=aH;refine cQ Tryz.func42 rfl Tryz.ntmps42 rfl ?_;refine Gc ?_;refine cf rfl fun b2=>bl fun b4=>al ?_;refine aX rfl (by assumption) fun x8 rJ=>bl fun b6=>oP ?_;refine Gb (fun h0=>?_) fun h0=>?_
 ·
  have hE:xh (cv c) s9=1:=by rw[xh,if_neg (fun h=>by rw[h.1]at h0;simp only[aue,false_or]at h0;omega)]
  refine aM ?_;refine Gr fun w1 hw=>?_;exact⟨x8,by rw[hE],by rw[rJ,CW,if_neg (by rw[hE];decide)],oZ x8 (ai.mem hw)⟩
 have hE:xh (cv c) s9=0:=by
  rw[xh,if_pos]
  cases hk:ba (cv c)with
  |false=>rw[hk]at h0;simp at h0
  |true=>exact⟨rfl,by rw[hk]at h0;simp only[aue,not_false_eq_true,true_and]at h0;omega⟩
 have eW:s9.length<=64:=by
  by_cases h9:ba (cv c)=true/\s9.length<=64
  ·
   exact h9.2
  rw[xh,if_neg h9]at hE;cases hE
 refine av ?_;refine eu (cs':=aT (⟨x8.pages,x8.size,x8.blocks,x8.ops,false,x8.aV⟩:Cp)) rfl rfl (by show 4<6;decide) (by first|rfl|exact Sv.one _) rfl (av ?_);refine aX rfl oM fun iD zg=>Gs ?_;refine eu (cs':=aT (⟨x8.pages,x8.size,x8.blocks,x8.ops,false,⟨iD,s9⟩⟩:Cp)) rfl rfl (by show 5<6;decide) (by first|rfl|exact Sv.one _) rfl (aM ?_);refine Gr fun w1 hw=>?_;exact⟨(⟨x8.pages,x8.size,x8.blocks,x8.ops,false,⟨iD,s9⟩⟩:Cp),by rw[hE],by rw[CW,if_pos hE,←rJ];rfl,oZ (⟨x8.pages,x8.size,x8.blocks,x8.ops,false,⟨iD,s9⟩⟩:Cp) (ai.mem hw)⟩)⟩
instance aoK{b:Sv}{bs:List UInt8}[hb:cD w0 L aG 1 b bs]:cE Tryz.prog 269 w0 L [.int .u32 0,b.val] (.int .u32 (kz bs:Nat)) (True):=⟨fun aH w hw=>by
 have hb:=hb.h w hw;have rK:Gv w b aG 1 bs:=⟨hb⟩;have jH:=hb.bd;refine cQ Tryz.func269 rfl Tryz.ntmps269 rfl ?_;refine au ?_;refine ag (Q8 (p:=0) rfl rfl (by decide)) (aS ?_);refine bQ (X:=Nat) (fun zz=>[(13, .int .i64 (zz:Nat)),(5, .int .u32 (kT 4294967295 (bs.take zz):Nat)),(11,b.val),(12, .int .i64 (bs.length:Nat))]) (fun zz=>[]) (fun zz=>zz<=bs.length) (fun zz=>bs.length -zz) 0 (asO _) sb (fun w hw=>ai.mem hw) ?_;rintro i hi;have bc:kT 4294967295 (bs.take i)<2^32:=FF (by decide) _;refine al ?_;refine Gb (fun h0=>?_) fun h0=>?_
 ·
  obtain⟨y,he⟩:=get_some (xs:=bs) (i:=i) oM;have hy:=y.toNat_lt;have dS:kT 4294967295 (bs.take i)^^^y.toNat<2^32:=avn (FF (by decide) _) oM;refine Gc ?_;refine ag (aW rfl rfl i rfl oM) (ag (bE (j:=0) rfl i he rfl (by decide)) (au ?_));refine ag (gH rfl (by simp only[nb];omega)) (ag (Ot rfl rfl rfl rfl (by simp only[nb];omega) (by simp only[nb];omega)) (au ?_));refine bQ (X:=Nat) (fun zz=>[(21, .int .i64 (zz:Nat)),(5, .int .u32 ((oS (kT 4294967295 (bs.take i)^^^y.toNat) zz):Nat)),(11,b.val),(12, .int .i64 (bs.length:Nat)),(13, .int .i64 (i:Nat))]) (fun zz=>[]) (fun zz=>zz<=8) (fun zz=>8 -zz) 0 (asO _) sb (fun w hw=>ai.mem hw) ?_;rintro k hk;refine al ?_;refine Gb (fun h1=>?_) fun h1=>?_
  ·
   have nW:(oS (kT 4294967295 (bs.take i)^^^y.toNat) k)<2^32:=J1 dS k;have xG:(oS (kT 4294967295 (bs.take i)^^^y.toNat) k)/2<2^32:=by omega
   refine av ?_;refine ag (Ry.to (v':= .int .u32 (((oS (kT 4294967295 (bs.take i)^^^y.toNat) k)%2:Nat):Int)) (Oq (p:=(oS (kT 4294967295 (bs.take i)^^^y.toNat) k)) (q:=1) rfl rfl rfl rfl (by simp only[nb];omega) (by decide)) (by rw[Nat.and_one_is_mod])) (al ?_);refine ag (wF (p:=(oS (kT 4294967295 (bs.take i)^^^y.toNat) k)) rfl rfl (by simp only[nb];omega) oM) (au ?_);refine ag (X1 (p:=3988292384) (q:=(oS (kT 4294967295 (bs.take i)^^^y.toNat) k)%2) rfl rfl rfl rfl (by simp only[nb];omega)) ?_;refine ag (Ry.to (v':= .int .u32 ((oS (kT 4294967295 (bs.take i)^^^y.toNat) (k+1):Nat):Int)) (Ot (p:=(oS (kT 4294967295 (bs.take i)^^^y.toNat) k)/2^1) (q:=3988292384*((oS (kT 4294967295 (bs.take i)^^^y.toNat) k)%2)) rfl rfl rfl rfl (by simp only[nb];omega) (by simp only[nb];omega)) (by rw[oS,J0];rcases Nat.mod_two_eq_zero_or_one (oS (kT 4294967295 (bs.take i)^^^y.toNat) k)with h|h<;>rw[h]<;>rfl)) ?_;refine au ?_;refine Gi ?_;exact bj (x:=(k)) (k+1) oF oF sb (fun w hw=>ai.mem hw)
  obtain rfl:k=8:=by omega
  refine al ?_;refine Gi ?_;exact bj (x:=(i)) (i+1) oF oF (Sub.cons rfl (Sub.cons (look_eq rfl (by rw[aac he];rfl)) sb)) (fun w hw=>ai.mem hw)
 obtain rfl:i=bs.length:=by omega
 refine av ?_;refine ag (Q8 (p:=kT 4294967295 (bs.take bs.length)) rfl rfl (FF (by decide) _)) (av ?_);refine Gr fun w1 hw=>?_;exact⟨(by rw[asP];rfl),ai.mem hw⟩⟩
instance aoL{b:Sv}{bs:List UInt8}[hb:cD w0 L aG 1 b bs]:cE Tryz.prog 229 w0 L [b.val] (.int .u32 (kz bs:Nat)) (True):=⟨fun aH w hw=>by
 have hb:=hb.h w hw;have rK:Gv w b aG 1 bs:=⟨hb⟩;refine cB Tryz.func229 rfl Tryz.ntmps229 rfl ?_;refine cW ?_;refine Gr fun w1 hw=>?_;exact⟨rfl,ai.mem hw⟩⟩
instance aoM{n:Nat}{many:Nat}:bN Tryz.prog 112 w0 L [.int .u64 (n:Nat), .int .i64 (many:Nat)] (Sv) (fun zz=>zz.val) (fun zz=>own aG 1 zz (be n many)::L) (fun zz=>True) (n<2^64/\1<=many/\many<=8):=⟨fun aH w hw=>Gk (fun zz=>[own aG 1 zz (be n many)]) hw (by
 obtain⟨gq,gy,kH⟩:=aH;refine cQ Tryz.func112 rfl Tryz.ntmps112 rfl ?_;refine sF ?_;refine Gb (fun h0=>?_) fun h0=>?_
 ·
  exfalso;omega
 refine av ?_;refine sg (enc:=aG) (n:=many) (cap:=many) 0 rfl rfl rfl rfl rfl oM oM oM fun xH=>al ?_;refine ag (Ry.to (v':= .int .i64 (many:Nat)) (tP rfl) (by simp)) (av ?_);refine bQ (X:=Nat) (fun zz=>[(17, .int .i64 (zz:Nat)),(5,(⟨false,xH,0,many,many,none⟩:Sv).val),(0, .int .u64 (n:Nat)),(1, .int .i64 (many:Nat)),(16, .int .i64 (many:Nat))]) (fun zz=>[own aG 1 ⟨false,xH,0,many,many,none⟩ (List.replicate (many -zz) (0:UInt8)++be n zz)]) (fun zz=>zz<=many) (fun zz=>many -zz) 0 (asO _) sb (fun w hw=>by rw[show List.replicate (many -0) (0:UInt8)++be n 0=List.replicate many 0 from by rw[be,asZ,avs]];exact ai.mem hw) ?_;rintro i hi;have dW:=gK n i;have CX:(List.replicate (many -i) (0:UInt8)++be n i).length=many:=by rw[af0,ata,dW];omega
 refine al ?_;refine Gb (fun h1=>?_) fun h1=>?_
 ·
  refine oP ?_;refine ag (pL rfl rfl oM) (ag (Ry.to (v':= .int .u64 ((n/256^i:Nat):Int)) (wF (p:=n) rfl rfl (by simp only[nb];omega) oM) (by rw[show(8*(i:Int)).toNat=8*i by omega,Nat.pow_mul])) (ag (Co rfl rfl) (ag (aW rfl rfl (many -1 -i) oM oM) ?_)));refine adk rfl rfl (by rw[asG (by rw[ata];omega),auH,if_pos oM]) rfl ?_;refine al ?_;refine Gi ?_;exact bj (x:=(i)) (i+1) oF oF sb (fun w hw=>by rw[abn oM]at hw;exact ai.mem hw)
 have him:i=many:=by omega
 refine au ?_;refine Gr fun w1 hw=>?_;exact⟨⟨false,xH,0,many,many,none⟩,rfl,trivial,by rw[him,atS,List.replicate_zero,atc]at hw;exact ai.mem hw⟩)⟩
instance aoN{b:Sv}{bs:List UInt8}[hb:cD w0 L aG 1 b bs]:cE Tryz.prog 113 w0 L [b.val] (.int .u64 (de bs:Nat)) (bs.length<=7):=⟨fun aH w hw=>by
 have hb:=hb.h w hw;have rK:Gv w b aG 1 bs:=⟨hb⟩;refine cB Tryz.func113 rfl Tryz.ntmps113 rfl ?_;refine hU ?_;refine bQ (X:=Nat) (fun zz=>[(8, .int .i64 (zz:Nat)),(3, .int .u64 (de (bs.take zz):Nat)),(6,b.val),(7, .int .i64 (bs.length:Nat))]) (fun zz=>[]) (fun zz=>zz<=bs.length) (fun zz=>bs.length -zz) 0 (asO _) sb (fun w hw=>ai.mem hw) ?_;rintro i hi;refine al ?_;refine Gb (fun h0=>?_) fun h0=>?_
 ·
  obtain⟨y,he⟩:=get_some (xs:=bs) (i:=i) oM;have hy:=y.toNat_lt;have bc:de (bs.take i)<256^6:=atd (Jd bs i hi) (atv (by decide) oM);refine Gc ?_;refine ag (aW rfl rfl i rfl oM) (ag (bE (j:=0) rfl i he rfl (by decide)) (al ?_));refine ag (abm (p:=de (bs.take i)) rfl rfl rfl oM) (Gs ?_);refine ag (gH rfl (by simp only[nb];omega)) (ag (Cd (p:=de (bs.take i)*256) (q:=y.toNat) rfl rfl rfl rfl (by simp only[nb];omega) (by simp only[nb];omega)) (au ?_));refine Gi ?_;exact bj (x:=(i)) (i+1) oF oF (Sub.cons rfl (Sub.cons (look_eq rfl (by rw[OL he,OM _ _ hy])) sb)) (fun w hw=>ai.mem hw)
 obtain rfl:i=bs.length:=by omega
 refine au ?_;refine Gr fun w1 hw=>?_;exact⟨(by rw[asP]),ai.mem hw⟩⟩
instance aoO{n:Nat}:bN Tryz.prog 185 w0 L [.slice none 0 0, .int .i64 (n:Nat)] (Sv) (fun zz=>zz.val) (fun zz=>own aG 1 zz ([]:List UInt8)::L) (fun zz=>True) (n<=1000000000):=⟨fun aH w hw=>Gk (fun zz=>[own aG 1 zz ([]:List UInt8)]) hw (by
 refine cQ Tryz.func185 rfl Tryz.ntmps185 rfl ?_;refine aS ?_;refine Gb (fun h0=>?_) fun h0=>?_
 ·
  exfalso;omega
 refine al ?_;refine ag (FG rfl) (Gs ?_);refine ag (yg rfl) (cW ?_);refine Gb (fun h1=>?_) fun h1=>?_
 ·
  refine Gi ?_;refine av ?_;refine ag (FG rfl) (ag (Ry.to (v':= .slice none 0 0) (wJ (s:=Sv.none) (h:=0) rfl rfl rfl Sv.Cj (asu _)) rfl) (Gs ?_));refine Qc (enc:=aG) (k:=n) (0:UInt8) rfl rfl oM oM (by decide) rfl Tryz.underlying3 oM oM fun mP Dq LA=>Gs ?_;refine ag (yg rfl) (ag (wJ (s:=⟨false,mP,0,n,Dq,none⟩) (h:=0) rfl rfl rfl ⟨(fun h=>by cases h),LA,by simp only;omega,fun _=>rfl⟩ (asO _)) (aM ?_));refine Gr fun w1 hw=>?_;refine⟨Sv.sub ⟨false,mP,0,n,Dq,none⟩ 1 0 0,rfl,trivial,?_⟩;have dX:=Mem.Qb (i:=0) (k:=0) hw rfl (asO _);rw[asW]at dX;exact dX
 have hn:n=0:=by omega
 refine au ?_;refine Gr fun w1 hw=>?_;exact⟨Sv.none,rfl,trivial,(ai.mem hw:Mem w [] _).dj aG 1⟩)⟩
instance aoP{a:Sl (Sl UInt8)}[ha:aU w0 L a]:bN Tryz.prog 111 w0 L [a.sv.val] (Sv) (fun zz=>zz.val) (fun zz=>own aG 1 zz (jw a.xs)::L) (fun zz=>True) ((jw a.xs).length<=1000000):=⟨fun aH w hw=>Gk (fun zz=>[own aG 1 zz (jw a.xs)]) hw (by
 have ha:=ha.h w hw;have LB:cL w a:=⟨ha⟩;have uV:=ha.1.bd;have eW:=aae a.xs;refine cB Tryz.func111 rfl Tryz.ntmps111 rfl ?_;refine hU ?_;refine bQ (X:=Nat) (fun zz=>[(11, .int .i64 (zz:Nat)),(3, .int .i64 ((jw (a.xs.take zz)).length:Nat)),(0,a.sv.val),(9,a.sv.val),(10, .int .i64 (a.xs.length:Nat))]) (fun zz=>[]) (fun zz=>zz<=a.xs.length) (fun zz=>a.xs.length -zz) 0 (asO _) sb (fun w hw=>ai.mem hw) ?_;rintro i hi;have wZ:=eW i;have lz:=eW (i+1);refine al ?_;refine Gb (fun h0=>?_) fun h0=>?_
 ·
  refine nt ?_;obtain⟨x,hx⟩:=get_some (xs:=a.xs) (i:=i) oM;refine ag (aW rfl rfl i rfl oM) (ag (bE (j:=0) rfl i hx rfl (by decide)) ?_);have hfx:(jw (a.xs.take (i+1))).length=(jw (a.xs.take i)).length+x.xs.length:=by rw[FH hx,af0]
  have Ha:Mb x _:=⟨List.mem_of_getElem? hx⟩;refine oP ?_;refine Gb (fun h1=>?_) fun h1=>?_
  ·
   exfalso;omega
  refine al ?_;refine Gi ?_;exact bj (x:=(i)) (i+1) oF oF (Sub.cons rfl (Sub.cons (look_eq rfl (by rw[FH hx,af0];simp)) sb)) (fun w hw=>ai.mem hw)
 obtain rfl:i=a.xs.length:=by omega
 have nO:=eW a.xs.length;refine av ?_;refine aX rfl oM fun qc Dr=>aS ?_;refine bQ (X:=Nat×Sv) (fun zz=>[(27, .int .i64 (zz.1:Nat)),(6,zz.2.val),(25,a.sv.val),(26, .int .i64 (a.xs.length:Nat))]) (fun zz=>[own aG 1 zz.2 (jw (a.xs.take zz.1))]) (fun zz=>zz.1<=a.xs.length) (fun zz=>a.xs.length -zz.1) (0,qc) (Nat.zero_le _) sb (fun w hw=>(ai.mem hw:Mem _ [own aG 1 qc ([]:List UInt8)] _)) ?_;rintro⟨k,s1⟩ hk;dsimp only;simp only at hk;have wZ:=eW k;have lz:=eW (k+1);refine al ?_;refine Gb (fun h2=>?_) fun h2=>?_
 ·
  refine nt ?_;obtain⟨y,hy⟩:=get_some (xs:=a.xs) (i:=k) oM;refine ag (aW rfl rfl k rfl oM) (ag (bE (j:=0) rfl k hy rfl (by decide)) ?_);have hfy:(jw (a.xs.take (k+1))).length=(jw (a.xs.take k)).length+y.xs.length:=by rw[FH hy,af0]
  have LC:Mb y _:=⟨List.mem_of_getElem? hy⟩;refine au ?_;refine gS (s:=s1) (ys:=y.xs) rfl rfl (by decide) (fun w hw=>fY (s:=y.sv) Tryz.underlying53 (by decide) ((inferInstance:Hd _ _ y.sv aG 1 y.xs).h w hw)) oM oM fun LD adv adw=>?_;refine au ?_;refine Gi ?_;exact bj (x:=(k,s1)) (k+1,LD) (by simp only;omega) (by simp only;omega) sb (fun w hw=>by rw[FH hy];exact ai.mem hw)
 obtain rfl:k=a.xs.length:=by omega
 refine au ?_;refine Gr fun w1 hw=>?_;exact⟨s1,rfl,trivial,by rw[asP]at hw;exact ai.mem hw⟩)⟩
instance aoQ{b:Sv}{bs:List UInt8}[hb:cD w0 L aG 1 b bs]:bN Tryz.prog 184 w0 L [b.val] (Sv) (fun zz=>zz.val) (fun zz=>own aG 1 zz (rk bs)::L) (fun zz=>True) (bs.length<=900000):=⟨fun aH w hw=>Gk (fun zz=>[own aG 1 zz (rk bs)]) hw (by
 have hb:=hb.h w hw;have rK:Gv w b aG 1 bs:=⟨hb⟩;have oH:=AA bs;refine cB Tryz.func184 rfl Tryz.ntmps184 rfl ?_;refine aS ?_;refine ag (gH rfl (by simp only[nb];omega)) (aX (vs:=[_, .int .i64 ((4:Nat):Int)]) rfl ⟨by omega,by omega,by omega⟩ fun x7 hp7=>?_);refine jF (enc:=(bT (τ:=UInt8))) [(⟨b,bs⟩:Sl UInt8),⟨x7,be (kz bs) 4⟩] (vals:=[b.val,x7.val]) rfl (by simp only[asL,ato,Sv.iX];rfl) rfl (by decide) (by decide) fun b8=>?_;refine J3 (τ:=Sl UInt8) (xs:=[(⟨b,bs⟩:Sl UInt8),⟨x7,be (kz bs) 4⟩]) fun a8 h8 g8=>?_;have Ds:jw a8.xs=rk bs:=by rw[h8];simp[jw,rk]
 have hf9:(rk bs).length=bs.length+4:=by rw[rk,af0,gK]
 refine aX rfl (by rw[Ds];omega) fun x9 Ba=>av ?_;refine Gr fun w1 hw=>?_;exact⟨x9,rfl,trivial,by rw[←Ds];exact ai.mem hw⟩)⟩
instance aoR{s:Sv}{ss:List UInt8}[hs:cD w0 L aG 1 s ss]:bN Tryz.prog 230 w0 L [s.val] (Sv) (fun zz=>zz.val) (fun zz=>own aG 1 zz ss::L) (fun zz=>True) (ss.length<=1000000):=⟨fun aH w hw=>Gk (fun zz=>[own aG 1 zz ss]) hw (by
 have hs:=hs.h w hw;have ze:Gv w s aG 1 ss:=⟨hs⟩;refine cB Tryz.func230 rfl Tryz.ntmps230 rfl ?_;refine au ?_;refine ag (vd Tryz.underlying53 rfl) (Gc ?_);refine Gb (fun h0=>?_) fun h0=>?_
 ·
  have e0:ss=[]:=asI.1 (by have:=hs.ok.nil h0;have:=hs.len;omega);refine al ?_;refine Gr fun w1 hw=>?_;exact⟨Sv.none,rfl,trivial,by rw[e0];exact(ai.mem hw:Mem w [] _).dj aG 1⟩
 refine Gc ?_;refine wL aG fun b5=>Gs ?_;refine gS (s:=⟨false,b5,0,0,0,none⟩) (ys:=ss) rfl rfl (by decide) (fun w hw=>fY (s:=s) Tryz.underlying53 (by decide) ((inferInstance:Hd _ _ s aG 1 ss).h w hw)) (by simp only[af0,asm,asn];omega) (by simp only[af0,asm,asn];omega) fun s7 zf xC=>?_;refine av ?_;refine Gr fun w1 hw=>?_;exact⟨s7,rfl,trivial,by simpa using hw⟩)⟩
instance aoS{b:Sv}{bs:List UInt8}[hb:cD w0 L aG 1 b bs]:bN Tryz.prog 186 w0 L [b.val] (Sv) (fun zz=> .tuple #[zz.val, .int .i64 (nX bs)]) (fun zz=>own aG 1 zz (cl bs)::L) (fun zz=>True) (bs.length<=1000000):=⟨fun aH w hw=>Gk (fun zz=>[own aG 1 zz (cl bs)]) hw (by
 have hb:=hb.h w hw;have rK:Gv w b aG 1 bs:=⟨hb⟩;refine cB Tryz.func186 rfl Tryz.ntmps186 rfl ?_;refine eI ?_;refine Gb (fun h0=>?_) fun h0=>?_
 ·
  have he:nX bs=3:=if_pos oM;have hv:cl bs=[]:=by rw[cl,if_neg (by rw[he];decide)]
  refine au ?_;refine Gr fun w1 hw=>?_;exact⟨Sv.none,by rw[he];rfl,trivial,by rw[hv];exact(ai.mem hw:Mem w [] _).dj aG 1⟩
 have hlen: ¬bs.length<4:=by omega
 have ht:(bs.drop 0).take (bs.length -4 -0)=bs.take (bs.length -4):=by simp
 have hd:(bs.drop (bs.length -4)).take (bs.length -(bs.length -4))=bs.drop (bs.length -4):=asy (by simp);refine Gc ?_;refine gJ oK oK (au ?_);have adx:Rg 0 (bs.length -4) bs.length:=⟨by omega⟩;refine bC (Cs rfl rfl (bs.length -4) oM adx.h.2) (au ?_);have ady:Rg (bs.length -4) bs.length bs.length:=⟨by omega⟩;refine bC (vc rfl rfl (bs.length -4) oM ady.h.1) (aM ?_);refine ag (gH rfl (by simp only[nb];exact Nat.lt_trans (AA _) (by decide))) (Gs ?_);refine eS (cj rfl (by simp;omega)) (av ?_);refine Gb (fun h1=>?_) fun h1=>?_
 ·
  have he:nX bs=4:=by rw[nX,if_neg hlen,if_neg (by rw[ht,hd]at h1;omega)]
  have hv:cl bs=[]:=by rw[cl,if_neg (by rw[he];decide)]
  refine au ?_;refine Gr fun w1 hw=>?_;exact⟨Sv.none,by rw[he];rfl,trivial,by rw[hv];exact(ai.mem hw:Mem w [] _).dj aG 1⟩
 have he:nX bs=0:=by rw[nX,if_neg hlen,if_pos (by rw[ht,hd]at h1;omega)]
 have hv:cl bs=bs.take (bs.length -4):=by rw[cl,if_pos he]
 refine av ?_;refine aX rfl (by rw[ht,asq];omega) fun iP qd=>al ?_;refine Gr fun w1 hw=>?_;exact⟨iP,by rw[he],trivial,by rw[hv,←ht];exact ai.mem hw⟩)⟩
instance:eR Tryz.prog 324 (.agg (da o8)):=⟨by kernel_rfl⟩
instance aoT{n:Int}:cE Tryz.prog 144 w0 L [.int .i64 n] (.bool (n7 n)) (True):=⟨fun aH w hw=>by
 refine cB Tryz.func144 rfl Tryz.ntmps144 rfl ?_;refine oP ?_;refine Gr fun w1 hw=>?_;exact⟨congrArg (fun b=>Ending.returned (Value.bool b)) (rfl),ai.mem hw⟩⟩
instance aoU{n:Int}:cE Tryz.prog 76 w0 L [.int .i64 n] (.int .i64 (dV n)) (True):=⟨fun aH w hw=>by
 refine cB Tryz.func76 rfl Tryz.ntmps76 rfl ?_;refine cW ?_;refine Gb (fun h0=>?_) fun h0=>?_
 ·
  refine al ?_;refine Gr fun w1 hw=>?_;exact Gf ((by rw[dV,if_neg (by rw[h0];simp)])) hw
 have hf:=sJ.1 h0;refine aM ?_;refine Gr fun w1 hw=>?_;exact⟨congrArg (fun b=>Ending.returned (Value.int .i64 b)) ((by rw[dV,if_pos h0])),ai.mem hw⟩⟩
instance aoV{x:fm}{n:Int}[hx:aU w0 L x]:cE Tryz.prog 268 w0 L [.agg (da x), .int .i64 n] (.bool (l8 (cR x) n)) (True):=⟨fun aH w hw=>by
 have hx:=hx.h w hw;have Bb:cL w x:=⟨hx⟩;refine cQ Tryz.func268 rfl Tryz.ntmps268 rfl ?_;refine Gc ?_;refine cf rfl fun b2=>av ?_;refine gJ oK oK (Gq ?_);refine sd (cj rfl trivial) (au ?_);refine fX rfl rfl rfl (fun hg=>(Ry.yl (bf (aF hg rfl)))) (IW rfl rfl rfl (fun hg=>(Ry.yl (aO (o':=0) rfl rfl))) (IW rfl rfl rfl (fun hg=>(Ry.yl (bY (aF hg rfl)))) (IW rfl rfl rfl (fun hg=>(Ry.yl (et (aF hg rfl) rfl rfl))) (fX rfl rfl rfl (fun hg=>(Ry.yl (zO (aF hg rfl) rfl (yj hg rfl)))) (ZD ?_)))));refine fX rfl rfl rfl (fun hg=>cj (eL (aF hg rfl) iV) trivial) (au ?_);refine Gr fun w1 hw=>?_;exact⟨congrArg (fun b=>Ending.returned (Value.bool b)) ((by simp only[l8,cR];rw[show decide ((x.gen.toNat:Int)<281474976710656)=decide (x.gen.toNat<281474976710656)from decide_eq_decide.2 oM];rfl)),ai.mem hw⟩⟩
instance aoW{b:Sv}{bs:List UInt8}[hb:cD w0 L aG 1 b bs]:cE Tryz.prog 267 w0 L [b.val] (.bool (j8 bs)) (True):=⟨fun aH w hw=>by
 have hb:=hb.h w hw;have rK:Gv w b aG 1 bs:=⟨hb⟩;have jH:=hb.bd;refine cB Tryz.func267 rfl Tryz.ntmps267 rfl ?_;refine cW ?_;refine bQ (X:=Nat) (fun zz=>[(7, .int .i64 (zz:Nat)),(5,b.val),(6, .int .i64 (bs.length:Nat))]) (fun zz=>[]) (fun zz=>zz<=bs.length/\ ∀j x,j<zz->bs[j]? =Option.some x->x=255) (fun zz=>bs.length -zz) 0 ⟨Nat.zero_le _,fun j x hj=>by first|omega|(simp only[];omega)⟩ sb (fun w hw=>ai.mem hw) ?_;rintro i ⟨aZ,aE⟩;refine al ?_;refine Gb (fun h0=>?_) fun h0=>?_
 ·
  refine nt ?_;obtain⟨y,hy⟩:=get_some (xs:=bs) (i:=i) oM;refine ag (aW rfl rfl i rfl oM) (ag (bE (j:=0) rfl i hy rfl (by decide)) (aM ?_));refine Gb (fun h1=>?_) fun h1=>?_
  ·
   have hz:j8 bs=false:=by
    cases hk:j8 bs with
    |false=>rfl
    |true=>exact absurd (congrArg UInt8.toNat (C2.1 hk y (anc hy))) (by intro e;exact h1 (by rw[e];rfl))
   refine al ?_;refine Gr fun w1 hw=>?_;exact Ge (hz.symm) hw
  have LF:y=255:=atT.1 (show y.toNat=255 by omega);refine al ?_;refine Gi ?_;exact bj (x:=(i)) (i+1) ⟨oF,fun j x hj hx=>if e:j=i then(by subst e;rw[hy]at hx;cases hx;exact LF)else aE j x oF hx⟩ oF sb (fun w hw=>ai.mem hw)
 obtain rfl:i=bs.length:=by omega
 have hz:j8 bs=true:=C2.2 fun x hx=>by
  obtain⟨j,hj⟩:=asM hx;exact aE j x (ad2.1 hj).1 hj
 refine al ?_;refine Gr fun w1 hw=>?_;exact⟨congrArg (fun b=>Ending.returned (Value.bool b)) (hz.symm),ai.mem hw⟩⟩
instance:eR Tryz.prog 314 (.agg (eX l5)):=⟨by kernel_rfl⟩
instance aoX{n:Int}:cE Tryz.prog 143 w0 L [.int .i64 n] (.int .i64 (kB n)) (True):=⟨fun aH w hw=>by
 have hrr:n7 n=true->24<=n/\n<=256:=fun h=>sJ.1 h;have hrb:0<=dV n/\dV n<=240:=by
  by_cases h:n7 n=true
  ·
   have:=hrr h;rw[dV,if_pos h];omega
  rw[dV,if_neg h];omega
 refine cB Tryz.func143 rfl Tryz.ntmps143 rfl ?_;refine aM ?_;refine ag (my rfl rfl oM oM) (ag (IT rfl rfl) (av ?_));refine Gr fun w1 hw=>?_;exact⟨congrArg (fun b=>Ending.returned (Value.int .i64 b)) (rfl),ai.mem hw⟩⟩
instance aoY{r:dE}{n:Int}[hr:aU w0 L r]:cE Tryz.prog 254 w0 L [.agg (eX r), .int .i64 n] (.bool (pd (dI r) n)) (True):=⟨fun aH w hw=>by
 have hr:=hr.h w hw;have ghr:cL w r:=⟨hr⟩;have jH:=hr.1.bd;refine cQ Tryz.func254 rfl Tryz.ntmps254 rfl ?_;refine Gc ?_;refine cf rfl fun b2=>av ?_;refine gJ oK oK (Gq ?_);refine sd (cj rfl trivial) (oP ?_);refine fD rfl rfl rfl (fun hg=>cj (eL (aF hg rfl) iV) trivial) (al ?_);refine Gb (fun h0=>?_) fun h0=>?_
 ·
  have hz:pd (dI r) n=false:=by
   cases hk:pd (dI r) n with
   |false=>rfl
   |true=>
    obtain⟨g1,g2,g3,g4⟩:=xk.1 hk;simp only[dI]at g2 g3;omega
  refine al ?_;refine Gr fun w1 hw=>?_;exact Ge (hz.symm) hw
 have g0:dV n≠0/\r.gen.toNat<281474976710656/\(r.at_.xs.length:Int)<=kB n:=⟨by omega,by omega,by omega⟩;refine aS ?_;refine bQ (X:=Nat) (fun zz=>[(26, .int .i64 (zz:Nat)),(24,r.at_.sv.val),(25, .int .i64 (r.at_.xs.length:Nat))]) (fun zz=>[ar b2 (eX r) 314]) (fun zz=>zz<=r.at_.xs.length/\ ∀j x,j<zz->r.at_.xs[j]? =Option.some x->yR x=true) (fun zz=>r.at_.xs.length -zz) 0 ⟨Nat.zero_le _,fun j x hj=>by first|omega|(simp only[];omega)⟩ sb (fun w hw=>ai.mem hw) ?_;rintro i ⟨aZ,aE⟩;refine al ?_;refine Gb (fun h1=>?_) fun h1=>?_
 ·
  refine nt ?_;obtain⟨y,hy⟩:=get_some (xs:=r.at_.xs) (i:=i) oM;refine ag (aW rfl rfl i rfl oM) (ag (bE (j:=0) rfl i hy rfl (by decide)) (hU ?_));refine Gb (fun h2=>?_) fun h2=>?_
  ·
   have hz:pd (dI r) n=false:=by
    cases hk:pd (dI r) n with
    |false=>rfl
    |true=>
     have g:=C3.1 ((xk.1 hk).2.2.2 y (anc hy));omega
   refine al ?_;refine Gr fun w1 hw=>?_;exact Ge (hz.symm) hw
  have LG:yR y=true:=C3.2 ⟨by omega,by omega⟩;refine al ?_;refine Gi ?_;exact bj (x:=(i)) (i+1) ⟨oF,fun j x hj hx=>if e:j=i then(by subst e;rw[hy]at hx;cases hx;exact LG)else aE j x oF hx⟩ oF sb (fun w hw=>ai.mem hw)
 obtain rfl:i=r.at_.xs.length:=by omega
 have hz:pd (dI r) n=true:=xk.2 ⟨g0.1,g0.2.1,g0.2.2,fun x hx=>by
  obtain⟨j,hj⟩:=asM hx;exact aE j x (ad2.1 hj).1 hj⟩
 refine al ?_;refine Gr fun w1 hw=>?_;exact⟨congrArg (fun b=>Ending.returned (Value.bool b)) (hz.symm),ai.mem hw⟩⟩
instance:eR Tryz.prog 63 (.agg (cw l6)):=⟨by kernel_rfl⟩
instance aoZ{c:Cp}[hc:aU w0 L c]:cE Tryz.prog 164 w0 L [.agg (aT c)] (.bool (gn (cv c))) (True):=⟨fun aH w hw=>by
 have hc:=hc.h w hw;have ln:cL w c:=⟨hc⟩;refine cB Tryz.func164 rfl Tryz.ntmps164 rfl ?_;refine Gc ?_;refine cf rfl fun b1=>ZE ?_;refine Gr fun w1 hw=>?_;exact⟨congrArg (fun b=>Ending.returned (Value.bool b)) ((by simp only[gn,cv,ia];rfl)),ai.mem hw⟩⟩
instance ao0{c:Cp}[hc:aU w0 L c]:bN Tryz.prog 165 w0 L [.agg (aT c)] (Cp) (fun zz=> .agg (aT zz)) (fun zz=>fz zz::L) (fun zz=>cv zz=cv c) (gO c):=⟨fun aH w hw=>Gk (fun zz=>[fz zz]) hw (by
 have hc:=hc.h w hw;have ln:cL w c:=⟨hc⟩;refine cB Tryz.func165 rfl Tryz.ntmps165 rfl ?_;refine Gc ?_;refine cf rfl fun b1=>bl fun b2=>au ?_;refine aX rfl (by assumption) fun x9 Ba=>Gs ?_;refine ag (aJ (v:= .agg (aT x9)) rfl rfl) (ag (aJ (v:= .int .i64 (xh (cv c) c.aV.xs)) rfl rfl) (bl fun b3=>aS ?_));refine eu (cs':=aT (⟨x9.pages,x9.size,x9.blocks,x9.ops,c.off,x9.aV⟩:Cp)) rfl rfl (by show 4<6;decide) (by first|rfl|exact Sv.one _) rfl (au ?_);refine Gr fun w1 hw=>?_;exact⟨(⟨x9.pages,x9.size,x9.blocks,x9.ops,c.off,x9.aV⟩:Cp),rfl,by
  have h9:cv (⟨x9.pages,x9.size,x9.blocks,x9.ops,c.off,x9.aV⟩:Cp)={cv x9 with off:=(cv c).off}:=rfl
  rw[h9,Ba];exact abu (cv c),by
  have h9:Mem w [fz x9] _:=ai.mem hw;exact h9⟩)⟩
instance ao1{s:Sv}{ss:List Int}[hs:cD w0 L bu 1 s ss]:bN Tryz.prog 169 w0 L [s.val] (Sv) (fun zz=>zz.val) (fun zz=>own bu 1 zz ss::L) (fun zz=>True) (ss.length<=1000000):=⟨fun aH w hw=>Gk (fun zz=>[own bu 1 zz ss]) hw (by
 have hs:=hs.h w hw;have ze:Gv w s bu 1 ss:=⟨hs⟩;refine cB Tryz.func169 rfl Tryz.ntmps169 rfl ?_;refine au ?_;refine ag (vd Tryz.underlying60 rfl) (Gc ?_);refine Gb (fun h0=>?_) fun h0=>?_
 ·
  have e0:ss=[]:=asI.1 (by have:=hs.ok.nil h0;have:=hs.len;omega);refine al ?_;refine Gr fun w1 hw=>?_;exact⟨Sv.none,rfl,trivial,by rw[e0];exact(ai.mem hw:Mem w [] _).dj bu 1⟩
 refine Gc ?_;refine wL bu fun b5=>Gs ?_;refine gS (s:=⟨false,b5,0,0,0,none⟩) (enc:=bu) (ys:=ss) rfl rfl (by decide) (fun w hw=>fY (s:=s) Tryz.underlying60 (by decide) ((inferInstance:cD _ _ bu 1 s ss).h w hw)) (by simp only[asn];omega) (by simp only[asn];omega) fun s7 zf xC=>?_;refine av ?_;refine Gr fun w1 hw=>?_;exact⟨s7,rfl,trivial,by rw[atc]at hw;exact ai.mem hw⟩)⟩
instance ao2{v:cm}[hv:aU w0 L v]:bN Tryz.prog 175 w0 L [.agg (cw v)] (Cp×Sv) (fun zz=> .agg (cw (⟨zz.1,⟨zz.2,v.at_.xs⟩,v.gen,v.last⟩:cm))) (fun zz=>fz zz.1::own bu 1 zz.2 v.at_.xs::L) (fun zz=>cv zz.1=cv v.ae) (gO v.ae/\v.at_.xs.length<=1000000):=⟨fun aH w hw=>Gk (fun zz:Cp×Sv=>[fz zz.1,own bu 1 zz.2 v.at_.xs]) hw (by
 have hv:=hv.h w hw;have Dt:cL w v:=⟨hv⟩;obtain⟨gq,gy⟩:=aH;refine cB Tryz.func175 rfl Tryz.ntmps175 rfl ?_;refine Gc ?_;refine cf rfl fun b1=>bl fun b2=>Gc ?_;refine ub [2,5,7,9,1001,1004,5002,5005] [[],[],[1],[],[],[1,2,4],[1,2,4],[1,2,4,5],[1,2,4,5,7],[1,2,4,5,7]] [0,1,3,4,2,6,5,7,8,9] [] [] oK (fun _ hw=>ai.mem hw) oK oK (an rfl (aO (o':=0) rfl rfl) (lA rfl (hK rfl) (an rfl (aO (o':=6) rfl rfl) (lA rfl (bY rfl) (PX rfl (pU rfl (by assumption) fun x5 LH=>⟨fun _ hw=>ai.mem hw,fun _ hw=>ai.mem hw,?_⟩))))));refine an rfl (aO (o':=0) rfl rfl) (PX rfl (pU rfl oM fun x8 rJ=>⟨fun _ hw=>ai.mem hw,fun _ hw=>ai.mem hw,?_⟩));refine dH rfl (PN (cs':=cw ({v with ae:=x5}:cm)) rfl rfl (by show 0+6<=9;decide) rfl ⟨fun _ hw=>ai.mem hw,?_⟩)
 refine an rfl (aO (o':=6) rfl rfl) ?_;refine dH rfl (Aw (cs':=cw (⟨x5,⟨x8,v.at_.xs⟩,v.gen,v.last⟩:cm)) rfl rfl (by show 6<9;decide) (by first|rfl|exact Sv.one _) rfl ⟨fun _ hw=>ai.mem hw,?_⟩);refine au ?_;refine Gr fun w1 hw=>?_;exact⟨(x5,x8),rfl,LH,ai.mem hw⟩)⟩
theorem adz(b:List UInt8)(w:World):(Instr.build 324 #[(0, .int .i64 ((b.getD 0 0).toNat:Int)),(1, .int .i64 ((b.getD 1 0).toNat:Int)),(2, .int .u64 ((de ((b.drop 2).take (8 -2)):Nat):Int))]).run Tryz.prog w= .ok (.agg (da (vD b))) w:=by
 rw[←Rd];unfold da vD;generalize UInt64.ofNat (de ((b.drop 2).take (8 -2)))=g;kernel_rfl
instance ao3{b:Sv}{bs:List UInt8}[hb:cD w0 L aG 1 b bs]:bN Tryz.prog 227 w0 L [b.val] (fm) (fun zz=> .tuple #[.agg (da zz), .int .i64 ((cI bs).2)]) (fun zz=>own aG 1 zz.body.sv zz.body.xs::L) (fun zz=>cR zz=(cI bs).1) (True):=⟨fun aH w hw=>Gk (fun zz:fm=>[own aG 1 zz.body.sv zz.body.xs]) hw (by
 have hb:=hb.h w hw;have rK:Gv w b aG 1 bs:=⟨hb⟩;have jH:=hb.bd;have ghd:cL w (vD bs):=⟨⟨dZ.nil _ _ _,fun x hx=>by cases hx⟩⟩;have hml:=Rc bs;have zh:=Ky bs;have oH:=AA (mc bs);have dK:=abo bs;refine cB Tryz.func227 rfl Tryz.ntmps227 rfl ?_;refine Gc ?_;refine bl fun b2=>cW ?_;refine Gb (fun h0=>?_) fun h0=>?_
 ·
  have hE:cI bs=(j7,3):=by rw[cI,if_pos h0]
  refine Gc ?_;refine ag (dm (v:= .agg (da o8)) rfl (fun w=>by kernel_rfl)) (al ?_);refine Gr fun w1 hw=>?_;exact⟨o8,by rw[hE],by rw[hE];rfl,Mem.dj aG 1 (ai.mem hw:Mem w [] _)⟩
 have hft:=sJ.1 h0;have Du:dV bs.length=bs.length -16:=by rw[dV,if_pos h0]
 refine au ?_;refine Gb (fun h1=>?_) fun h1=>?_
 ·
  have hE:cI bs=(j7,0):=by rw[cI,if_neg (by rw[h0];simp),if_pos h1]
  refine Gc ?_;refine ag (dm (v:= .agg (da o8)) rfl (fun w=>by kernel_rfl)) (al ?_);refine Gr fun w1 hw=>?_;exact⟨o8,by rw[hE],by rw[hE];rfl,Mem.dj aG 1 (ai.mem hw:Mem w [] _)⟩
 refine Gc ?_;refine gJ oK oK (au ?_);have Hb:Rg 0 (bs.length -4) bs.length:=⟨by omega⟩;refine bC (Cs rfl rfl (bs.length -4) oM Hb.h.2) (au ?_);have Hc:Rg (bs.length -4) bs.length bs.length:=⟨by omega⟩;refine bC (vc rfl rfl (bs.length -4) oM Hc.h.1) (au ?_);refine eS (cj (v:= .int .u64 ((de (yQ bs):Nat):Int)) rfl (by rw[asq,ass];omega)) (Gs ?_);refine eS (cj (v:= .int .u32 ((kz (mc bs):Nat):Int)) rfl trivial) (ag (gH rfl (by simp only[nb];omega)) (av ?_));refine Gb (fun h2=>?_) fun h2=>?_
 ·
  have hE:cI bs=(j7,4):=by rw[cI,if_neg (by rw[h0];simp),if_neg (by rw[h1];simp),if_pos (fun e=>h2 (by rw[e]))]
  refine Gc ?_;refine ag (dm (v:= .agg (da o8)) rfl (fun w=>by kernel_rfl)) (al ?_);refine Gr fun w1 hw=>?_;exact⟨o8,by rw[hE],by rw[hE];rfl,Mem.dj aG 1 (ai.mem hw:Mem w [] _)⟩
 have ri: ¬de (yQ bs)≠kz (mc bs):=fun e=>e oM;refine Gc ?_;refine iY [12,13] [[],[],[],[],[],[],[],[],[],[],[],[],[],[12]] [0,1,2,3,4,5,6,7,8,9,10,11,12,13] [] (fun _ hw=>ai.mem hw) oK oK (an rfl (bf rfl) (an rfl (aW rfl rfl 0 rfl oM) (an rfl (bE (j:=0) rfl 0 (nP (xs:=bs) (i:=0) (d:=0) oM) rfl (by decide)) (an rfl (wK rfl) (an rfl (bf rfl) (an rfl (aW rfl rfl 1 rfl oM) (an rfl (bE (j:=0) rfl 1 (nP (xs:=bs) (i:=1) (d:=0) oM) rfl (by decide)) (an rfl (wK rfl) (an rfl (bf rfl) ?_)))))))));have Te:Rg 2 8 bs.length:=⟨by omega⟩;refine an rfl (vb rfl rfl rfl 2 8 rfl rfl Te.h.1 Te.h.2) (wX rfl (cj rfl (by simp;omega)) (an rfl (dm (v:= .agg (da (vD bs))) rfl (adz bs)) (dH rfl (PM fun b6=>⟨fun _ hw=>ai.mem hw,?_⟩))));refine dH rfl (pV rfl rfl ⟨fun _ hw=>ai.mem hw,?_⟩);refine av ?_;have Tf:Rg 8 10 bs.length:=⟨by omega⟩;refine ag (vb rfl rfl rfl 8 10 rfl rfl Tf.h.1 Tf.h.2) (eS (cj (v:= .int .u64 ((iB bs:Nat):Int)) rfl (by rw[asq];omega)) (ag (gH rfl (by simp only[nb];omega)) (eI ?_)));refine bI rfl rfl rfl (fun hg=>(Ry.yl (jY rfl))) (av ?_);refine bI rfl rfl rfl (fun hg=>cj (eL (aF hg rfl) (eL (aF hg rfl) iV)) trivial) (bI rfl rfl rfl (fun hg=>(Ry.yl (ng (aF hg rfl)))) (av ?_));refine Gb (fun h3=>?_) fun h3=>?_
 ·
  have k8:pc bs=false:=by
   rw[Kz]at h3
   cases hk:pc bs with
   |false=>rfl
   |true=>
    simp only[pc,alM,decide_eq_true_eq]at hk;rw[hk.2]at h3;simp only[aue,or_false]at h3;omega
  have hE:cI bs=(j7,2):=by rw[cI,if_neg (by rw[h0];simp),if_neg (by rw[h1];simp),if_neg ri,if_pos k8]
  refine Gc ?_;refine ag (dm (v:= .agg (da o8)) rfl (fun w=>by kernel_rfl)) (al ?_);refine Gr fun w1 hw=>?_;exact⟨o8,by rw[hE],by rw[hE];rfl,Mem.dj aG 1 (ai.mem hw:Mem w [] _)⟩
 have k8:pc bs=true:=by
  rw[Kz]at h3;simp only[pc,alM,decide_eq_true_eq];exact⟨by omega,h3.2⟩
 have hmr:(iB bs:Int)<=dV bs.length:=by simp only[pc,alM,decide_eq_true_eq]at k8;exact k8.1
 have xE:(n8 bs).length=(mc bs).length -(10+iB bs):=by rw[n8,asq,ass];omega
 have gr:Gv w ((b.sub 1 0 (bs.length -4)).sub 1 (10+iB bs) (mc bs).length) aG 1 (n8 bs):=⟨(hb.sub (lo:=0) (hi:=bs.length -4) oM oM).sub (lo:=10+iB bs) (hi:=(mc bs).length) oM (asu _)⟩;refine au ?_;have adA:Rg (10+iB bs) ((mc bs).length) (mc bs).length:=⟨by omega⟩;refine ag (vc rfl rfl (10+iB bs) rfl adA.h.1) (al ?_);refine bQ (X:=Nat) (fun zz=>[(69, .int .i64 (zz:Nat)),(0,b.val),(2, .pointer (some ⟨b2,0,none⟩)),(6, .pointer (some ⟨b6,0,none⟩)),(7, .int .i64 (iB bs:Nat)),(67,((b.sub 1 0 (bs.length -4)).sub 1 (10+iB bs) (mc bs).length).val),(68, .int .i64 ((n8 bs).length:Nat))]) (fun zz=>[ar b6 (da (vD bs)) 324,ar b2 (da o8) 324]) (fun zz=>zz<=(n8 bs).length/\ ∀j x,j<zz->(n8 bs)[j]? =Option.some x->x=0) (fun zz=>(n8 bs).length -zz) 0 ⟨Nat.zero_le _,fun j x hj=>by first|omega|(simp only[];omega)⟩ sb (fun w hw=>ai.mem hw) ?_;rintro i ⟨aZ,aE⟩;refine al ?_;refine Gb (fun h4=>?_) fun h4=>?_
 ·
  refine nt ?_;obtain⟨y,hy⟩:=get_some (xs:=(n8 bs)) (i:=i) oM;refine ag (aW rfl rfl i rfl oM) (ag (bE (j:=0) rfl i hy rfl (by decide)) (aM ?_));refine Gb (fun h5=>?_) fun h5=>?_
  ·
   have vP:xj (n8 bs)=false:=by
    cases hk:xj (n8 bs)with
    |false=>rfl
    |true=>exact absurd (congrArg UInt8.toNat (Kx.1 hk y (anc hy))) (by intro e;exact h5 (by rw[e];rfl))
   have hE:cI bs=(j7,2):=by rw[cI,if_neg (by rw[h0];simp),if_neg (by rw[h1];simp),if_neg ri,if_neg (by rw[k8];simp),if_pos vP]
   refine Gc ?_;refine ag (dm (v:= .agg (da o8)) rfl (fun w=>by kernel_rfl)) (al ?_);refine Gr fun w1 hw=>?_;exact⟨o8,by rw[hE],by rw[hE];rfl,Mem.dj aG 1 (ai.mem hw:Mem w [] _)⟩
  have LF:y=0:=atT.1 (show y.toNat=0 by omega);refine al ?_;refine Gi ?_;exact bj (x:=(i)) (i+1) ⟨oF,fun j x hj hx=>if e:j=i then(by subst e;rw[hy]at hx;cases hx;exact LF)else aE j x oF hx⟩ oF sb (fun w hw=>ai.mem hw)
 obtain rfl:i=(n8 bs).length:=by omega
 have vP:xj (n8 bs)=true:=Kx.2 fun x hx=>by
  obtain⟨j,hj⟩:=asM hx;exact aE j x (ad2.1 hj).1 hj
 have hE:cI bs=({vC bs with body:=((bs.drop 10).take (10+iB bs -10))},0):=by rw[cI,if_neg (by rw[h0];simp),if_neg (by rw[h1];simp),if_neg ri,if_neg (by rw[k8];simp),if_neg (by rw[vP];simp)]
 refine au ?_;refine Gb (fun h6=>?_) fun h6=>?_
 ·
  refine Gi ?_;refine al ?_;have Tg:Rg 10 (10+iB bs) bs.length:=⟨by omega⟩;refine ag (vb rfl rfl rfl 10 (10+iB bs) rfl rfl Tg.h.1 Tg.h.2) (aX rfl (by simp only[asq,ass];omega) fun LK ao4=>Gs ?_);refine eu (cs':=da (⟨((bs.getD 0 0).toNat:Int),((bs.getD 1 0).toNat:Int),(UInt64.ofNat (de ((bs.drop 2).take (8 -2)))),⟨LK,((bs.drop 10).take ((10+iB bs) -10))⟩⟩:fm)) rfl rfl (by show 3<4;decide) (by first|rfl|exact Sv.one _) rfl (aM ?_);refine Gr fun w1 hw=>?_;exact⟨⟨((bs.getD 0 0).toNat:Int),((bs.getD 1 0).toNat:Int),UInt64.ofNat (de ((bs.drop 2).take (8 -2))),⟨LK,((bs.drop 10).take (10+iB bs -10))⟩⟩,by rw[hE],by rw[hE];exact Re bs LK ((bs.drop 10).take (10+iB bs -10)),ai.mem hw⟩
 have oq:iB bs=0:=by omega
 refine aM ?_;refine Gr fun w1 hw=>?_;exact⟨vD bs,by rw[hE],by rw[hE,Kz,oq];simp[vC],Mem.dj aG 1 (ai.mem hw:Mem w [] _)⟩)⟩
instance ao5{c:Cp}{id:Int}{n:Int}[hc:aU w0 L c]:cE Tryz.prog 303 w0 L [.agg (aT c), .int .i64 id, .int .i64 n] (.bool (n9 (cv c) id n)) (ba (cv c)=true/\1<=n/\n<=1000000):=⟨fun aH w hw=>by
 have hc:=hc.h w hw;have ln:cL w c:=⟨hc⟩;obtain⟨hk,zj,uA⟩:=aH;have dW:=ia c.blocks.xs;have iO:=lX.1 (fF.1 hk).1;simp only[cv,dW]at iO;have Dv:0<=((n -1)/c.pages):=auu oM oM;have IJ:((n -1)/c.pages)<=n -1:=Int.ediv_le_self _ oM;have oq:0<=((n -1)%c.pages):=auw _ oM;have qe:((n -1)%c.pages)<c.pages:=auE _ oM;have pt:=yP (c:=c) (b:=((n -1)/c.pages));have LL:(c.blocks.xs.getD ((n -1)/c.pages).toNat qF).used=(ak (cv c) ((n -1)/c.pages)).used:=congrArg BV.used pt;refine vn Tryz.func303 rfl Tryz.ntmps303 rfl ?_;refine Gc ?_;refine cf rfl fun b3=>av ?_;refine gJ oK oK (au ?_);refine bC (my rfl rfl oM oM) (au ?_);refine bC (zV rfl rfl oM oM) (P0 ?_);refine bI rfl rfl rfl (fun hg=>(Ry.yl (aW (aF hg rfl) (aF hg rfl) (((n -1)/c.pages).toNat) (by simp only[Z0,Z1,Z2,Z3,Z4,Z5,Z6,Z7,Z8,Z9]at hg;omega) (by simp only[Z0,Z1,Z2,Z3,Z4,Z5,Z6,Z7,Z8,Z9]at hg;omega)))) (bI rfl rfl rfl (fun hg=>(Ry.yl (aO (aF hg rfl) rfl))) (bI rfl rfl rfl (fun hg=>(Ry.yl (bE (j:=1) (aF hg rfl) (((n -1)/c.pages).toNat) (nP (xs:=c.blocks.xs) (i:=((n -1)/c.pages).toNat) (d:=qF) (by simp only[Z0,Z1,Z2,Z3,Z4,Z5,Z6,Z7,Z8,Z9]at hg;omega)) rfl (by decide)))) (al ?_)));refine Gb (fun h0=>?_) fun h0=>?_
 ·
  have hz:n9 (cv c) id n=false:=by
   cases uB:kV (cv c) (n -1)with
   |false=>rw[n9,uB];rfl
   |true=>
    obtain⟨g1,g2,g3⟩:=mF.1 uB;change 2<=((n -1)/c.pages)at g1;change((n -1)/c.pages)<((jh c.blocks.xs).length:Int)at g2;change((n -1)%c.pages)<(ak (cv c) ((n -1)/c.pages)).used at g3;rw[dW]at g2;omega
  refine al ?_;refine Gr fun w1 hw=>?_;exact Ge (hz.symm) hw
 have bW:kV (cv c) (n -1)=true:=mF.2 ⟨show 2<=((n -1)/c.pages) by omega,by simp only[cv,dW];omega,show((n -1)%c.pages)<(ak (cv c) ((n -1)/c.pages)).used by omega⟩;obtain⟨B,hB⟩:=get_some (xs:=c.blocks.xs) (i:=((n -1)/c.pages).toNat) oM;have ta:Mb B c.blocks:=⟨List.mem_of_getElem? hB⟩;have ff:bv B=ak (cv c) ((n -1)/c.pages):=by rw[←pt];simp[List.getD,hB]
 have gC:=fk.1 ((fF.1 hk).2.2.2.2 (bv B) (anc (nw hB)));have jl:=oU B.pages.xs;have Dw:(B.pages.xs.length:Int)=c.pages:=by have:=gC.1;simp only[bv,cv,jl]at this;exact this
 obtain⟨y,hy⟩:=get_some (xs:=B.pages.xs) (i:=((n -1)%c.pages).toNat) oM;have Dx:Mb y B.pages:=⟨List.mem_of_getElem? hy⟩;have qN:bL (cv c) (n -1)=y.xs:=by
  show(ak (cv c) ((n -1)/c.pages)).pages.getD ((n -1)%c.pages).toNat []=y.xs;rw[←ff];simp[bv,List.getD,qG hy]
 refine au ?_;refine ag (aW rfl rfl (((n -1)/c.pages).toNat) oM oM) (ag (aO rfl rfl) (ag (bE (j:=0) rfl (((n -1)/c.pages).toNat) hB rfl (by decide)) ?_));have adB:Mb B _:=⟨List.mem_of_getElem? hB⟩;refine Gs ?_;refine ag (aW rfl rfl (((n -1)%c.pages).toNat) oM oM) (ag (bE (j:=0) rfl (((n -1)%c.pages).toNat) hy rfl (by decide)) ?_);have ao6:Mb y _:=⟨List.mem_of_getElem? hy⟩;refine aX rfl trivial fun qf zk=>?_;have e1:qf.kind=(cI y.xs).1.kind:=congrArg PV.kind zk;have e2:qf.id=(cI y.xs).1.id:=congrArg PV.id zk;refine Gs ?_;refine ag (aJ (v:= .agg (da qf)) rfl rfl) (ag (aJ (v:= .int .i64 ((cI y.xs).2)) rfl rfl) (bl fun b9=>P1 ?_));refine Gr fun w1 hw=>?_;exact⟨congrArg (fun b=>Ending.returned (Value.bool b)) ((by rw[n9,bW,qN,Gp,←e1,←e2];rfl)),ai.mem hw⟩⟩
def ot(n:Int):Value:= .int .i64 n
def qQ(_:Unit):Value:= .agg #[]
instance:Dl ot:=⟨fun h=>by simpa[ot]using h⟩
instance:Dk Tryz.prog 3:=⟨Maps.int_keyed Tryz.underlying3⟩
instance:A7 Tryz.prog 318 3 319:=⟨Tryz.underlying318⟩
instance:eR Tryz.prog 319 (.agg #[]):=⟨by kernel_rfl⟩
instance:fW (#[]:Array Value) 0:=⟨rfl,by simp⟩
theorem LM{n:Int}(h: -9223372036854775808<=n/\n<=9223372036854775807): ∃l,keyOf Tryz.prog 3 (ot n)=some l:=⟨_,Maps.keyOf_int_mk Tryz.underlying3 (by simp[Lit.wf,IntKind.min,IntKind.max,IntKind.signed,IntKind.bits];omega)⟩
instance ao7{c:Cp}{t:Sv}{ts:List Int}[hc:aU w0 L c][ht:cD w0 L bu 1 t ts]:cE Tryz.prog 259 w0 L [.agg (aT c),t.val] (.bool (vF (cv c) ts)) (ba (cv c)=true/\ ∀x∈ts,0<=x/\x<=65535):=⟨fun aH w hw=>by
 have hc:=hc.h w hw;have ht:=ht.h w hw;have ln:cL w c:=⟨hc⟩;have rL:Gv w t bu 1 ts:=⟨ht⟩;obtain⟨hk,pv⟩:=aH;have jH:=ht.bd;refine cQ Tryz.func259 rfl Tryz.ntmps259 rfl ?_;refine Gc ?_;refine cf rfl fun b2=>au ?_;refine adl ot qQ rfl fun xI=>aS ?_;refine bQ (X:=Nat) (fun zz=>[(15, .int .i64 (zz:Nat)),(5, .map (some xI)),(2, .pointer (some ⟨b2,0,none⟩)),(13,t.val),(14, .int .i64 (ts.length:Nat))]) (fun zz=>[omap Tryz.prog 3 ot qQ xI (kC ts zz),ar b2 (aT c) 59]) (fun zz=>zz<=ts.length/\ ∀j,j<zz->rz (cv c) ts j=true) (fun zz=>ts.length -zz) 0 ⟨Nat.zero_le _,fun j hj=>by first|omega|(simp only[];omega)⟩ sb (fun w hw=>by
  rw[←Ri];exact ai.mem hw) ?_
 rintro i ⟨aZ,aE⟩;refine al ?_;refine Gb (fun h0=>?_) fun h0=>?_
 ·
  obtain⟨y,hy⟩:=get_some (xs:=ts) (i:=i) oM;have hyr:=pv y (anc hy);have mQ:=p6 hy;have xJ:=LM (n:=y) oM;refine av ?_;refine ag (aW rfl rfl i rfl oM) (ag (bE (j:=0) rfl i hy rfl (by decide)) (aS ?_));refine Gb (fun h1=>?_) fun h1=>?_
  ·
   subst h1;have bB:rz (cv c) ts i=true:=by rw[rz,mQ];rfl
   refine al ?_;refine Gi ?_;exact bj (x:=(i)) (i+1) ⟨oF,fun j hj=>if e:j=i then e▸bB else aE j oF⟩ oF sb (fun w hw=>by
    rw[Rj hy];exact ai.mem hw)
  refine al ?_;refine ag (Lu (dq:=ot) (eP:=qQ) (f:=kC ts i) (v:=y) (z:=()) rfl rfl xJ) (Gs ?_);refine ag (aJ (v:= .agg #[]) rfl rfl) (ag (aJ (v:= .bool ((kC ts i y).isSome)) rfl rfl) (bl fun b8=>aM ?_));refine bI rfl rfl rfl (fun hg=>(Ry.yl (jY rfl))) (av ?_);refine bI rfl rfl rfl (fun hg=>cj (eL (aF hg rfl) (eL (aF hg rfl) (eL (aF hg rfl) iV))) ⟨hk,by omega,by omega⟩) (bI rfl rfl rfl (fun hg=>(Ry.yl (ng (aF hg rfl)))) (av ?_));refine Gb (fun h2=>?_) fun h2=>?_
  ·
   have hz:vF (cv c) ts=false:=by
    cases uB:vF (cv c) ts with
    |false=>rfl
    |true=>
     have g:=C4.1 uB i oM;rw[rz,mQ]at g;rw[C5]at h2;simp only[atF,alM,decide_eq_true_eq,att,avg,decide_eq_false_iff_not]at g h2;rcases g with g|g
     ·
      exact absurd g h1
     rcases h2 with h2|h2
     ·
      exact absurd h2.2 g.1
     rw[g.2]at h2;cases h2
   refine al ?_;refine Gr fun w1 hw=>?_;exact Ge (hz.symm) hw
  have bB:rz (cv c) ts i=true:=by
   rw[C5]at h2;rw[rz,mQ];simp only[atF,alM,decide_eq_true_eq,att,avg,decide_eq_false_iff_not]at h2⊢;exact .inr ⟨fun hm=>h2.1 ⟨h1,hm⟩,h2.2⟩
  have fo:=Rk hy h1;refine al ?_;refine ag (dm (v:= .agg #[]) rfl (fun w=>by kernel_rfl)) (Lw (dq:=ot) (eP:=qQ) (v:=y) (u:=()) rfl rfl rfl xJ (al ?_));refine Gi ?_;exact bj (x:=(i)) (i+1) ⟨oF,fun j hj=>if e:j=i then e▸bB else aE j oF⟩ oF sb (fun w hw=>by
   rw[←fo];exact ai.mem hw)
 obtain rfl:i=ts.length:=by omega
 have hz:vF (cv c) ts=true:=C4.2 fun j hj=>aE j hj;refine al ?_;refine Gr fun w1 hw=>?_;exact⟨congrArg (fun b=>Ending.returned (Value.bool b)) (hz.symm),ai.mem hw⟩⟩
instance:eR Tryz.prog 402 (.agg (bJ eA)):=⟨by kernel_rfl⟩
theorem adC(u v:Int)(b:Bool)(w:World):(Instr.build 402 #[(1, .int .i64 u),(2, .int .i64 v),(3, .bool b)]).run Tryz.prog w= .ok (.agg (bJ ⟨0,u,v,b⟩)) w:=by
 unfold bJ;kernel_rfl
instance ao8{c:Cp}{l:Sl (Sl Int)}[hc:aU w0 L c][hl:aU w0 L l]:bN Tryz.prog 326 w0 L [.agg (aT c),l.sv.val] (Sv) (fun zz=>zz.val) (fun zz=>own bJ 4 zz (jj (cv c) (az l.xs))::L) (fun zz=>True) (xm (cv c) (az l.xs)):=⟨fun aH w hw=>Gk (fun zz=>[own bJ 4 zz (jj (cv c) (az l.xs))]) hw (by
 have hc:=hc.h w hw;have hl:=hl.h w hw;have ln:cL w c:=⟨hc⟩;have pw:cL w l:=⟨hl⟩;obtain⟨⟨hk,oY⟩,oc,iT⟩:=aH;have jH:=hl.1.bd;have dW:=ia c.blocks.xs;have pq:(cv c).blocks.length=c.blocks.xs.length:=dW;have iO:=lX.1 (fF.1 hk).1;simp only[cv,dW]at iO;have nW:=AP (cv c) (az l.xs);rw[pq]at nW;have xE:(List.replicate (c.blocks.xs.length -2) eA).length=c.blocks.xs.length -2:=List.length_replicate;refine cQ Tryz.func326 rfl Tryz.ntmps326 rfl ?_;refine Gc ?_;refine cf rfl fun b2=>aS ?_;refine sg (enc:=bJ) (n:=(c.blocks.xs.length -2)) (cap:=(c.blocks.xs.length -2)) eA rfl rfl rfl oM oM oM oM oM fun lN=>aS ?_;refine bQ (X:=Nat×List aA) (fun zz=>[(22, .int .i64 (zz.1:Nat)),(5,(⟨false,lN,0,c.blocks.xs.length -2,c.blocks.xs.length -2,none⟩:Sv).val),(1,l.sv.val),(2, .pointer (some ⟨b2,0,none⟩)),(21, .int .i64 ((List.replicate (c.blocks.xs.length -2) eA).length:Nat))]) (fun zz=>[own bJ 4 ⟨false,lN,0,c.blocks.xs.length -2,c.blocks.xs.length -2,none⟩ zz.2,ar b2 (aT c) 59]) (fun zz=>zz.1<=c.blocks.xs.length -2/\zz.2.length=c.blocks.xs.length -2/\zz.2.take zz.1=(ka (cv c) (az l.xs) 0).take zz.1) (fun zz=>c.blocks.xs.length -2 -zz.1) (0,List.replicate (c.blocks.xs.length -2) eA) ⟨Nat.zero_le _,by simp,by simp⟩ sb (fun w hw=>ai.mem hw) ?_;rintro⟨i,zs⟩ ⟨aZ,aE,bo⟩;dsimp only;simp only at aZ aE bo;refine al ?_;refine Gb (fun h0=>?_) fun h0=>?_
 ·
  obtain⟨B,hB⟩:=get_some (xs:=c.blocks.xs) (i:=i+2) oM;have ta:Mb B c.blocks:=⟨List.mem_of_getElem? hB⟩;obtain⟨z,hz⟩:=get_some (xs:=zs) (i:=i) oM;have Az:(zs.set i (⟨0,B.used,B.aR,B.bad⟩:aA)).take (i+1)=(ka (cv c) (az l.xs) 0).take (i+1):=by
   have e1:=Gj (f:=id) (z':=(⟨0,B.used,B.aR,B.bad⟩:aA)) hz;simp only[List.map_id]at e1;rw[e1,bo,asC,abF,asB,atQ oM,as7,show ak (cv c) ((i:Int)+2)=bv B from KE (i:=i+2) hB];rfl
  refine eI ?_;refine ag (aW rfl rfl (i+2) rfl oM) (ag (iF rfl (i+2) hB rfl) ?_);have LC:Mb B c.blocks:=⟨List.mem_of_getElem? hB⟩;refine bl fun b7=>sF ?_;refine ag (dm (v:= .agg (bJ (⟨0,B.used,B.aR,B.bad⟩:aA))) rfl (adC B.used B.aR B.bad)) (ag (aW rfl rfl i rfl oM) (ku (s:=⟨false,lN,0,c.blocks.xs.length -2,c.blocks.xs.length -2,none⟩) (n:=4) (k:=i) (j:=0) (a:=z) (a':=(⟨0,B.used,B.aR,B.bad⟩:aA)) (xs:=zs) (enc:=bJ) (c:=4) (v:= .agg (bJ (⟨0,B.used,B.aR,B.bad⟩:aA))) oK rfl rfl rfl hz (bm.one (enc:=bJ) (c:=4) _) rfl (by decide) (by rfl) (al ?_)));refine Gi ?_;exact bj (x:=(i,zs)) (i+1,zs.set i (⟨0,B.used,B.aR,B.bad⟩:aA)) ⟨oF,by rw[as1];exact aE,Az⟩ (by simp only;omega) sb (fun w hw=>ai.mem hw)
 obtain rfl:i=zs.length:=by omega
 rw[asP,asy (by rw[nW];omega)]at bo;subst bo;refine Gc ?_;refine Ta ot qQ fun He=>aS ?_;refine bQ (X:=Nat) (fun zz=>[(45, .int .i64 (zz:Nat)),(5,(⟨false,lN,0,c.blocks.xs.length -2,c.blocks.xs.length -2,none⟩:Sv).val),(8, .map (some He)),(2, .pointer (some ⟨b2,0,none⟩)),(43,l.sv.val),(44, .int .i64 (l.xs.length:Nat))]) (fun zz=>[omap Tryz.prog 3 ot qQ He (kC (az l.xs) (az (l.xs.take zz)).length),own bJ 4 ⟨false,lN,0,c.blocks.xs.length -2,c.blocks.xs.length -2,none⟩ (ka (cv c) (az l.xs) (az (l.xs.take zz)).length),ar b2 (aT c) 59]) (fun zz=>zz<=l.xs.length) (fun zz=>l.xs.length -zz) 0 (asO _) sb (fun w hw=>by
  have e0:(az (l.xs.take 0)).length=0:=by simp[az]
  simp only[e0];rw[←Ri];exact ai.mem hw) ?_
 rintro a ha1;refine al ?_;refine Gb (fun h1=>?_) fun h1=>?_
 ·
  obtain⟨x,hx⟩:=get_some (xs:=l.xs) (i:=a) oM;have Th:Mb x l:=⟨List.mem_of_getElem? hx⟩;have eH:=(hl.2 x Th.h).1.bd;refine Gc ?_;refine ag (aW rfl rfl a rfl oM) (ag (bE (j:=0) rfl a hx rfl (by decide)) ?_);have ao9:Mb x _:=⟨List.mem_of_getElem? hx⟩;refine aS ?_;refine bQ (X:=Nat) (fun zz=>[(51, .int .i64 (zz:Nat)),(5,(⟨false,lN,0,c.blocks.xs.length -2,c.blocks.xs.length -2,none⟩:Sv).val),(8, .map (some He)),(2, .pointer (some ⟨b2,0,none⟩)),(43,l.sv.val),(44, .int .i64 (l.xs.length:Nat)),(45, .int .i64 (a:Nat)),(49,x.sv.val),(50, .int .i64 (x.xs.length:Nat))]) (fun zz=>[omap Tryz.prog 3 ot qQ He (kC (az l.xs) ((az (l.xs.take a)).length+zz)),own bJ 4 ⟨false,lN,0,c.blocks.xs.length -2,c.blocks.xs.length -2,none⟩ (ka (cv c) (az l.xs) ((az (l.xs.take a)).length+zz)),ar b2 (aT c) 59]) (fun zz=>zz<=x.xs.length) (fun zz=>x.xs.length -zz) 0 (asO _) sb (fun w hw=>ai.mem hw) ?_;rintro j ja;refine al ?_;refine Gb (fun h2=>?_) fun h2=>?_
  ·
   obtain⟨y,hy⟩:=get_some (xs:=x.xs) (i:=j) oM;have Bc:=abE hx hy;have Hf:=iT y (anc Bc);have mQ:=p6 Bc;have xJ:=LM (n:=y) oM;refine Gc ?_;refine ag (aW rfl rfl j rfl oM) (ag (bE (j:=0) rfl j hy rfl (by decide)) (au ?_));refine ag (Lu (dq:=ot) (eP:=qQ) (f:=kC (az l.xs) ((az (l.xs.take a)).length+j)) (v:=y) (z:=()) rfl rfl xJ) (Gs ?_);refine ag (aJ (v:= .agg #[]) rfl rfl) (ag (aJ (v:= .bool ((kC (az l.xs) ((az (l.xs.take a)).length+j) y).isSome)) rfl rfl) (bl fun kh=>hU ?_));refine Gb (fun h3=>?_) fun h3=>?_
   ·
    have uC:ny (az l.xs) ((az (l.xs.take a)).length+j)=false:=by
     rw[ny,mQ];rw[C5]at h3;rcases h3 with h|h
     ·
      simp[h]
     simp only[decide_eq_true_eq]at h;simp[h.2]
    have hsk:kC (az l.xs) (((az (l.xs.take a)).length+j)+1)=kC (az l.xs) ((az (l.xs.take a)).length+j):=by
     rw[C5]at h3;rcases h3 with h|h
     ·
      exact Rj (h▸Bc)
     exact abC Bc (by simpa using h)
    refine al ?_;refine Gi ?_;exact bj (x:=(j)) (j+1) oF oF sb (fun w hw=>by
     rw[←atN,hsk,abB uC];exact ai.mem hw)
   have mB:y≠0:=h3.1;obtain⟨b1,b2,b3,b4⟩:=Hf.resolve_left mB;change 2<=((y -1)/c.pages)at b3;change((y -1)/c.pages)<((jh c.blocks.xs).length:Int)at b4;rw[dW]at b4;have uC:ny (az l.xs) ((az (l.xs.take a)).length+j)=true:=by
    rw[ny,mQ];have h9:=h3.2;rw[C5]at h9;simp only[decide_eq_false_iff_not]at h9;simp only[alM,decide_eq_true_eq,att,avg,decide_eq_false_iff_not];exact⟨mB,fun hm=>h9 ⟨mB,hm⟩⟩
   have fo:=Rk Bc mB;have nT:=AP (cv c) (az l.xs) ((az (l.xs.take a)).length+j);rw[pq]at nT;obtain⟨z,hz⟩:=get_some (xs:=ka (cv c) (az l.xs) ((az (l.xs.take a)).length+j)) (i:=(((y -1)/c.pages) -2).toNat) oM;have qR:=abD uC (i:=(((y -1)/c.pages) -2).toNat) (by rw[mQ];show((y -1)/c.pages)=_;omega) hz;have qP:=abG hz;have bW:=(ad2.1 Bc).1;refine al ?_;refine ag (dm (v:= .agg #[]) rfl (fun w=>by kernel_rfl)) (Lw (dq:=ot) (eP:=qQ) (v:=y) (u:=()) rfl rfl rfl xJ (aS ?_));refine ag (my rfl rfl oM oM) (Gs ?_);refine ag (aW rfl rfl ((((y -1)/c.pages) -2).toNat) oM oM) (ag (aO rfl rfl) (ag (bE (j:=0) rfl ((((y -1)/c.pages) -2).toNat) hz rfl (by decide)) (Gs ?_)));refine ag (aW rfl rfl ((((y -1)/c.pages) -2).toNat) oM oM) (ag (aO rfl rfl) (ku (s:=⟨false,lN,0,c.blocks.xs.length -2,c.blocks.xs.length -2,none⟩) (n:=1) (k:=(((y -1)/c.pages) -2).toNat) (j:=0) (a:=z) (a':={z with live:=z.live+1}) (xs:=(ka (cv c) (az l.xs) ((az (l.xs.take a)).length+j))) (enc:=bJ) (c:=4) (v:= .int .i64 (z.live+1)) oK rfl rfl rfl hz (by simp[Value.cells,Value.oneCell']) (by rfl) (by decide) (by rfl) (al ?_)))
   refine Gi ?_;exact bj (x:=(j)) (j+1) oF oF sb (fun w hw=>by
    rw[←atN,←fo,qR];exact ai.mem hw)
  obtain rfl:j=x.xs.length:=by omega
  refine al ?_;refine Gi ?_;exact bj (x:=(a)) (a+1) oF oF sb (fun w hw=>by
   rw[Rv hx,af0];exact ai.mem hw)
 obtain rfl:a=l.xs.length:=by omega
 rw[asP];refine au ?_;refine Gr fun w1 hw=>?_;exact⟨⟨false,lN,0,c.blocks.xs.length -2,c.blocks.xs.length -2,none⟩,rfl,trivial,by rw[jj];exact ai.mem hw⟩)⟩
end Go.Proofs.YtkggjjnhnjjokaaGreatDoor
namespace Go.ax
open Go.RowKit
section
variable {P:Program} {N:ct} {w0:World} {env:Env} {L:List aj} {d:Option Tmp} {ty:TypeId} {ps:String} {af:Array Edge} {gd:Option (Nat×Bool)}
class mR(w0:World)(L:List aj)(b:Nat)(cs:outParam (Array Value))(T:outParam TypeId):Prop where
 h: ∀w,Mem w0 L w->w.heap[b]? =some (.cells cs T (0,0))
class rM(w0:World)(b:Nat)(cs:outParam (Array Value))(T:outParam TypeId):Prop where
 h:w0.heap[b]? =some (.cells cs T (0,0))
instance (priority:=high) mR.has {b i:Nat}{cs:Array Value}{T:TypeId}[q:Has L b cs T i]:mR w0 L b cs T:=⟨fun w hw=>hw.block q.h⟩
instance mR.Bd{b:Nat}{cs:Array Value}{T:TypeId}[q:rM w0 b cs T]:mR w0 L b cs T:=⟨fun w hw=>by
 have bc:b<w0.heap.size:=by
  rcases asx b w0.heap.size with h|h
  ·
   exact h
  have:=q.h;simp[at1 h]at this
 rw[hw.below.block b bc];exact q.h⟩
theorem mR.cell{b:Nat}{cs:Array Value}{T:TypeId}(q:mR w0 L b cs T){w:World}(hw:Mem w0 L w)(o:Nat):w.cell? ⟨b,o,none⟩=cs[o]? :=by
 simp[World.cell?,q.h w hw]
theorem ou{t:TypeId}{x:Operand}{b o:Nat}{cs:Array Value}{T:TypeId}{v:Value}(hx:ev env x=some (.pointer (some ⟨b,o,none⟩)))[ht:fR P t][hi:mR w0 L b cs T][hc:cc cs o v]:
  Ry P N w0 env L ⟨d, .load t x,ty,ps,af,gd⟩ v:=zQ ht hx fun w hw=>by rw[hi.cell hw];exact hc.h
theorem adD{t:TypeId}{x:Operand}{b o n:Nat}{cs sub:Array Value}{T:TypeId}(hx:ev env x=some (.pointer (some ⟨b,o,none⟩)))[ht:fK P t n][hi:mR w0 L b cs T][hs:nJ cs o n sub]:
  Ry P N w0 env L ⟨d, .load t x,ty,ps,af,gd⟩ (.agg sub):=Cc ht hx hs.size fun w hw j hj=>by rw[Addr.hH,hi.cell hw];exact hs.h j hj
end
section
variable {w0:World} {L:List aj}
theorem Be{w0 w:World}{L R1 R2 R3:List aj}{e1 e2 e3:aj}{i j k:Nat}(h1:L[i]? =some e1)(d1:L.eraseIdx i=R1)(h2:R1[j]? =some e2)(d2:R1.eraseIdx j=R2)(h3:R2[k]? =some e3)(d3:R2.eraseIdx k=R3)(h:Mem w0 L w):Mem w0 (e1::e2::e3::R3) w:=by
 subst d1;subst d2;subst d3;exact h.perm ((oN h1).trans (((oN h2).trans ((oN h3).cons _)).cons _))
theorem adE{w0 w:World}{L R1 R2 R3 R4:List aj}{e1 e2 e3 e4:aj}{i j k l:Nat}(h1:L[i]? =some e1)(d1:L.eraseIdx i=R1)(h2:R1[j]? =some e2)(d2:R1.eraseIdx j=R2)(h3:R2[k]? =some e3)(d3:R2.eraseIdx k=R3)(h4:R3[l]? =some e4)(d4:R3.eraseIdx l=R4)(h:Mem w0 L w):Mem w0 (e1::e2::e3::e4::R4) w:=by
 subst d1;subst d2;subst d3;subst d4;exact h.perm ((oN h1).trans (((oN h2).trans (((oN h3).trans ((oN h4).cons _)).cons _)).cons _))
end
variable {w0:World}{L:List aj}
instance (priority:=low) Hd.tail{e:aj}{s:Sv}{α:Type}{enc:α->Array Value}{c:Nat}{xs:List α}[q:Hd w0 L s enc c xs]:Hd w0 (e::L) s enc c xs:=⟨fun w hw=>q.h w (hw.sub (atm _ _))⟩
instance (priority:=low) aU.tail{e:aj}{τ:Type}[Deep τ]{a:τ}[q:aU w0 L a]:aU w0 (e::L) a:=⟨fun w hw=>q.h w (hw.sub (atm _ _))⟩
theorem adF{P:Program}{N:ct}{env:Env}{α:Type}{enc:α->Array Value}{c n:Nat}{t e:TypeId}{cM:Nat}{z:Value}{x y:Operand}{d:Option Tmp}{ty:TypeId}{ps:String}{af:Array Edge}{gd:Option (Nat×Bool)}{k k':IntKind}{ix iy:Int}[he:bm enc c][ht:fq P t e c cM][hz:eR P e z](x0:α)(h0:enc x0=z.cells)(hx:ev env x=some (.int k ix))(hy:ev env y=some (.int k' iy))(ex:ix=(n:Int))(ey:iy=(n:Int))(hb:cM*n<=281474976710656)(jE:n<=140737488355328):
  ∀a,dr N env a->vg P ⟨d, .makeSlice t x y,ty,ps,af,gd⟩ a.eval (w7 enc c n (List.replicate n x0)):=fun a ha w0 w L hw=>by
 subst ex ey;obtain⟨w',h1,h2⟩:=Jb ht hz (k:=k) (k':=k') (n:=n) x0 h0 (asu _) hb jE w;exact⟨w.heap.size,w',by simp only[execOp,ha.ev hx,ha.ev hy,Sem.run_bind,h1,Result.andThen,Sem.run_pure],hw.call h2⟩
def uD(f:FuncId):Array Value:= #[.func (.func f) #[] #[]]
instance:bm uD 1:=⟨fun _=>rfl,fun _=>by simp[uD,Value.oneCell']⟩
instance (f:FuncId):cc (uD f) 0 (.func (.func f) #[] #[]):=⟨rfl⟩
class tc(P:Program)(w0:World)(L:List aj)(f:FuncId)(lL:Array Value){α:outParam Type}(enc:outParam (α->Array Value))(R:outParam (α->Bool)):Prop where
 fn:aK P f
 h: ∀w,Mem w0 L w-> ∀x,Calls P f ((Value.agg (enc x)::lL.toList).toArray) w fun e w'=>e= .returned (.bool (R x))/\Mem w [] w'
theorem tc.at{P:Program}{w0:World}{L:List aj}{f:FuncId}{lL:Array Value}{α:Type}{enc:α->Array Value}{R:α->Bool}(q:tc P w0 L f lL enc R){w:World}(hw:Mem w0 L w):tc P w [] f lL enc R:=
 ⟨q.fn,fun w1 h1 x=>q.h w1 (by simpa using hw.call h1) x⟩
end Go.ax
namespace Go.Proofs.YtkggjjnhnjjokaaGreatDoor
open Go.ax Go.Kb Go.RowKit
instance:eR Tryz.prog 432 (.agg (fL abk)):=⟨by kernel_rfl⟩
theorem LN(x:aA)(p:Int)(w:World):(Instr.build 432 #[(0, .agg (bJ x)),(1, .int .i64 p)]).run Tryz.prog w= .ok (.agg (fL ⟨x,p⟩)) w:=by
 obtain⟨a,b,c,d⟩:=x;unfold fL bJ;kernel_rfl
variable {w0:World}{L:List aj}
instance apa{a:Int}:cE Tryz.prog 350 w0 L [.int .i64 a] (.bool false) (True):=⟨fun aH w hw=>by
 refine cB Tryz.func350 rfl Tryz.ntmps350 rfl ?_;refine eI ?_;refine Gr fun w1 hw=>?_;exact⟨congrArg (fun b=>Ending.returned (Value.bool b)) ((by simp)),ai.mem hw⟩⟩
instance apb{a:Int}{b:Int}:cE Tryz.prog 349 w0 L [.int .i64 a, .int .i64 b] (.int .i64 (yT a b)) (True):=⟨fun aH w hw=>by
 refine cQ Tryz.func349 rfl Tryz.ntmps349 rfl ?_;refine FB ?_;refine jt rfl (fun h0=>?_) (fun h0=>?_)
 ·
  exfalso;simp at h0
 replace h0:=bz h0;refine al ?_;refine jt rfl (fun h2=>?_) (fun h2=>?_)
 ·
  exfalso;simp at h2
 replace h2:=bz h2;refine aM ?_;refine Gb (fun h3=>?_) fun h3=>?_
 ·
  refine al ?_;refine Gr fun w1 hw=>?_;exact Gf ((by rw[yT,if_pos oM])) hw
 refine aM ?_;refine Gb (fun h4=>?_) fun h4=>?_
 ·
  refine al ?_;refine Gr fun w1 hw=>?_;exact Gf ((by rw[yT,if_neg oM,if_pos oM])) hw
 refine al ?_;refine Gr fun w1 hw=>?_;exact⟨congrArg (fun b=>Ending.returned (Value.int .i64 b)) ((by rw[yT,if_neg oM,if_neg oM])),ai.mem hw⟩⟩
theorem Ti(w:World)(b:jx):Calls Tryz.prog 335 #[.agg (fL b)] w fun e w'=>e= .returned (.bool (mH b.pages b.w))/\Mem w [] w':=by
 refine cB Tryz.func335 rfl Tryz.ntmps335 rfl ?_;refine Gc ?_;refine cf rfl fun b1=>eI ?_;refine jr rfl rfl rfl (fun hg=>(Ry.yl (aO (o':=1) (aF hg rfl) rfl))) (cW ?_);refine Gr fun w1 hw=>?_;exact Ge (by simp only[mH,Bool.and_assoc]) hw
instance apc{b:jx}:cE Tryz.prog 335 w0 L [.agg (fL b)] (.bool (mH b.pages b.w)) (True):=⟨fun hp w hw=>Ti w b⟩
theorem Tj(w:World)(b:jx):Calls Tryz.prog 333 #[.agg (fL b)] w fun e w'=>e= .returned (.bool (mf b.w))/\Mem w [] w':=by
 refine cB Tryz.func333 rfl Tryz.ntmps333 rfl ?_;refine Gc ?_;refine cf rfl fun b1=>eI ?_;refine jr rfl rfl rfl (fun hg=>(Ry.yl (aO (o':=0) (aF hg rfl) rfl))) (aM ?_);refine jr rfl rfl rfl (fun hg=>(Ry.yl (aO (o':=1) (aF hg rfl) rfl))) (aM ?_);refine Gr fun w1 hw=>?_;exact Ge (by simp only[mf,Bool.and_assoc]) hw
instance apd{b:jx}:cE Tryz.prog 333 w0 L [.agg (fL b)] (.bool (mf b.w)) (True):=⟨fun hp w hw=>Tj w b⟩
theorem adG(w:World)(b:jx):Calls Tryz.prog 340 #[.agg (fL b)] w fun e w'=>e= .returned (.bool (yU b.pages b.w))/\Mem w [] w':=by
 refine cB Tryz.func340 rfl Tryz.ntmps340 rfl ?_;refine Gc ?_;refine cf rfl fun b1=>aS ?_;refine Gb (fun h0=>?_) fun h0=>?_
 ·
  refine cW ?_;refine Gr fun w1 hw=>?_;exact Ge (by rw[yU,if_pos h0]) hw
 refine hU ?_;refine jr rfl rfl rfl (fun hg=>(Ry.yl (aO (o':=0) (aF hg rfl) rfl))) (aM ?_);refine jr rfl rfl rfl (fun hg=>(Ry.yl (aO (o':=0) (aF hg rfl) rfl))) (cW ?_);refine Gr fun w1 hw=>?_;exact Ge (by rw[yU,if_neg (by rw[h0];simp)]) hw
theorem adH(w:World)(a:jx)(b:jx):Calls Tryz.prog 336 #[.agg (fL a), .agg (fL b)] w fun e w'=>e= .returned (.int .i64 (AQ a.w b.w))/\Mem w [] w':=by
 refine cQ Tryz.func336 rfl Tryz.ntmps336 rfl ?_;refine Gc ?_;refine cf rfl fun b2=>cf rfl fun b3=>oP ?_;refine Gr fun w1 hw=>?_;exact⟨rfl,ai.mem hw⟩
theorem adI(w:World)(a:jx)(b:jx):Calls Tryz.prog 334 #[.agg (fL a), .agg (fL b)] w fun e w'=>e= .returned (.int .i64 (sK a.w b.w))/\Mem w [] w':=by
 refine cQ Tryz.func334 rfl Tryz.ntmps334 rfl ?_;refine Gc ?_;refine cf rfl fun b2=>cf rfl fun b3=>oP ?_;refine Gr fun w1 hw=>?_;exact⟨rfl,ai.mem hw⟩
theorem adJ(w:World)(a:jx)(b:jx):Calls Tryz.prog 342 #[.agg (fL a), .agg (fL b)] w fun e w'=>e= .returned (.int .i64 (KH a.w b.w))/\Mem w [] w':=by
 refine cQ Tryz.func342 rfl Tryz.ntmps342 rfl ?_;refine Gc ?_;refine cf rfl fun b2=>cf rfl fun b3=>oP ?_;refine Gr fun w1 hw=>?_;exact⟨rfl,ai.mem hw⟩
theorem adK(w:World)(a:jx)(b:jx):Calls Tryz.prog 341 #[.agg (fL a), .agg (fL b)] w fun e w'=>e= .returned (.int .i64 (AR a.w b.w))/\Mem w [] w':=by
 refine cQ Tryz.func341 rfl Tryz.ntmps341 rfl ?_;refine Gc ?_;refine cf rfl fun b2=>cf rfl fun b3=>eI ?_;refine ag (Xy rfl rfl Tryz.underlying4) (av ?_);refine Gb (fun h0=>?_) fun h0=>?_
 ·
  refine al ?_;refine Gr fun w1 hw=>?_;exact Gf ((by rw[AR,if_pos (by simpa using h0)])) hw
 refine aS ?_;refine Gb (fun h1=>?_) fun h1=>?_
 ·
  refine al ?_;refine Gr fun w1 hw=>?_;exact Gf ((by rw[AR,if_neg (by simpa using h0),if_pos h1])) hw
 refine al ?_;refine Gr fun w1 hw=>?_;exact Gf ((by rw[AR,if_neg (by simpa using h0),if_neg (by rw[h1];simp)])) hw
instance ape{l:Sv}{ls:List aA}{p:Int}[hl:cD w0 L bJ 4 l ls]:cE Tryz.prog 346 w0 L [l.val, .int .i64 p] (.bool (mg ls p)) (True):=⟨fun aH w hw=>by
 have hl:=hl.h w hw;have pw:Gv w l bJ 4 ls:=⟨hl⟩;have qK:cX=1099511627776:=rfl;refine cQ Tryz.func346 rfl Tryz.ntmps346 rfl ?_;refine ZC ?_;refine Gb (fun h0=>?_) fun h0=>?_
 ·
  have hz:mg ls p=false:=by
   cases hk:mg ls p with
   |false=>rfl
   |true=>have g:=sL.1 hk;omega
  refine al ?_;refine Gr fun w1 hw=>?_;exact Ge (hz.symm) hw
 refine aM ?_;refine bQ (X:=Nat) (fun zz=>[(25, .int .i64 (zz:Nat)),(1, .int .i64 p),(23,l.val),(24, .int .i64 (ls.length:Nat))]) (fun zz=>[]) (fun zz=>zz<=ls.length/\ ∀j x,j<zz->ls[j]? =Option.some x->xn p x=true) (fun zz=>ls.length -zz) 0 ⟨Nat.zero_le _,fun j x hj=>by first|omega|(simp only[];omega)⟩ sb (fun w hw=>ai.mem hw) ?_;rintro i ⟨aZ,aE⟩;refine al ?_;refine Gb (fun h1=>?_) fun h1=>?_
 ·
  refine nt ?_;obtain⟨x,hx⟩:=get_some (xs:=ls) (i:=i) oM;refine ag (aW rfl rfl i rfl oM) (ag (iF rfl i hx rfl) (bl fun b6=>P2 ?_));refine Gb (fun h2=>?_) fun h2=>?_
  ·
   have hz:mg ls p=false:=by
    cases hk:mg ls p with
    |false=>rfl
    |true=>
     have g:=rA.1 ((sL.1 hk).2.2.2.2 x (anc hx));omega
   refine al ?_;refine Gr fun w1 hw=>?_;exact Ge (hz.symm) hw
  have xr:xn p x=true:=rA.2 ⟨by omega,by omega,by omega,by omega,by omega⟩;refine al ?_;refine Gi ?_;exact bj (x:=(i)) (i+1) ⟨oF,fun j y hj hy=>if e:j=i then(by subst e;rw[hx]at hy;cases hy;exact xr)else aE j y oF hy⟩ oF sb (fun w hw=>ai.mem hw)
 obtain rfl:i=ls.length:=by omega
 have hz:mg ls p=true:=sL.2 ⟨by omega,by omega,by omega,by omega,fun x hx=>by
  obtain⟨j,hj⟩:=asM hx;exact aE j x (ad2.1 hj).1 hj⟩
 refine al ?_;refine Gr fun w1 hw=>?_;exact⟨congrArg (fun b=>Ending.returned (Value.bool b)) (hz.symm),ai.mem hw⟩⟩
def iQ(f:FuncId):aA->aA->Int:=if f=336 then AQ else if f=334 then sK else if f=342 then KH else AR
theorem adL{f:FuncId}(h:f∈[336,334,342,341]):aK Tryz.prog f/\ ∀(w:World) (a b:jx),Calls Tryz.prog f #[.agg (fL a), .agg (fL b)] w fun e w'=>e= .returned (.int .i64 (iQ f a.w b.w))/\Mem w [] w':=by
 simp only[asw,aui,or_false]at h;rcases h with rfl|rfl|rfl|rfl
 ·
  exact⟨inferInstance,fun w a b=>adH w a b⟩
 ·
  exact⟨inferInstance,fun w a b=>adI w a b⟩
 ·
  exact⟨inferInstance,fun w a b=>adJ w a b⟩
 exact⟨inferInstance,fun w a b=>adK w a b⟩
def mS(f:FuncId)(p:Int):aA->Bool:=if f=335 then mH p else if f=333 then mf else yU p
theorem adM{f:FuncId}(h:f∈[335,333,340]):aK Tryz.prog f/\ ∀(w:World) (b:jx),Calls Tryz.prog f #[.agg (fL b)] w fun e w'=>e= .returned (.bool (mS f b.pages b.w))/\Mem w [] w':=by
 simp only[asw,aui,or_false]at h;rcases h with rfl|rfl|rfl
 ·
  exact⟨inferInstance,fun w b=>Ti w b⟩
 ·
  exact⟨inferInstance,fun w b=>Tj w b⟩
 exact⟨inferInstance,fun w b=>adG w b⟩
instance apf{a:jx}{b:jx}{o:Sv}{os:List FuncId}[ho:cD w0 L uD 1 o os]:cE Tryz.prog 348 w0 L [.agg (fL a), .agg (fL b),o.val] (.bool (uh a.w b.w (os.map iQ))) (∀f∈os,f∈[336,334,342,341]):=⟨fun aH w hw=>by
 have ho:=ho.h w hw;have gho:Gv w o uD 1 os:=⟨ho⟩;have jH:=ho.bd;refine vn Tryz.func348 rfl Tryz.ntmps348 rfl ?_;refine Gc ?_;refine cf rfl fun b3=>cf rfl fun b4=>aS ?_;refine bQ (X:=Nat) (fun zz=>[(12, .int .i64 (zz:Nat)),(3, .pointer (some ⟨b3,0,none⟩)),(4, .pointer (some ⟨b4,0,none⟩)),(10,o.val),(11, .int .i64 (os.length:Nat))]) (fun zz=>[ar b4 (fL b) 432,ar b3 (fL a) 432]) (fun zz=>zz<=os.length/\uh a.w b.w (os.map iQ)=uh a.w b.w ((os.drop zz).map iQ)) (fun zz=>os.length -zz) 0 ⟨Nat.zero_le _,rfl⟩ sb (fun w hw=>ai.mem hw) ?_;rintro i ⟨aZ,aE⟩;refine al ?_;refine Gb (fun h0=>?_) fun h0=>?_
 ·
  obtain⟨f,hf⟩:=get_some (xs:=os) (i:=i) oM;obtain⟨isf,hfc⟩:=adL (aH f (anc hf));have br:uh a.w b.w ((os.drop i).map iQ)=if iQ f a.w b.w≠0 then decide (iQ f a.w b.w<0)else uh a.w b.w ((os.drop (i+1)).map iQ):=by
   rw[drop_at hf,asL,uh]
  refine Gc ?_;refine ag (aW rfl rfl i rfl oM) (ag (bE (j:=0) rfl i hf rfl (by decide)) (aM ?_));refine eS (G7 (f:=f) (vs:=[.agg (fL a), .agg (fL b)]) rfl rfl (fun w1 _=>hfc w1 a b)) (aM ?_);refine Gb (fun h1=>?_) fun h1=>?_
  ·
   have hz:uh a.w b.w (os.map iQ)=decide (iQ f a.w b.w<0):=by rw[aE,br,if_pos h1]
   refine aM ?_;refine Gr fun w1 hw=>?_;exact Ge (hz.symm) hw
  rw[if_neg oM]at br;refine al ?_;refine Gi ?_;exact bj (x:=(i)) (i+1) ⟨oF,by rw[aE,br]⟩ oF sb (fun w hw=>ai.mem hw)
 obtain rfl:i=os.length:=by omega
 have hz:uh a.w b.w (os.map iQ)=false:=by rw[aE,auS];rfl
 refine al ?_;refine Gr fun w1 hw=>?_;exact⟨congrArg (fun b=>Ending.returned (Value.bool b)) (hz.symm),ai.mem hw⟩⟩
instance apg{r:FuncId}{l:Sv}{ls:List aA}{p:Int}{o:Sv}{os:List FuncId}[hl:cD w0 L bJ 4 l ls][ho:cD w0 L uD 1 o os]:cE Tryz.prog 332 w0 L [l.val, .int .i64 p, .func (.func r) #[] #[],o.val] (.tuple #[.int .i64 ((fx ls p (mS r p) (os.map iQ)).1), .bool ((fx ls p (mS r p) (os.map iQ)).2)]) (r∈[335,333,340]/\ ∀f∈os,f∈[336,334,342,341]):=⟨fun aH w hw=>by
 have hl:=hl.h w hw;have ho:=ho.h w hw;have pw:Gv w l bJ 4 ls:=⟨hl⟩;have gho:Gv w o uD 1 os:=⟨ho⟩;obtain⟨jb,ho2⟩:=aH;obtain⟨isr,hrc⟩:=adM jb;have jH:=hl.bd;refine JU Tryz.func332 rfl Tryz.ntmps332 rfl ?_;refine hU ?_;refine Gb (fun h0=>?_) fun h0=>?_
 ·
  have hE:fx ls p (mS r p) (os.map iQ)=(0,false):=if_neg (by rw[h0];simp);refine au ?_;refine Gr fun w1 hw=>?_;exact⟨by rw[hE],ai.mem hw⟩
 have hE:fx ls p (mS r p) (os.map iQ)=iI ls (mS r p) (os.map iQ) ls.length:=if_pos h0;refine eI ?_;refine bQ (X:=Nat) (fun zz=>[(21, .int .i64 (zz:Nat)),(10, .int .i64 ((iI ls (mS r p) (os.map iQ) zz).1)),(11, .bool ((iI ls (mS r p) (os.map iQ) zz).2)),(0,l.val),(1, .int .i64 p),(2, .func (.func r) #[] #[]),(3,o.val),(19,l.val),(20, .int .i64 (ls.length:Nat))]) (fun zz=>[]) (fun zz=>zz<=ls.length) (fun zz=>ls.length -zz) 0 (asO _) sb (fun w hw=>ai.mem hw) ?_;rintro i aZ;refine al ?_;refine Gb (fun h1=>?_) fun h1=>?_
 ·
  obtain⟨x,hx⟩:=get_some (xs:=ls) (i:=i) oM;have LO:ls.getD i eA=x:=by simp[List.getD,hx]
  have hle:=KI ls (mS r p) (os.map iQ) i;refine av ?_;refine ag (aW rfl rfl i rfl oM) (ag (iF rfl i hx rfl) (bl fun kh=>aM ?_));refine ag (dm (v:= .agg (fL ⟨x,p⟩)) rfl (LN x p)) (bl fun xH=>au ?_);refine eS (G7 (f:=r) (vs:=[.agg (fL ⟨x,p⟩)]) rfl rfl (fun w1 _=>hrc w1 ⟨x,p⟩)) (av ?_);refine Gb (fun h2=>?_) fun h2=>?_
  ·
   have br:(iI ls (mS r p) (os.map iQ) (i+1))=(iI ls (mS r p) (os.map iQ) i):=by rw[iI,AS,LO,if_neg (by rw[h2];simp)]
   refine al ?_;refine Gi ?_;exact bj (x:=(i)) (i+1) oF oF (Sub.cons rfl (Sub.cons (look_eq rfl (by rw[br])) (Sub.cons (look_eq rfl (by rw[br])) sb))) (fun w hw=>ai.mem hw)
  refine Gc ?_;refine gJ oK oK (al ?_);refine fD rfl rfl rfl (fun hg=>(Ry.yl (jY rfl))) (av ?_);refine fD rfl rfl rfl (fun hg=>(Ry.yl (aW (aF hg rfl) (aF hg rfl) ((iI ls (mS r p) (os.map iQ) i).1.toNat) oM (by have:=hle.1;have:=hle.2.1;have:=(ad2.1 hx).1;omega)))) ?_;refine fD rfl rfl rfl (fun hg=>(Ry.yl (iF (aF hg rfl) ((iI ls (mS r p) (os.map iQ) i).1.toNat) (nP (d:=eA) (by have:=hle.1;have:=hle.2.1;have:=(ad2.1 hx).1;omega)) rfl))) ?_;refine Gh ?_;refine fD rfl rfl rfl (fun hg=>(Ry.yl (dm (v:= .agg (fL ⟨(ls.getD (iI ls (mS r p) (os.map iQ) i).1.toNat eA),p⟩)) (Ol (aF hg rfl) (Ol (aF hg rfl) Xz)) (LN (ls.getD (iI ls (mS r p) (os.map iQ) i).1.toNat eA) p)))) (Gh ?_);refine fD rfl rfl rfl (fun hg=>cj (eL (aF hg rfl) (eL (aF hg rfl) (eL (aF hg rfl) iV))) ho2) (av ?_);refine Gb (fun h3=>?_) fun h3=>?_
  ·
   have br:(iI ls (mS r p) (os.map iQ) (i+1))=((i:Int),true):=by
    rw[iI,AS,LO,if_pos ⟨h2,h3⟩]
   refine Gi ?_;refine aS ?_;refine Gi ?_;exact bj (x:=(i)) (i+1) oF oF (Sub.cons rfl (Sub.cons (look_eq rfl (by rw[br])) (Sub.cons (look_eq rfl (by rw[br])) sb))) (fun w hw=>ai.mem hw)
  have br:(iI ls (mS r p) (os.map iQ) (i+1))=(iI ls (mS r p) (os.map iQ) i):=by
   rw[iI,AS,LO,if_neg];rintro⟨_,g⟩;rcases g with g|g
   ·
    exact absurd (h3.1.symm.trans g) (by simp)
   exact absurd (h3.2.symm.trans g) (by simp)
  refine al ?_;refine Gi ?_;exact bj (x:=(i)) (i+1) oF oF (Sub.cons rfl (Sub.cons (look_eq rfl (by rw[br])) (Sub.cons (look_eq rfl (by rw[br])) sb))) (fun w hw=>ai.mem hw)
 obtain rfl:i=ls.length:=by omega
 refine aS ?_;refine Gr fun w1 hw=>?_;exact⟨by rw[hE],ai.mem hw⟩⟩
instance aph{l:Sv}{ls:List aA}{p:Int}[hl:cD w0 L bJ 4 l ls]:cE Tryz.prog 313 w0 L [l.val, .int .i64 p] (.tuple #[.int .i64 ((fy ls p).1), .bool ((fy ls p).2)]) (True):=⟨fun aH w hw=>by
 have hl:=hl.h w hw;have pw:Gv w l bJ 4 ls:=⟨hl⟩;refine cQ Tryz.func313 rfl Tryz.ntmps313 rfl ?_;refine aS ?_;refine jF (enc:=uD) (vals:=[.func (.func 336) #[] #[], .func (.func 334) #[] #[]]) [336,334] rfl rfl rfl (by decide) (by decide) fun b8=>?_;refine eS (cj rfl (by decide)) (ag (aJ rfl rfl) (ag (aJ rfl rfl) (al ?_)));refine Gr fun w1 hw=>?_;exact⟨rfl,ai.mem hw⟩⟩
instance api{l:Sv}{ls:List aA}{p:Int}[hl:cD w0 L bJ 4 l ls]:cE Tryz.prog 310 w0 L [l.val, .int .i64 p] (.tuple #[.int .i64 ((fG ls p).1), .bool ((fG ls p).2)]) (True):=⟨fun aH w hw=>by
 have hl:=hl.h w hw;have pw:Gv w l bJ 4 ls:=⟨hl⟩;refine cQ Tryz.func310 rfl Tryz.ntmps310 rfl ?_;refine aS ?_;refine jF (enc:=uD) (vals:=[.func (.func 334) #[] #[]]) [334] rfl rfl rfl (by decide) (by decide) fun b8=>?_;refine eS (cj rfl (by decide)) (ag (aJ rfl rfl) (ag (aJ rfl rfl) (al ?_)));refine Gr fun w1 hw=>?_;exact⟨rfl,ai.mem hw⟩⟩
instance apj{l:Sv}{ls:List aA}{p:Int}[hl:cD w0 L bJ 4 l ls]:cE Tryz.prog 327 w0 L [l.val, .int .i64 p] (.tuple #[.int .i64 ((vG ls p).1), .bool ((vG ls p).2)]) (True):=⟨fun aH w hw=>by
 have hl:=hl.h w hw;have pw:Gv w l bJ 4 ls:=⟨hl⟩;refine cQ Tryz.func327 rfl Tryz.ntmps327 rfl ?_;refine aS ?_;refine jF (enc:=uD) (vals:=[.func (.func 341) #[] #[], .func (.func 342) #[] #[], .func (.func 334) #[] #[]]) [341,342,334] rfl rfl rfl (by decide) (by decide) fun b8=>?_;refine eS (cj rfl (by decide)) (ag (aJ rfl rfl) (ag (aJ rfl rfl) (al ?_)));refine Gr fun w1 hw=>?_;exact⟨rfl,ai.mem hw⟩⟩
instance apk{l:Sv}{ls:List aA}{p:Int}[hl:cD w0 L bJ 4 l ls]:cE Tryz.prog 330 w0 L [l.val, .int .i64 p] (.int .i64 (Gu ls p)) (True):=⟨fun aH w hw=>by
 have hl:=hl.h w hw;have pw:Gv w l bJ 4 ls:=⟨hl⟩;refine cQ Tryz.func330 rfl Tryz.ntmps330 rfl ?_;refine eI ?_;refine Gb (fun h0=>?_) fun h0=>?_
 ·
  have hE:Gu ls p=0:=if_neg (by rw[h0];simp);refine al ?_;refine Gr fun w1 hw=>?_;exact Gf (by rw[hE]) hw
 have hE:Gu ls p=fN (ls.map (ob p)):=if_pos h0;obtain⟨k1,k2,k3,k4,k5⟩:=sL.1 h0;refine cW ?_;refine bQ (X:=Nat) (fun zz=>[(15, .int .i64 (zz:Nat)),(5, .int .i64 (fN ((ls.take zz).map (ob p)))),(1, .int .i64 p),(13,l.val),(14, .int .i64 (ls.length:Nat))]) (fun zz=>[]) (fun zz=>zz<=ls.length) (fun zz=>ls.length -zz) 0 (asO _) sb (fun w hw=>ai.mem hw) ?_;rintro i aZ;refine al ?_;refine Gb (fun h1=>?_) fun h1=>?_
 ·
  obtain⟨x,hx⟩:=get_some (xs:=ls) (i:=i) oM;have xr:=rA.1 (k5 x (anc hx));have fo:(fN ((ls.take (i+1)).map (ob p)))=(fN ((ls.take i).map (ob p)))+ob p x:=by rw[asC,hx,as0,Rx];simp[fN]
  have hsb:=RA p (ls.take i) (fun x hx=>k5 x (aum hx)) oM;have nU:(ls.take i).length<=32:=by rw[asq];omega
  have lM:((ls.take i).length:Int)*p<=512:=room_le nU oM oM;refine Gc ?_;refine ag (aW rfl rfl i rfl oM) (ag (iF rfl i hx rfl) (bl fun b7=>au ?_));refine ag (dm (v:= .agg (fL ⟨x,p⟩)) rfl (LN x p)) (bl fun b8=>aS ?_);refine Gb (fun h2=>?_) fun h2=>?_
  ·
   have hr:ob p x=p:=if_pos h2;refine Gi ?_;refine cW ?_;refine Gi ?_;exact bj (x:=(i)) (i+1) oF oF (Sub.cons rfl (Sub.cons (look_eq rfl (by rw[fo,hr])) sb)) (fun w hw=>ai.mem hw)
  refine aM ?_;refine Gb (fun h3=>?_) fun h3=>?_
  ·
   have hr:ob p x=p -x.used:=by rw[ob,if_neg (by rw[h2];simp),if_pos h3]
   refine Gi ?_;refine au ?_;refine ag (Ry.to (v':= .int .i64 x.used) (bY rfl) rfl) (aS ?_);refine Gi ?_;exact bj (x:=(i)) (i+1) oF oF (Sub.cons rfl (Sub.cons (look_eq rfl (by rw[fo,hr])) sb)) (fun w hw=>ai.mem hw)
  have hr:ob p x=0:=by rw[ob,if_neg (by rw[h2];simp),if_neg (by rw[h3];simp)]
  refine al ?_;refine Gi ?_;exact bj (x:=(i)) (i+1) oF oF (Sub.cons rfl (Sub.cons (look_eq rfl (by rw[fo,hr,Int.add_zero])) sb)) (fun w hw=>ai.mem hw)
 obtain rfl:i=ls.length:=by omega
 refine au ?_;refine Gr fun w1 hw=>?_;exact⟨congrArg (fun b=>Ending.returned (Value.int .i64 b)) (by rw[hE,asP]),ai.mem hw⟩⟩
instance apl{n:Nat}:bN Tryz.prog 302 w0 L [.slice none 0 0, .int .i64 (n:Nat)] (Sv) (fun zz=>zz.val) (fun zz=>own (bT (τ:=UInt8)) 1 zz ([]:List (Sl UInt8))::L) (fun zz=>True) (n<=1000000000):=⟨fun aH w hw=>Gk (fun zz=>[own (bT (τ:=UInt8)) 1 zz ([]:List (Sl UInt8))]) hw (by
 refine cQ Tryz.func302 rfl Tryz.ntmps302 rfl ?_;refine aS ?_;refine Gb (fun h0=>?_) fun h0=>?_
 ·
  exfalso;omega
 refine al ?_;refine ag (FG rfl) (Gs ?_);refine ag (yg rfl) (cW ?_);refine Gb (fun h1=>?_) fun h1=>?_
 ·
  refine Gi ?_;refine av ?_;refine ag (FG rfl) (ag (Ry.to (v':= .slice none 0 0) (wJ (s:=Sv.none) (h:=0) rfl rfl rfl Sv.Cj (asu _)) rfl) (Gs ?_));refine Qc (enc:=(bT (τ:=UInt8))) (k:=n) (⟨Sv.none,[]⟩:Sl UInt8) rfl rfl oM oM (by decide) rfl Tryz.underlying3 oM oM fun mP Dq LA=>Gs ?_;refine ag (yg rfl) (ag (wJ (s:=⟨false,mP,0,n,Dq,none⟩) (h:=0) rfl rfl rfl ⟨(fun h=>by cases h),LA,by simp only;omega,fun _=>rfl⟩ (asO _)) (aM ?_));refine Gr fun w1 hw=>?_;refine⟨Sv.sub ⟨false,mP,0,n,Dq,none⟩ 1 0 0,rfl,trivial,?_⟩;have dX:=Mem.Qb (i:=0) (k:=0) hw rfl (asO _);rw[asW]at dX;exact dX
 have hn:n=0:=by omega
 refine au ?_;refine Gr fun w1 hw=>?_;exact⟨Sv.none,rfl,trivial,(ai.mem hw:Mem w [] _).dj (bT (τ:=UInt8)) 1⟩)⟩
instance Tk{a:Sl (Sl (Sl UInt8))}[ha:aU w0 L a]:bN Tryz.prog 258 w0 L [a.sv.val] (Sv) (fun zz=>zz.val) (fun zz=>own (bT (τ:=UInt8)) 1 zz (fM a.xs)::L) (fun zz=>True) ((fM a.xs).length<=1000000):=⟨fun aH w hw=>Gk (fun zz=>[own (bT (τ:=UInt8)) 1 zz (fM a.xs)]) hw (by
 have ha:=ha.h w hw;have LB:cL w a:=⟨ha⟩;have uV:=ha.1.bd;have eW:=abv a.xs;refine cB Tryz.func258 rfl Tryz.ntmps258 rfl ?_;refine hU ?_;refine bQ (X:=Nat) (fun zz=>[(11, .int .i64 (zz:Nat)),(3, .int .i64 ((fM (a.xs.take zz)).length:Nat)),(0,a.sv.val),(9,a.sv.val),(10, .int .i64 (a.xs.length:Nat))]) (fun zz=>[]) (fun zz=>zz<=a.xs.length) (fun zz=>a.xs.length -zz) 0 (asO _) sb (fun w hw=>ai.mem hw) ?_;rintro i hi;have wZ:=eW i;have lz:=eW (i+1);refine al ?_;refine Gb (fun h0=>?_) fun h0=>?_
 ·
  refine nt ?_;obtain⟨x,hx⟩:=get_some (xs:=a.xs) (i:=i) oM;refine ag (aW rfl rfl i rfl oM) (ag (bE (j:=0) rfl i hx rfl (by decide)) ?_);have hfx:(fM (a.xs.take (i+1))).length=(fM (a.xs.take i)).length+x.xs.length:=by rw[Gt hx,af0]
  have Ha:Mb x _:=⟨List.mem_of_getElem? hx⟩;refine oP ?_;refine Gb (fun h1=>?_) fun h1=>?_
  ·
   exfalso;omega
  refine al ?_;refine Gi ?_;exact bj (x:=(i)) (i+1) oF oF (Sub.cons rfl (Sub.cons (look_eq rfl (by rw[Gt hx,af0];simp)) sb)) (fun w hw=>ai.mem hw)
 obtain rfl:i=a.xs.length:=by omega
 have nO:=eW a.xs.length;refine av ?_;refine aX rfl oM fun qc Dr=>aS ?_;refine bQ (X:=Nat×Sv) (fun zz=>[(27, .int .i64 (zz.1:Nat)),(6,zz.2.val),(25,a.sv.val),(26, .int .i64 (a.xs.length:Nat))]) (fun zz=>[own (bT (τ:=UInt8)) 1 zz.2 (fM (a.xs.take zz.1))]) (fun zz=>zz.1<=a.xs.length) (fun zz=>a.xs.length -zz.1) (0,qc) (Nat.zero_le _) sb (fun w hw=>(ai.mem hw:Mem _ [own (bT (τ:=UInt8)) 1 qc ([]:List (Sl UInt8))] _)) ?_;rintro⟨k,s1⟩ hk;dsimp only;simp only at hk;have wZ:=eW k;have lz:=eW (k+1);refine al ?_;refine Gb (fun h2=>?_) fun h2=>?_
 ·
  refine nt ?_;obtain⟨y,hy⟩:=get_some (xs:=a.xs) (i:=k) oM;refine ag (aW rfl rfl k rfl oM) (ag (bE (j:=0) rfl k hy rfl (by decide)) ?_);have hfy:(fM (a.xs.take (k+1))).length=(fM (a.xs.take k)).length+y.xs.length:=by rw[Gt hy,af0]
  have LC:Mb y _:=⟨List.mem_of_getElem? hy⟩;refine au ?_;refine gS (s:=s1) (enc:=(bT (τ:=UInt8))) (ys:=y.xs) rfl rfl (by decide) (fun w hw=>fY (s:=y.sv) Tryz.underlying178 (by decide) ((inferInstance:cD _ _ (bT (τ:=UInt8)) 1 y.sv y.xs).h w hw)) oM oM fun LD adv adw=>?_;refine au ?_;refine Gi ?_;exact bj (x:=(k,s1)) (k+1,LD) (by simp only;omega) (by simp only;omega) sb (fun w hw=>by rw[Gt hy];exact ai.mem hw)
 obtain rfl:k=a.xs.length:=by omega
 refine au ?_;refine Gr fun w1 hw=>?_;exact⟨s1,rfl,trivial,by rw[asP]at hw;exact ai.mem hw⟩)⟩
instance apm{x:Sv}{xs:List Int}{y:Sv}{ys:List Int}[hx:cD w0 L bu 1 x xs][hy:cD w0 L bu 1 y ys]:cE Tryz.prog 167 w0 L [x.val,y.val] (.bool (decide (xs=ys))) (True):=⟨fun aH w hw=>by
 have hx:=hx.h w hw;have hy:=hy.h w hw;have Bb:Gv w x bu 1 xs:=⟨hx⟩;have Tl:Gv w y bu 1 ys:=⟨hy⟩;have hbx:=hx.bd;refine cQ Tryz.func167 rfl Tryz.ntmps167 rfl ?_;refine hU ?_;refine Gb (fun h0=>?_) fun h0=>?_
 ·
  have hz:decide (xs=ys)=false:=decide_eq_false fun e=>h0 (by rw[e]);refine al ?_;refine Gr fun w1 hw=>?_;exact Ge (hz.symm) hw
 have oY:xs.length=ys.length:=by omega
 refine aM ?_;refine bQ (X:=Nat) (fun zz=>[(13, .int .i64 (zz:Nat)),(0,x.val),(1,y.val),(12, .int .i64 (xs.length:Nat))]) (fun zz=>[]) (fun zz=>zz<=xs.length/\ ∀j,j<zz->xs[j]? =ys[j]?) (fun zz=>xs.length -zz) 0 ⟨Nat.zero_le _,fun j hj=>by first|omega|(simp only[];omega)⟩ sb (fun w hw=>ai.mem hw) ?_;rintro i ⟨aZ,aE⟩;refine al ?_;refine Gb (fun h1=>?_) fun h1=>?_
 ·
  obtain⟨p,kS⟩:=get_some (xs:=xs) (i:=i) oM;obtain⟨q,vQ⟩:=get_some (xs:=ys) (i:=i) oM;refine au ?_;refine gJ oK oK (av ?_);refine bC (aW rfl rfl i rfl oM) (bC (bE (j:=0) rfl i kS rfl (by decide)) (av ?_));refine bC (aW rfl rfl i rfl oM) (bC (bE (j:=0) rfl i vQ rfl (by decide)) (av ?_));refine Gb (fun h2=>?_) fun h2=>?_
  ·
   have hz:decide (xs=ys)=false:=decide_eq_false fun e=>h2 (by rw[e]at kS;rw[kS]at vQ;cases vQ;rfl);refine al ?_;refine Gr fun w1 hw=>?_;exact Ge (hz.symm) hw
  refine al ?_;refine Gi ?_;exact bj (x:=(i)) (i+1) ⟨oF,fun j hj=>if e:j=i then(by subst e;rw[kS,vQ,h2])else aE j oF⟩ oF sb (fun w hw=>ai.mem hw)
 obtain rfl:i=xs.length:=by omega
 have hz:decide (xs=ys)=true:=decide_eq_true (atj fun j=>by
  rcases asx j xs.length with hj|hj
  ·
   exact aE j hj
  rw[ast hj,ast oM])
 refine al ?_;refine Gr fun w1 hw=>?_;exact⟨congrArg (fun b=>Ending.returned (Value.bool b)) (hz.symm),ai.mem hw⟩⟩
theorem adN(g:UInt64)(w:World):(Instr.build 314 #[(0, .int .u64 (g.toNat:Int))]).run Tryz.prog w= .ok (.agg (eX ⟨g,⟨Sv.none,[]⟩⟩)) w:=by
 unfold eX;kernel_rfl
instance apn{b:Sv}{bs:List UInt8}[hb:cD w0 L aG 1 b bs]:bN Tryz.prog 297 w0 L [b.val] (dE) (fun zz=> .tuple #[.agg (eX zz), .int .i64 ((bD bs).2)]) (fun zz=>own bu 1 zz.at_.sv zz.at_.xs::L) (fun zz=>dI zz=(bD bs).1) (True):=⟨fun aH w hw=>Gk (fun zz:dE=>[own bu 1 zz.at_.sv zz.at_.xs]) hw (by
 have hb:=hb.h w hw;have rK:Gv w b aG 1 bs:=⟨hb⟩;refine cB Tryz.func297 rfl Tryz.ntmps297 rfl ?_;refine Gc ?_;refine bl fun b2=>al ?_;refine aX rfl trivial fun dR zl=>?_;have Tm:dR.kind=(cI bs).1.kind:=congrArg PV.kind zl;have LP:dR.id=(cI bs).1.id:=congrArg PV.id zl;have qg:dR.gen.toNat=(cI bs).1.gen:=congrArg PV.gen zl;have pW:dR.body.xs=(cI bs).1.body:=congrArg PV.body zl;have dW:=KB bs;rw[←pW]at dW;refine Gs ?_;refine ag (aJ (v:= .agg (da dR)) rfl rfl) (ag (aJ (v:= .int .i64 ((cI bs).2)) rfl rfl) (bl fun b4=>aS ?_));refine Gb (fun h0=>?_) fun h0=>?_
 ·
  have hE:bD bs=(ig,(cI bs).2):=by rw[bD,if_pos h0]
  refine Gc ?_;refine ag (dm (v:= .agg (eX l5)) rfl (fun w=>by kernel_rfl)) (au ?_);refine Gr fun w1 hw=>?_;exact⟨l5,by rw[hE],by rw[hE];rfl,Mem.dj bu 1 (ai.mem hw:Mem w [] _)⟩
 refine aM ?_;refine Gb (fun h1=>?_) fun h1=>?_
 ·
  have hE:bD bs=(ig,6):=by rw[bD,if_neg oM,if_pos oM]
  refine Gc ?_;refine ag (dm (v:= .agg (eX l5)) rfl (fun w=>by kernel_rfl)) (al ?_);refine Gr fun w1 hw=>?_;exact⟨l5,by rw[hE],by rw[hE];rfl,Mem.dj bu 1 (ai.mem hw:Mem w [] _)⟩
 refine au ?_;refine ag (my rfl rfl oM oM) (hU ?_);refine bI rfl rfl rfl (fun hg=>(Ry.yl (va (p:=dR.body.xs.length) (q:=2) (aF hg rfl) rfl rfl rfl (by simp only[Z0,Z1,Z2,Z3,Z4,Z5,Z6,Z7,Z8,Z9]at hg;omega)))) (aS ?_);refine bI rfl rfl rfl (fun hg=>(Ry.yl (zU (aF hg rfl) rfl (by simp only[Z0,Z1,Z2,Z3,Z4,Z5,Z6,Z7,Z8,Z9]at hg;omega)))) (bI rfl rfl rfl (fun hg=>(Ry.yl (wE rfl (aF hg rfl)))) (al ?_));refine Gb (fun h2=>?_) fun h2=>?_
 ·
  have k8:vE (cI bs).1=false:=by
   cases hk:vE (cI bs).1 with
   |false=>rfl
   |true=>
    simp only[vE,alM,decide_eq_true_eq,←Tm,←LP,←pW]at hk;omega
  have hE:bD bs=(ig,2):=by rw[bD,if_neg oM,if_neg oM,if_pos k8]
  refine Gc ?_;refine ag (dm (v:= .agg (eX l5)) rfl (fun w=>by kernel_rfl)) (al ?_);refine Gr fun w1 hw=>?_;exact⟨l5,by rw[hE],by rw[hE];rfl,Mem.dj bu 1 (ai.mem hw:Mem w [] _)⟩
 have k8:vE (cI bs).1=true:=by
  simp only[vE,alM,decide_eq_true_eq,←Tm,←LP,←pW];omega
 have hE:bD bs=(⟨dR.gen.toNat,p0 dR.body.xs⟩,0):=by rw[bD,if_neg oM,if_neg oM,if_neg (by rw[k8];simp),qg,pW]
 have td:=Gn dR.body.xs;refine al ?_;refine ag (dm (v:= .agg (eX ⟨dR.gen,⟨Sv.none,[]⟩⟩)) rfl (adN dR.gen)) (bl fun b7=>aM ?_);refine bQ (X:=Nat×Sv) (fun zz=>[(49, .int .i64 (zz.1:Nat)),(7, .pointer (some ⟨b7,0,none⟩)),(2, .pointer (some ⟨b2,0,none⟩)),(4, .pointer (some ⟨b4,0,none⟩)),(48, .int .i64 ((dR.body.xs.length/2):Nat))]) (fun zz=>[ar b7 (eX ⟨dR.gen,⟨zz.2,(p0 dR.body.xs).take zz.1⟩⟩) 314,own bu 1 zz.2 ((p0 dR.body.xs).take zz.1),ar b4 (da dR) 324,own aG 1 dR.body.sv dR.body.xs,ar b2 (eX l5) 314]) (fun zz=>zz.1<=dR.body.xs.length/2) (fun zz=>dR.body.xs.length/2 -zz.1) (0,Sv.none) (asO _) sb (fun w hw=>by
  simp only[asW];exact ai.mem (Mem.dj bu 1 hw)) ?_
 rintro⟨i,s1⟩ aZ;dsimp only;simp only at aZ;refine al ?_;refine Gb (fun h3=>?_) fun h3=>?_
 ·
  have fo:=abr (b:=dR.body.xs) (i:=i) oM;refine au ?_;refine ub [19,20,22,1001,2019] [[],[],[],[],[],[],[],[],[],[],[],[],[],[],[],[],[],[],[],[],[1,19],[1,19,20],[1,19,20]] [0,1,2,3,4,5,6,7,8,9,10,11,12,13,14,15,16,17,18,19,20,21,22] [ar b4 (da dR) 324,own aG 1 dR.body.sv dR.body.xs] [(19,w7 bu 1 1 [(ry dR.body.xs i)])] oK (fun _ hw=>ai.mem hw) oK oK (an rfl (aO (o':=1) rfl rfl) (lA rfl (bY rfl) (an rfl (aO (o':=3) rfl rfl) (an rfl (bY rfl) (an rfl (bf rfl) (an rfl (pL rfl rfl oM) (an rfl (aW rfl rfl (2*i) rfl oM) (an rfl (bE (j:=0) rfl (2*i) (nP (xs:=dR.body.xs) (i:=2*i) (d:=0) oM) rfl (by decide)) (an rfl (wK rfl) (an rfl (ON rfl rfl) (an rfl (aO (o':=3) rfl rfl) (an rfl (bY rfl) ?_))))))))))));refine an rfl (bf rfl) (an rfl (pL rfl rfl oM) (an rfl (yh rfl rfl oM) (an rfl (aW rfl rfl (2*i+1) rfl oM) (an rfl (bE (j:=0) rfl (2*i+1) (nP (xs:=dR.body.xs) (i:=2*i+1) (d:=0) oM) rfl (by decide)) (an rfl (wK rfl) (an rfl (OO rfl rfl) (sE (m:=w7 bu 1 1 [(ry dR.body.xs i)]) rfl rfl (PY (enc:=bu) (c:=1) (n:=1) (vals:=[.int .i64 (ry dR.body.xs i)]) [(ry dR.body.xs i)] rfl rfl rfl (by decide) (by decide)) (Cert.none rfl) fun Hg=>?_)))))));change Ln _ _ _ _ _ _ _ _ (cJ _ _ (Sv.val ⟨false,Hg,0,1,1,none⟩)) (own bu 1 ⟨false,Hg,0,1,1,none⟩ [(ry dR.body.xs i)]::_) _;refine dH rfl (Zr (s:=s1) (ys:=[(ry dR.body.xs i)]) rfl rfl (by decide) (fun w hw=>fY (s:=⟨false,Hg,0,1,1,none⟩) Tryz.underlying60 (by decide) ((inferInstance:Hd _ _ ⟨false,Hg,0,1,1,none⟩ bu 1 [(ry dR.body.xs i)]).h w hw)) (by simp only[asq,asm,asn];omega) (by simp only[asq,asm,asn];omega) fun Tn apo apq=>⟨fun _ hw=>ai.mem hw,?_⟩);refine an rfl (aO (o':=1) rfl rfl) ?_;refine dH rfl (Aw (cs':=eX (⟨dR.gen,⟨Tn,(((p0 dR.body.xs).take i)++[(ry dR.body.xs i)])⟩⟩:dE)) rfl rfl (by show 1<2;decide) (by first|rfl|exact Sv.one _) rfl ⟨fun _ hw=>ai.mem hw,?_⟩);refine al ?_;refine Gi ?_;exact bj (x:=(i,s1)) (i+1,Tn) (by simp only;omega) (by simp only;omega) sb (fun w hw=>by
   simp only[fo];exact ai.mem hw)
 obtain rfl:i=dR.body.xs.length/2:=by omega
 rw[asy oM]at*;refine aM ?_;refine Gr fun w1 hw=>?_;exact⟨⟨dR.gen,⟨s1,p0 dR.body.xs⟩⟩,by rw[hE],by rw[hE];rfl,ai.mem hw⟩)⟩
instance To{l:Sl (Sl UInt8)}[hl:aU w0 L l]:bN Tryz.prog 257 w0 L [l.sv.val] (dE) (fun zz=> .tuple #[.int .i64 ((gm (aN l.xs)).1), .agg (eX zz), .int .i64 ((gm (aN l.xs)).2.2)]) (fun zz=>own bu 1 zz.at_.sv zz.at_.xs::L) (fun zz=>dI zz=(gm (aN l.xs)).2.1) (True):=⟨fun aH w hw=>Gk (fun zz:dE=>[own bu 1 zz.at_.sv zz.at_.xs]) hw (by
 have hl:=hl.h w hw;have pw:cL w l:=⟨hl⟩;have jH:=hl.1.bd;have jl:=oU l.xs;refine cB Tryz.func257 rfl Tryz.ntmps257 rfl ?_;refine av ?_;refine bl fun b3=>av ?_;refine ag (dm (v:= .agg (eX l5)) rfl (fun w=>by kernel_rfl)) (bl fun b6=>hU ?_);refine bQ (X:=Nat×dE) (fun zz=>[(16, .int .i64 (zz.1:Nat)),(5, .int .i64 ((dy (aN l.xs) zz.1).at_)),(6, .pointer (some ⟨b6,0,none⟩)),(7, .bool ((dy (aN l.xs) zz.1).found)),(8, .bool ((dy (aN l.xs) zz.1).blank)),(3, .pointer (some ⟨b3,0,none⟩)),(14,l.sv.val),(15, .int .i64 (l.xs.length:Nat))]) (fun zz=>[ar b6 (eX zz.2) 314,own bu 1 zz.2.at_.sv zz.2.at_.xs,ar b3 (eX l5) 314]) (fun zz=>zz.1<=l.xs.length/\dI zz.2=(dy (aN l.xs) zz.1).new) (fun zz=>l.xs.length -zz.1) (0,l5) ⟨Nat.zero_le _,rfl⟩ sb (fun w hw=>by
  have h9:Mem _ [ar b6 (eX l5) 314,own bu 1 Sv.none [],ar b3 (eX l5) 314] _:=ai.mem (Mem.dj bu 1 hw);exact h9) ?_
 rintro⟨i,d⟩ ⟨aZ,aE⟩;dsimp only;simp only at aZ aE;refine al ?_;refine Gb (fun h0=>?_) fun h0=>?_
 ·
  obtain⟨y,hy⟩:=get_some (xs:=l.xs) (i:=i) oM;have Dx:Mb y l:=⟨List.mem_of_getElem? hy⟩;have Tp:=qG hy;have Tq:d.gen.toNat=(dy (aN l.xs) i).new.gen:=congrArg RV.gen aE;refine av ?_;refine ag (aW rfl rfl i rfl oM) (ag (bE (j:=0) rfl i hy rfl (by decide)) (aS ?_));refine jr rfl rfl rfl (fun hg=>cj (eL (aF hg rfl) iV) trivial) (au ?_);refine aX rfl trivial fun dL ov=>?_;have Ts:dL.gen.toNat=(bD y.xs).1.gen:=congrArg RV.gen ov;refine Gs ?_;refine ag (aJ (v:= .agg (eX dL)) rfl rfl) (ag (aJ (v:= .int .i64 ((bD y.xs).2)) rfl rfl) (bl fun px=>cW ?_));refine jr rfl rfl rfl (fun hg=>(Ry.yl (ng (aF hg rfl)))) (jr rfl rfl rfl (fun hg=>(Ry.yl (bf (aF hg rfl)))) (u5 rfl rfl rfl (fun hg=>(Ry.yl (aO (o':=0) rfl rfl))) (u5 rfl rfl rfl (fun hg=>(Ry.yl (bY (aF hg rfl)))) (u5 rfl rfl rfl (fun hg=>(Ry.yl (aO (o':=0) rfl rfl))) (u5 rfl rfl rfl (fun hg=>(Ry.yl (bY (aF hg rfl)))) (u5 rfl rfl rfl (fun hg=>(Ry.yl (et (aF hg rfl) (aF hg rfl) rfl))) (jr rfl rfl rfl (fun hg=>(Ry.yl (zO (aF hg rfl) rfl (yj hg rfl)))) (av ?_))))))));refine Gb (fun h1=>?_) fun h1=>?_
  ·
   have hq:(bD y.xs).2=0/\((dy (aN l.xs) i).found=false\/(dy (aN l.xs) i).new.gen<=(bD y.xs).1.gen):=⟨h1.1,h1.2.imp (fun h=>h) (fun h=>by rw[←Tq,←Ts];omega)⟩;have vR:=Rf Tp hq;refine iY [3] [[],[],[],[],[3]] [0,1,2,3,4] [ar px (eX dL) 314] (fun _ hw=>ai.mem hw) oK oK (an rfl (bf rfl) (an rfl (jY rfl) (an rfl (hG rfl) (dH rfl (pV rfl rfl ⟨fun _ hw=>ai.mem hw,?_⟩)))));refine an rfl (hG rfl) (al ?_);refine Gi ?_;exact bj (x:=(i,d)) (i+1,dL) ⟨oF,by rw[vR];exact ov⟩ (by simp only;omega) (Sub.cons rfl (Sub.cons (look_eq rfl (by simp only[vR])) (Sub.cons rfl (Sub.cons (look_eq rfl (by simp only[vR])) (Sub.cons (look_eq rfl (by simp only[vR])) sb))))) (fun w hw=>ai.mem hw)
  have hq: ¬((bD y.xs).2=0/\((dy (aN l.xs) i).found=false\/(dy (aN l.xs) i).new.gen<=(bD y.xs).1.gen)):=fun hq=>by
   rw[←Tq,←Ts]at hq;rcases h1 with h|h
   ·
    exact h hq.1
   rcases hq.2 with g|g
   ·
    exact absurd (h.1.symm.trans g) (by simp)
   omega
  have vR:=Rh Tp hq;refine al ?_;refine Gi ?_;exact bj (x:=(i,d)) (i+1,d) ⟨oF,by rw[vR];exact aE⟩ (by simp only;omega) (Sub.cons rfl (Sub.cons (look_eq rfl (by simp only[vR])) (Sub.cons rfl (Sub.cons (look_eq rfl (by simp only[vR])) (Sub.cons (look_eq rfl (by simp only[vR])) sb))))) (fun w hw=>ai.mem hw)
 obtain rfl:i=l.xs.length:=by omega
 rw[←jl]at aE;refine au ?_;refine Gb (fun h2=>?_) fun h2=>?_
 ·
  have hE:gm (aN l.xs)=((dy (aN l.xs) (aN l.xs).length).at_,(dy (aN l.xs) (aN l.xs).length).new,0):=by rw[gm,if_pos (by rw[jl];exact h2)]
  refine Gi ?_;refine iY [3] [[],[],[],[],[3]] [0,1,2,3,4] [ar b6 (eX d) 314] (fun _ hw=>ai.mem hw) oK oK (an rfl (bf rfl) (an rfl (jY rfl) (an rfl (hG rfl) (dH rfl (pV rfl rfl ⟨fun _ hw=>ai.mem hw,?_⟩)))));refine an rfl (hG rfl) (Gc ?_);refine Gr fun w1 hw=>?_;exact⟨d,by rw[hE,jl],by rw[hE];exact aE,ai.mem hw⟩
 refine au ?_;refine Gb (fun h3=>?_) fun h3=>?_
 ·
  have hE:gm (aN l.xs)=(0,ig,6):=by rw[gm,if_neg (by rw[jl,h2];simp),if_pos (by rw[jl];exact h3)]
  refine Gc ?_;refine ag (dm (v:= .agg (eX l5)) rfl (fun w=>by kernel_rfl)) (au ?_);refine Gr fun w1 hw=>?_;exact⟨l5,by rw[hE],by rw[hE];rfl,Mem.dj bu 1 (ai.mem hw:Mem w [] _)⟩
 have hE:gm (aN l.xs)=(0,ig,2):=by rw[gm,if_neg (by rw[jl,h2];simp),if_neg (by rw[jl,h3];simp)]
 refine Gc ?_;refine ag (dm (v:= .agg (eX l5)) rfl (fun w=>by kernel_rfl)) (au ?_);refine Gr fun w1 hw=>?_;exact⟨l5,by rw[hE],by rw[hE];rfl,Mem.dj bu 1 (ai.mem hw:Mem w [] _)⟩)⟩
theorem adO(c:Cp)(s:Sl Int)(g:UInt64)(l:Int)(w:World):(Instr.build 63 #[(0, .agg (aT c)),(1,s.sv.val),(2, .int .u64 (g.toNat:Int)),(3, .int .i64 l)]).run Tryz.prog w= .ok (.agg (cw ⟨c,s,g,l⟩)) w:=by
 obtain⟨s,xs⟩:=s;obtain⟨a1,a2,⟨a3,a4⟩,a5,a6,⟨a7,a8⟩⟩:=c;unfold cw aT;obtain⟨e,b,o,l,c,p⟩:=s;obtain⟨e3,b3,o3,l3,c3,p3⟩:=a3;obtain⟨e7,b7,o7,l7,c7,p7⟩:=a7
 cases e<;>cases e3<;>cases e7<;>kernel_rfl
instance apr{c:Cp}[hc:aU w0 L c]:bN Tryz.prog 221 w0 L [.agg (aT c)] (cm) (fun zz=> .tuple #[.agg (cw zz), .int .i64 ((bG (cv c)).2)]) (fun zz=>own bu 1 zz.at_.sv zz.at_.xs::L) (fun zz=>vv zz=(bG (cv c)).1/\((bG (cv c)).2=0->zz.ae=c)) (True):=⟨fun aH w hw=>Gk (fun zz:cm=>[own bu 1 zz.at_.sv zz.at_.xs]) hw (by
 have hc:=hc.h w hw;have ln:cL w c:=⟨hc⟩;refine cB Tryz.func221 rfl Tryz.ntmps221 rfl ?_;refine Gc ?_;refine cf rfl fun b1=>bl fun b2=>aS ?_;refine Gb (fun h0=>?_) fun h0=>?_
 ·
  have hE:bG (cv c)=(lE,1):=by rw[bG,if_pos h0]
  have bO:(1:Int)≠0:=by decide
  refine Gc ?_;refine ag (dm (v:= .agg (cw l6)) rfl (fun w=>by kernel_rfl)) (al ?_);refine Gr fun w1 hw=>?_;exact⟨l6,by rw[hE],⟨by rw[hE];rfl,fun h=>absurd (by rw[hE]at h;exact h) bO⟩,Mem.dj bu 1 (ai.mem hw:Mem w [] _)⟩
 have pt:=fS.1 h0;have hk:=pt.1;have pq:(cv c).blocks.length=c.blocks.xs.length:=ia _;have iO:=lX.1 (fF.1 hk).1;obtain⟨B0,Bf⟩:=get_some (xs:=c.blocks.xs) (i:=0) oM;obtain⟨B1,uE⟩:=get_some (xs:=c.blocks.xs) (i:=1) oM;have adP:Mb B0 c.blocks:=⟨List.mem_of_getElem? Bf⟩;have adQ:Mb B1 c.blocks:=⟨List.mem_of_getElem? uE⟩;have o0:=(fk.1 ((fF.1 hk).2.2.2.2 (bv B0) (anc (nw Bf)))).1;have o1:=(fk.1 ((fF.1 hk).2.2.2.2 (bv B1) (anc (nw uE)))).1;have LQ:=oU B0.pages.xs;have LR:=oU B1.pages.xs;simp only[bv,cv]at o0 o1 iO;have hT:aN (fM [B0.pages,B1.pages])=(ak (cv c) 0).pages++(ak (cv c) 1).pages:=by
  rw[KD,show ak (cv c) 0=bv B0 from KE Bf,show ak (cv c) 1=bv B1 from KE uE];rfl
 have k7:=KC (l:=(ak (cv c) 0).pages++(ak (cv c) 1).pages) (by rw[←hT,KD,af0];omega);have jl:((ak (cv c) 0).pages++(ak (cv c) 1).pages).length=B0.pages.xs.length+B1.pages.xs.length:=by rw[←hT,KD,af0];omega
 have zm:0<=(bP (cv c)).1:=k7.1;have zj:(bP (cv c)).1<c.pages+c.pages:=by have:=k7.2;rw[jl]at this;change(bP (cv c)).1<_ at this;omega
 have gva:Rl w (fM [B0.pages,B1.pages]):=⟨fun y hy=>by
  simp only[fM,asL,ato,atL,avi,asZ,asz]at hy;rcases hy with hy|hy
  ·
   exact(hc.1.2 B0 adP.h).2 y hy
  exact(hc.1.2 B1 adQ.h).2 y hy⟩
 have aps:0<=((bP (cv c)).1/c.pages):=auu zm oM;have apt:((bP (cv c)).1/c.pages)<2:=Int.ediv_lt_of_lt_mul oM oM;have bB:=Rp ((ak (cv c) 0).pages++(ak (cv c) 1).pages);have LL:(c.blocks.xs.getD ((bP (cv c)).1/c.pages).toNat qF).used=(ak (cv c) ((bP (cv c)).1/c.pages)).used:=congrArg BV.used (yP (c:=c));refine au ?_;refine Gb (fun h1=>?_) fun h1=>?_
 ·
  have hE:bG (cv c)=(lE,7):=by rw[bG,if_neg (by rw[h0];simp),if_pos (show(cv c).off=true from h1)]
  have bO:(7:Int)≠0:=by decide
  refine Gc ?_;refine ag (dm (v:= .agg (cw l6)) rfl (fun w=>by kernel_rfl)) (al ?_);refine Gr fun w1 hw=>?_;exact⟨l6,by rw[hE],⟨by rw[hE];rfl,fun h=>absurd (by rw[hE]at h;exact h) bO⟩,Mem.dj bu 1 (ai.mem hw:Mem w [] _)⟩
 have q9: ¬(cv c).off=true:=by rw[show(cv c).off=c.off from rfl,h1];simp
 refine Gc ?_;refine ub [10,11,12,17,19,2010,2017,4011,4012] [[],[],[],[],[],[],[],[],[],[],[],[10],[10,11],[10,11,12],[10,11,12],[10,11,12],[10,11,12],[],[10,11,12,17],[10,11,12,17],[10,11,12,17,19]] [0,1,2,3,4,5,6,7,8,9,10,11,12,13,14,15,16,17,18,19,20] [ar b1 (aT c) 59] [(10,w7 (bT (τ:=Sl UInt8)) 1 2 [B0.pages,B1.pages]),(17,nr Tryz.prog 314)] oK (fun _ hw=>ai.mem hw) oK oK (an rfl (aO (o':=2) rfl rfl) (an rfl (bY rfl) (an rfl (aW rfl rfl 0 rfl oM) (an rfl (aO rfl rfl) (an rfl (bE (j:=0) rfl 0 Bf rfl (by decide)) (an rfl (aO (o':=2) rfl rfl) (an rfl (bY rfl) (an rfl (aW rfl rfl 1 rfl oM) (an rfl (aO rfl rfl) (an rfl (bE (j:=0) rfl 1 uE rfl (by decide)) (sE (m:=w7 (bT (τ:=Sl UInt8)) 1 2 [B0.pages,B1.pages]) rfl rfl (PY (enc:=(bT (τ:=Sl UInt8))) (c:=1) (n:=2) (vals:=[B0.pages.sv.val,B1.pages.sv.val]) [B0.pages,B1.pages] rfl (by simp only[asL,ato,Sv.iX];rfl) rfl (by decide) (by decide)) (Cert.one (i:=17) rfl rfl rfl mC (Cert.none rfl)) fun Hh=>?_)))))))))));change Ln _ _ _ _ _ _ _ _ (cJ _ _ (Sv.val ⟨false,Hh,0,2,2,none⟩)) (own (bT (τ:=Sl UInt8)) 1 ⟨false,Hh,0,2,2,none⟩ [B0.pages,B1.pages]::_) _;refine wY (hc:=Tk (a:=(⟨⟨false,Hh,0,2,2,none⟩,[B0.pages,B1.pages]⟩:Sl (Sl (Sl UInt8))))) (JQ:=fun e_=>Tk (a:=(⟨⟨false,Hh,0,2,2,none⟩,[B0.pages,B1.pages]⟩:Sl (Sl (Sl UInt8))))) rfl rfl (by simp only[fM,asL,ato,atL,avi,af0,asn];omega) (fun e x w hw=>ai.mem hw) (Cert.one (i:=17) rfl rfl rfl mC (Cert.none rfl)) fun qh te=>⟨fun _ hw=>ai.mem hw,?_⟩;refine wY (hc:=To (l:=(⟨qh,(fM [B0.pages,B1.pages])⟩:Sl (Sl UInt8)))) (JQ:=fun e_=>To (l:=(⟨qh,(fM [B0.pages,B1.pages])⟩:Sl (Sl UInt8)))) rfl rfl trivial (fun e x w hw=>ai.mem hw) (Cert.one (i:=17) rfl rfl rfl mC (Cert.none rfl)) fun dL ov=>⟨fun _ hw=>ai.mem hw,?_⟩;have jb:(gm (aN (fM [B0.pages,B1.pages]))).1=(bP (cv c)).1:=by rw[hT];rfl
 have LS:(gm (aN (fM [B0.pages,B1.pages]))).2.2=(bP (cv c)).2.2:=by rw[hT];rfl
 have Tt:dI dL=(bP (cv c)).2.1:=by rw[ov,hT];rfl
 have pv:dL.gen.toNat=(bP (cv c)).2.1.gen:=congrArg RV.gen Tt;have A3:dL.at_.xs=(bP (cv c)).2.1.at_:=congrArg RV.at_ Tt;refine an rfl (bf rfl) (an rfl (aJ (v:= .int .i64 ((gm (aN (fM [B0.pages,B1.pages]))).1)) rfl rfl) (an rfl (aJ (v:= .agg (eX dL)) rfl rfl) (an rfl (aJ (v:= .int .i64 ((gm (aN (fM [B0.pages,B1.pages]))).2.2)) rfl rfl) (sE (m:=nr Tryz.prog 314) rfl rfl mC (Cert.none rfl) fun b5=>?_))));change Ln _ _ _ _ _ _ _ _ (cJ _ _ (.pointer (some ⟨b5,0,none⟩))) (ar b5 (eX l5) 314::_) _;refine an rfl (hG rfl) (dH rfl (pV rfl rfl ⟨fun _ hw=>ai.mem hw,?_⟩));refine an rfl (hG rfl) (au ?_);refine Gb (fun h2=>?_) fun h2=>?_
 ·
  rw[LS]at h2;have hE:bG (cv c)=(lE,(bP (cv c)).2.2):=by rw[bG,if_neg (by rw[h0];simp),if_neg q9,if_pos h2]
  have bO:=h2;refine Gc ?_;refine ag (dm (v:= .agg (cw l6)) rfl (fun w=>by kernel_rfl)) (au ?_);refine Gr fun w1 hw=>?_;exact⟨l6,by rw[hE,LS],⟨by rw[hE];rfl,fun h=>absurd (by rw[hE]at h;exact h) bO⟩,Mem.dj bu 1 (ai.mem hw:Mem w [] _)⟩
 rw[LS]at h2;refine au ?_;refine ag (my rfl rfl oM oM) (av ?_);refine gJ oK oK (al ?_);refine bC (zV rfl rfl oM oM) (al ?_);refine bC (aW rfl rfl (((gm (aN (fM [B0.pages,B1.pages]))).1/c.pages).toNat) (by rw[jb];omega) (by rw[jb];omega)) (bC (aO rfl rfl) (bC (bE (j:=1) rfl (((gm (aN (fM [B0.pages,B1.pages]))).1/c.pages).toNat) (nP (xs:=c.blocks.xs) (i:=((gm (aN (fM [B0.pages,B1.pages]))).1/c.pages).toNat) (d:=qF) (by rw[jb];omega)) rfl (by decide)) (av ?_)));refine fD rfl rfl rfl (fun hg=>(Ry.yl (jY rfl))) (av ?_);refine fD rfl rfl rfl (fun hg=>cj (eL (aF hg rfl) (eL (aF hg rfl) iV)) ⟨hk,fun x hx=>bB x (by rw[A3]at hx;exact hx)⟩) (fD rfl rfl rfl (fun hg=>(Ry.yl (ng (aF hg rfl)))) (av ?_));refine Gb (fun h3=>?_) fun h3=>?_
 ·
  have wS:mG (cv c)=false:=by
   rw[A3]at h3
   cases uB:mG (cv c)with
   |false=>rfl
   |true=>
    simp only[mG,alM,decide_eq_true_eq]at uB;rw[uB.2]at h3;simp only[aue,or_false]at h3;have:=uB.1;rw[jb,LL]at h3;exact absurd this (by simp only[cv]at*;omega)
  have hE:bG (cv c)=(lE,2):=by rw[bG,if_neg (by rw[h0];simp),if_neg q9,if_neg oM,if_pos wS]
  have bO:(2:Int)≠0:=by decide
  refine Gc ?_;refine ag (dm (v:= .agg (cw l6)) rfl (fun w=>by kernel_rfl)) (al ?_);refine Gr fun w1 hw=>?_;exact⟨l6,by rw[hE],⟨by rw[hE];rfl,fun h=>absurd (by rw[hE]at h;exact h) bO⟩,Mem.dj bu 1 (ai.mem hw:Mem w [] _)⟩
 have wS:mG (cv c)=true:=by
  rw[A3,jb,LL]at h3;simp only[mG,alM,decide_eq_true_eq];exact⟨by have:=h3.1;simp only[cv]at*;omega,h3.2⟩
 have hE:bG (cv c)=(⟨cv c,(bP (cv c)).2.1.at_,(bP (cv c)).2.1.gen,(bP (cv c)).1/c.pages⟩,0):=by rw[bG,if_neg (by rw[h0];simp),if_neg q9,if_neg oM,if_neg (by rw[wS];simp)];rfl
 refine cW ?_;refine ag (dm (v:= .agg (cw ⟨c,dL.at_,dL.gen,((gm (aN (fM [B0.pages,B1.pages]))).1/c.pages)⟩)) rfl (adO c dL.at_ dL.gen ((gm (aN (fM [B0.pages,B1.pages]))).1/c.pages))) (al ?_);refine Gr fun w1 hw=>?_;exact⟨⟨c,dL.at_,dL.gen,(gm (aN (fM [B0.pages,B1.pages]))).1/c.pages⟩,by rw[hE],⟨by rw[hE];simp only[vv,A3,pv,jb],fun _=>rfl⟩,ai.mem hw⟩)⟩
instance apu{c:Cp}[hc:aU w0 L c]:bN Tryz.prog 180 w0 L [.agg (aT c)] (cm) (fun zz=> .tuple #[.agg (cw zz), .int .i64 ((bG (cv c)).2)]) (fun zz=>fz zz.ae::own bu 1 zz.at_.sv zz.at_.xs::L) (fun zz=>vv zz=(if(bG (cv c)).2=0 then(bG (cv c)).1 else lE)) (True):=⟨fun aH w hw=>Gk (fun zz:cm=>[fz zz.ae,own bu 1 zz.at_.sv zz.at_.xs]) hw (by
 have hc:=hc.h w hw;have ln:cL w c:=⟨hc⟩;refine cB Tryz.func180 rfl Tryz.ntmps180 rfl ?_;refine Gc ?_;refine cf rfl fun b1=>bl fun b2=>al ?_;refine aX rfl trivial fun x8 rJ=>?_;obtain⟨Tu,Tw⟩:=rJ;have hl8:=Rr (cv c);have ha8:x8.at_.xs=(bG (cv c)).1.at_:=congrArg VV.at_ Tu;rw[←ha8]at hl8;refine Gs ?_;refine ag (aJ (v:= .agg (cw x8)) rfl rfl) (ag (aJ (v:= .int .i64 ((bG (cv c)).2)) rfl rfl) (bl fun b4=>aS ?_));refine Gb (fun h0=>?_) fun h0=>?_
 ·
  refine Gc ?_;refine ag (dm (v:= .agg (cw l6)) rfl (fun w=>by kernel_rfl)) (au ?_);refine Gr fun w1 hw=>?_;exact⟨l6,rfl,by rw[if_neg h0];rfl,abA (Mem.dj bu 1 (ai.mem hw:Mem w [] _))⟩
 have zn:(bG (cv c)).2=0:=h0;have ec:Rs x8.ae c:=⟨Tw zn⟩;have lM:gO x8.ae:=by rw[Tw zn];exact rr (fS.1 (KF zn)).1
 refine ky ?_;refine sh [Deep.bR x8.at_,ar b4 (cw x8) 63,ar b2 (cw l6) 63,ar b1 (aT c) 59] (fun w hw=>ai.mem (Mem.Qg (ai.mem hw:Mem _ [own bu 1 x8.at_.sv x8.at_.xs,ar b4 (cw x8) 63,ar b2 (cw l6) 63,ar b1 (aT c) 59] _))) (Gi ?_);refine Gs ?_;refine aX rfl ⟨by assumption,by omega⟩ fun aB ki=>al ?_;refine Gr fun w1 hw=>?_;exact⟨(⟨aB.1,⟨aB.2,x8.at_.xs⟩,x8.gen,x8.last⟩:cm),by rw[zn],by
  rw[if_pos zn,←Tu];simp only[vv,ki],ai.mem hw⟩)⟩
instance apv{v:cm}[hv:aU w0 L v]:cE Tryz.prog 173 w0 L [.agg (cw v)] (.bool (me (vv v))) (True):=⟨fun aH w hw=>by
 have hv:=hv.h w hw;have Dt:cL w v:=⟨hv⟩;refine cB Tryz.func173 rfl Tryz.ntmps173 rfl ?_;refine Gc ?_;refine cf rfl fun b1=>al ?_;refine ag (hK rfl) (bl fun b3=>al ?_);refine eu (cs':=aT (⟨v.ae.pages,v.ae.size,v.ae.blocks,v.ae.ops,false,v.ae.aV⟩:Cp)) rfl rfl (by show 4<6;decide) (by first|rfl|exact Sv.one _) rfl (av ?_);refine aX rfl trivial fun dR zl=>?_;obtain⟨LU,apw⟩:=zl;have hvg:dR.gen.toNat=(bG {(vv v).ae with off:=false}).1.gen:=congrArg VV.gen LU
 have Bg:dR.last=(bG {(vv v).ae with off:=false}).1.last:=congrArg VV.last LU
 have hva:dR.at_.xs=(bG {(vv v).ae with off:=false}).1.at_:=congrArg VV.at_ LU
 refine Gs ?_;refine ag (aJ (v:= .agg (cw dR)) rfl rfl) (ag (aJ (v:= .int .i64 ((bG (cv (⟨v.ae.pages,v.ae.size,v.ae.blocks,v.ae.ops,false,v.ae.aV⟩:Cp))).2)) rfl rfl) (bl fun b4=>ZF ?_));refine jr rfl rfl rfl (fun hg=>cj (eL (aF hg rfl) (eL (aF hg rfl) iV)) trivial) (al ?_);refine Gr fun w1 hw=>?_;exact⟨congrArg (fun b=>Ending.returned (Value.bool b)) ((by rw[show decide (((dR.gen.toNat:Nat):Int)=((v.gen.toNat:Nat):Int))=decide (dR.gen.toNat=v.gen.toNat)from decide_eq_decide.2 oM,me,←hvg,←Bg,←hva];rfl)),ai.mem hw⟩⟩
instance Tx{v:cm}{id:Int}[hv:aU w0 L v]:bN Tryz.prog 347 w0 L [.agg (cw v), .int .i64 id] (Sv) (fun zz=>zz.val) (fun zz=>own aG 1 zz (ji (cv v.ae) (v.at_.xs.getD id.toNat 0))::L) (fun zz=>True) (ba (cv v.ae)=true/\ ∃y,v.at_.xs[id.toNat]? =Option.some y/\0<=id/\1<=y/\y<=1000000/\2<=(y -1)/(cv v.ae).pages/\(y -1)/(cv v.ae).pages<((cv v.ae).blocks.length:Int)):=⟨fun aH w hw=>Gk (fun zz=>[own aG 1 zz (ji (cv v.ae) (v.at_.xs.getD id.toNat 0))]) hw (by
 have hv:=hv.h w hw;have Dt:cL w v:=⟨hv⟩;obtain⟨hk,y,hy,hid,G5,Dy,g1,g2⟩:=aH;have mQ:v.at_.xs.getD id.toNat 0=y:=p6 hy;have dK:=(ad2.1 hy).1;have dW:=ia v.ae.blocks.xs;have iO:=lX.1 (fF.1 hk).1;simp only[cv,dW]at iO;have Dv:0<=((y -1)/v.ae.pages):=auu oM oM;have oq:0<=((y -1)%v.ae.pages):=auw _ oM;have qe:((y -1)%v.ae.pages)<v.ae.pages:=auE _ oM;have pt:=yP (c:=v.ae) (b:=((y -1)/v.ae.pages));change 2<=((y -1)/v.ae.pages)at g1;change((y -1)/v.ae.pages)<((jh v.ae.blocks.xs).length:Int)at g2;rw[dW]at g2;obtain⟨B,hB⟩:=get_some (xs:=v.ae.blocks.xs) (i:=((y -1)/v.ae.pages).toNat) oM;have ta:Mb B v.ae.blocks:=⟨List.mem_of_getElem? hB⟩;have ff:bv B=ak (cv v.ae) ((y -1)/v.ae.pages):=by rw[←pt];simp[List.getD,hB]
 have gC:=fk.1 ((fF.1 hk).2.2.2.2 (bv B) (anc (nw hB)));have jl:=oU B.pages.xs;have Dw:(B.pages.xs.length:Int)=v.ae.pages:=by have:=gC.1;simp only[bv,cv,jl]at this;exact this
 obtain⟨z,hz⟩:=get_some (xs:=B.pages.xs) (i:=((y -1)%v.ae.pages).toNat) oM;have xF:Mb z B.pages:=⟨List.mem_of_getElem? hz⟩;have qN:bL (cv v.ae) (y -1)=z.xs:=by
  show(ak (cv v.ae) ((y -1)/v.ae.pages)).pages.getD ((y -1)%v.ae.pages).toNat []=z.xs;rw[←ff];simp[bv,List.getD,qG hz]
 refine cQ Tryz.func347 rfl Tryz.ntmps347 rfl ?_;refine Gc ?_;refine cf rfl fun b2=>aM ?_;refine ag (aW rfl rfl id.toNat oM oM) (ag (bE (j:=0) rfl id.toNat hy rfl (by decide)) (al ?_));refine ub [18,22,23,2022,4018] [[],[],[],[],[],[],[],[],[],[],[],[],[],[],[],[],[],[],[],[18],[18],[18],[],[18,22],[18,22,23]] [0,1,2,3,4,5,6,7,8,9,10,11,12,13,14,15,16,17,18,19,20,21,22,23,24] [ar b2 (cw v) 63] [(22,nr Tryz.prog 324)] oK (fun _ hw=>ai.mem hw) oK oK (an rfl (aO (o':=0) rfl rfl) (an rfl (aO (o':=2) rfl rfl) (an rfl (bY rfl) (an rfl (bf rfl) (an rfl (aO (o':=0) rfl rfl) (an rfl (aO (o':=0) rfl rfl) (an rfl (bY rfl) (an rfl (my rfl rfl oM oM) (an rfl (aW rfl rfl (((y -1)/v.ae.pages).toNat) oM oM) (an rfl (aO rfl rfl) (an rfl (bE (j:=0) rfl (((y -1)/v.ae.pages).toNat) hB rfl (by decide)) (an rfl (bf rfl) ?_))))))))))));refine an rfl (aO (o':=0) rfl rfl) (an rfl (aO (o':=0) rfl rfl) (an rfl (bY rfl) (an rfl (zV rfl rfl oM oM) (an rfl (aW rfl rfl (((y -1)%v.ae.pages).toNat) oM oM) (an rfl (bE (j:=0) rfl (((y -1)%v.ae.pages).toNat) hz rfl (by decide)) ?_)))));refine wY rfl rfl trivial (fun e x w hw=>ai.mem hw) (Cert.one (i:=22) rfl rfl rfl mC (Cert.none rfl)) fun gu rN=>⟨fun _ hw=>ai.mem hw,?_⟩;have e1:gu.body.xs=(cI z.xs).1.body:=congrArg PV.body rN;refine an rfl (bf rfl) (an rfl (aJ (v:= .agg (da gu)) rfl rfl) (an rfl (aJ (v:= .int .i64 ((cI z.xs).2)) rfl rfl) (sE (m:=nr Tryz.prog 324) rfl rfl mC (Cert.none rfl) fun b6=>?_)));change Ln _ _ _ _ _ _ _ _ (cJ _ _ (.pointer (some ⟨b6,0,none⟩))) (ar b6 (da o8) 324::_) _;refine dH rfl (pV rfl rfl ⟨fun _ hw=>ai.mem hw,?_⟩);refine an rfl (hG rfl) (au ?_);refine Gb (fun h0=>?_) fun h0=>?_
 ·
  have hE:(ji (cv v.ae) (v.at_.xs.getD id.toNat 0))=[]:=by rw[mQ,ji,qN,if_neg h0]
  refine al ?_;refine Gr fun w1 hw=>?_;exact⟨Sv.none,rfl,trivial,by rw[hE];exact Mem.dj aG 1 (ai.mem hw:Mem w [] _)⟩
 have zn:(cI z.xs).2=0:=h0;have hE:(ji (cv v.ae) (v.at_.xs.getD id.toNat 0))=gu.body.xs:=by rw[mQ,ji,qN,if_pos zn,e1]
 refine aM ?_;refine Gr fun w1 hw=>?_;exact⟨gu.body.sv,rfl,trivial,by rw[hE];exact ai.mem hw⟩)⟩
instance apx{x:fm}{n:Int}[hx:aU w0 L x]:bN Tryz.prog 255 w0 L [.agg (da x), .int .i64 n] (Sv) (fun zz=> .tuple #[zz.val, .int .i64 ((du (cR x) n).2)]) (fun zz=>own aG 1 zz (du (cR x) n).1::L) (fun zz=>True) (True):=⟨fun aH w hw=>Gk (fun zz=>[own aG 1 zz (du (cR x) n).1]) hw (by
 have hx:=hx.h w hw;have Bb:cL w x:=⟨hx⟩;refine cQ Tryz.func255 rfl Tryz.ntmps255 rfl ?_;refine Gc ?_;refine cf rfl fun b2=>eI ?_;refine Gb (fun h0=>?_) fun h0=>?_
 ·
  have hE:du (cR x) n=([],1):=by rw[du,if_neg (by rw[h0];simp)]
  refine au ?_;refine Gr fun w1 hw=>?_;exact⟨Sv.none,by rw[hE];rfl,trivial,by rw[hE];exact Mem.dj aG 1 (ai.mem hw:Mem w [] _)⟩
 have hE:du (cR x) n=((jJ (cR x) n.toNat)++be (kz (jJ (cR x) n.toNat)) 4,0):=by rw[du,if_pos h0]
 obtain⟨m1,m2,m3,m4,m5,m6⟩:=rv.1 h0;have hft:=sJ.1 m1;have Du:dV n=n -16:=by rw[dV,if_pos m1]
 simp only[cR]at m2 m3 m4 m5 m6;have Qd:(List.replicate (n.toNat -4) (0:UInt8)).length=n.toNat -4:=ata;have dW:x.body.xs.length+16<=n.toNat:=by omega
 have hg6:=gK x.gen.toNat 6;have Bh:=gK x.body.xs.length 2;have oH:=AA (jJ (cR x) n.toNat);have bW:(jJ (cR x) n.toNat).length=n.toNat -4:=abq (by simp only[cR];omega);refine al ?_;refine sg (enc:=aG) (n:=(n.toNat -4)) (cap:=(n.toNat -4)) 0 rfl rfl rfl oM oM oM oM oM fun kh=>Gs ?_;refine ky ?_;have Dz:=Gl (b:=kh) (n:=(n.toNat -4)) oM;refine iY [9,11] [[],[],[],[],[],[],[],[],[],[],[9],[9]] [0,1,2,3,4,5,6,7,8,9,10,11] [ar b2 (da x) 324] (fun _ hw=>ai.mem hw) oK oK (an rfl (bf rfl) (an rfl (bf rfl) (an rfl (aO (o':=0) rfl rfl) (an rfl (bY rfl) (an rfl (pK rfl (uf _)) (an rfl (aO (o':=1) rfl rfl) (an rfl (bY rfl) (an rfl (pK rfl (uf _)) (an rfl (mz (s:=⟨false,kh,0,(n.toNat -4),(n.toNat -4),none⟩) (i:=0) rfl rfl rfl Dz (by simp only;omega)) (dH rfl (wW (s:=⟨false,kh,0,(n.toNat -4),(n.toNat -4),none⟩) (n:=1) (k:=0) (j:=0) (a:=0) (a':=bS x.kind) (xs:=(List.replicate (n.toNat -4) (0:UInt8))) (enc:=aG) (c:=1) (v:= .int .u8 (bS x.kind).toNat) oK rfl rfl rfl (by rw[auH,if_pos oM]) (by simp[Value.cells,Value.oneCell']) rfl oM (by rfl) ⟨fun _ hw=>ai.mem hw,?_⟩)))))))))));refine an rfl (mz (s:=⟨false,kh,0,(n.toNat -4),(n.toNat -4),none⟩) (i:=1) rfl rfl rfl Dz (by simp only;omega)) (dH rfl (wW (s:=⟨false,kh,0,(n.toNat -4),(n.toNat -4),none⟩) (n:=1) (k:=1) (j:=0) (a:=0) (a':=bS x.id) (xs:=((List.replicate (n.toNat -4) (0:UInt8)).set 0 (bS x.kind))) (enc:=aG) (c:=1) (v:= .int .u8 (bS x.id).toNat) oK rfl rfl rfl (by rw[asS (by decide),auH,if_pos oM]) (by simp[Value.cells,Value.oneCell']) rfl oM (by rfl) ⟨fun _ hw=>ai.mem hw,?_⟩));refine ky ?_;refine sh [own aG 1 ⟨false,kh,0,(n.toNat -4),(n.toNat -4),none⟩ ([bS x.kind,bS x.id]++List.replicate ((n.toNat -4) -2) (0:UInt8)),ar b2 (da x) 324] (fun w hw=>by
  rw[abp oM]at hw;exact ai.mem hw) ?_
 refine iY [4,5] [[],[],[],[],[],[4]] [0,1,2,3,4,5] [ar b2 (da x) 324] (fun _ hw=>ai.mem hw) oK oK (an rfl (bf rfl) ?_);have adR:Rg 2 8 (List.replicate (n.toNat -4) (0:UInt8)).length:=⟨by omega⟩;refine an rfl (ET (s:=⟨false,kh,0,(n.toNat -4),(n.toNat -4),none⟩) (l:=2) (h:=8) rfl rfl rfl rfl rfl Dz oM (by simp only;omega)) (an rfl (aO (o':=2) rfl rfl) (an rfl (bY rfl) (dH rfl (pU (vs:=[_, .int .i64 ((6:Nat):Int)]) rfl ⟨by omega,by omega,by omega⟩ fun dL ov=>⟨fun _ hw=>ai.mem hw,?_⟩))));refine dH rfl (Kk (D:=Sv.sub ⟨false,kh,0,(n.toNat -4),(n.toNat -4),none⟩ 1 2 8) (S:=dL) (rm:=⟨false,kh,0,(n.toNat -4),(n.toNat -4),none⟩) (k:=2) (xs:=([bS x.kind,bS x.id]++List.replicate ((n.toNat -4) -2) (0:UInt8))) (ys:=(be x.gen.toNat 6)) rfl rfl rfl rfl (by simp only[Sv.sub];rw[if_neg oM]) rfl (by decide) rfl (by simp only[Sv.sub,gK];omega) (by simp only[af0,gK,ata,asm,asn];omega) ⟨fun _ hw=>ai.mem hw,?_⟩);refine ky ?_;refine sh [own aG 1 ⟨false,kh,0,(n.toNat -4),(n.toNat -4),none⟩ ([bS x.kind,bS x.id]++(be x.gen.toNat 6)++List.replicate ((n.toNat -4) -2 -(be x.gen.toNat 6).length) (0:UInt8)),ar b2 (da x) 324] (fun w hw=>by
  rw[KA (A:=[bS x.kind,bS x.id]) (k:=2) rfl]at hw;exact ai.mem hw) ?_
 refine iY [6,7] [[],[],[],[],[],[],[],[6]] [0,1,2,3,4,5,6,7] [ar b2 (da x) 324] (fun _ hw=>ai.mem hw) oK oK (an rfl (bf rfl) ?_);have apy:Rg 8 10 (List.replicate (n.toNat -4) (0:UInt8)).length:=⟨by omega⟩;refine an rfl (ET (s:=⟨false,kh,0,(n.toNat -4),(n.toNat -4),none⟩) (l:=8) (h:=10) rfl rfl rfl rfl rfl Dz oM (by simp only;omega)) (an rfl (aO (o':=3) rfl rfl) (an rfl (bY rfl) (an rfl (tP rfl) (an rfl (gH rfl (by simp only[nb];omega)) (dH rfl (pU (vs:=[_, .int .i64 ((2:Nat):Int)]) rfl ⟨by omega,by omega,by omega⟩ fun x36 apz=>⟨fun _ hw=>ai.mem hw,?_⟩))))));refine dH rfl (Kk (D:=Sv.sub ⟨false,kh,0,(n.toNat -4),(n.toNat -4),none⟩ 1 8 10) (S:=x36) (rm:=⟨false,kh,0,(n.toNat -4),(n.toNat -4),none⟩) (k:=8) (xs:=([bS x.kind,bS x.id]++(be x.gen.toNat 6)++List.replicate ((n.toNat -4) -2 -(be x.gen.toNat 6).length) (0:UInt8))) (ys:=(be x.body.xs.length 2)) rfl rfl rfl rfl (by simp only[Sv.sub];rw[if_neg oM]) rfl (by decide) rfl (by simp only[Sv.sub,gK];omega) (by simp only[af0,gK,ata,asm,asn];omega) ⟨fun _ hw=>ai.mem hw,?_⟩);refine ky ?_;refine sh [own aG 1 ⟨false,kh,0,(n.toNat -4),(n.toNat -4),none⟩ ([bS x.kind,bS x.id]++(be x.gen.toNat 6)++(be x.body.xs.length 2)++List.replicate ((n.toNat -4) -2 -(be x.gen.toNat 6).length -(be x.body.xs.length 2).length) (0:UInt8)),ar b2 (da x) 324] (fun w hw=>by
  rw[KA (A:=[bS x.kind,bS x.id]++(be x.gen.toNat 6)) (k:=8) (by simp[gK])]at hw;exact ai.mem hw) ?_
 refine iY [4] [[],[],[],[],[]] [0,1,2,3,4] [ar b2 (da x) 324] (fun _ hw=>ai.mem hw) oK oK (an rfl (bf rfl) ?_);have apA:Rg 10 ((List.replicate (n.toNat -4) (0:UInt8)).length) (List.replicate (n.toNat -4) (0:UInt8)).length:=⟨by omega⟩;refine an rfl (tM (s:=⟨false,kh,0,(n.toNat -4),(n.toNat -4),none⟩) (l:=10) (n:=(n.toNat -4)) rfl rfl rfl Dz rfl oM) (an rfl (aO (o':=3) rfl rfl) (an rfl (bY rfl) ?_));refine dH rfl (Kk (D:=Sv.sub ⟨false,kh,0,(n.toNat -4),(n.toNat -4),none⟩ 1 10 (n.toNat -4)) (S:=x.body.sv) (rm:=⟨false,kh,0,(n.toNat -4),(n.toNat -4),none⟩) (k:=10) (xs:=([bS x.kind,bS x.id]++(be x.gen.toNat 6)++(be x.body.xs.length 2)++List.replicate ((n.toNat -4) -2 -(be x.gen.toNat 6).length -(be x.body.xs.length 2).length) (0:UInt8))) (ys:=x.body.xs) rfl rfl rfl rfl (by simp only[Sv.sub];rw[if_neg oM]) rfl (by decide) rfl (by simp only[Sv.sub,gK];omega) (by simp only[af0,gK,ata,asm,asn];omega) ⟨fun _ hw=>ai.mem hw,?_⟩);refine ky ?_;refine sh [own aG 1 ⟨false,kh,0,(n.toNat -4),(n.toNat -4),none⟩ (jJ (cR x) n.toNat),ar b2 (da x) 324] (fun w hw=>by
  rw[KA (A:=[bS x.kind,bS x.id]++(be x.gen.toNat 6)++(be x.body.xs.length 2)) (k:=10) (by simp[gK]),show([bS x.kind,bS x.id]++(be x.gen.toNat 6)++(be x.body.xs.length 2)++x.body.xs++List.replicate ((n.toNat -4) -2 -(be x.gen.toNat 6).length -(be x.body.xs.length 2).length -x.body.xs.length) (0:UInt8))=(jJ (cR x) n.toNat)from by
   simp only[jJ,cR,gK];congr 2<;>omega]at hw
  exact ai.mem hw) ?_
 refine Gi ?_;refine al ?_;refine ag (gH rfl (by simp only[nb];omega)) (aX (vs:=[_, .int .i64 ((4:Nat):Int)]) rfl ⟨by omega,by omega,by omega⟩ fun kj vS=>?_);refine jF (enc:=(bT (τ:=UInt8))) [(⟨⟨false,kh,0,(n.toNat -4),(n.toNat -4),none⟩,(jJ (cR x) n.toNat)⟩:Sl UInt8),⟨kj,be (kz (jJ (cR x) n.toNat)) 4⟩] (vals:=[(⟨false,kh,0,(n.toNat -4),(n.toNat -4),none⟩:Sv).val,kj.val]) rfl (by simp only[asL,ato,Sv.iX];rfl) rfl (by decide) (by decide) fun b48=>?_;refine J3 (τ:=Sl UInt8) (xs:=[(⟨⟨false,kh,0,(n.toNat -4),(n.toNat -4),none⟩,(jJ (cR x) n.toNat)⟩:Sl UInt8),⟨kj,be (kz (jJ (cR x) n.toNat)) 4⟩]) fun a48 JY g48=>?_;have Ds:jw a48.xs=(du (cR x) n).1:=by rw[JY,hE];simp[jw]
 have hf9:(du (cR x) n).1.length<=1000:=by rw[hE,af0,gK];omega
 refine aX rfl (by rw[Ds];omega) fun x49 apB=>al ?_;refine Gr fun w1 hw=>?_;exact⟨x49,by rw[hE],trivial,by rw[←Ds];exact ai.mem hw⟩)⟩
theorem adS(i:Int)(g:UInt64)(w:World):(Instr.build 324 #[(0, .int .i64 2),(1, .int .i64 i),(2, .int .u64 (g.toNat:Int))]).run Tryz.prog w= .ok (.agg (da ⟨2,i,g,⟨Sv.none,[]⟩⟩)) w:=by
 unfold da;kernel_rfl
instance apC{r:dE}{n:Int}[hr:aU w0 L r]:bN Tryz.prog 218 w0 L [.agg (eX r), .int .i64 n] (Sv) (fun zz=> .tuple #[zz.val, .int .i64 ((c0 (dI r) n).2)]) (fun zz=>own aG 1 zz (c0 (dI r) n).1::L) (fun zz=>True) (True):=⟨fun aH w hw=>Gk (fun zz=>[own aG 1 zz (c0 (dI r) n).1]) hw (by
 have hr:=hr.h w hw;have ghr:cL w r:=⟨hr⟩;have jH:=hr.1.bd;refine cQ Tryz.func218 rfl Tryz.ntmps218 rfl ?_;refine Gc ?_;refine cf rfl fun b2=>eI ?_;refine Gb (fun h0=>?_) fun h0=>?_
 ·
  have hE:c0 (dI r) n=([],1):=by rw[c0,if_neg (by rw[h0];simp)]
  refine au ?_;refine Gr fun w1 hw=>?_;exact⟨Sv.none,by rw[hE];rfl,trivial,by rw[hE];exact Mem.dj aG 1 (ai.mem hw:Mem w [] _)⟩
 have hE:c0 (dI r) n=du (⟨2,(max 0 (r.at_.xs.length -1:Int)),r.gen.toNat,gU r.at_.xs⟩:PV) n:=by rw[c0,if_pos h0];rfl
 obtain⟨m1,m2,m3,m4⟩:=xk.1 h0;have hmf:kB n<=64:=by rw[kB];omega
 simp only[dI]at m2 m3 m4;refine aM ?_;refine ag (wE rfl rfl) (av ?_);refine ag (dm (v:= .agg (da (⟨2,(max 0 (r.at_.xs.length -1:Int)),r.gen,⟨Sv.none,[]⟩⟩:fm))) rfl (adS _ r.gen)) (bl fun b6=>cW ?_);refine bQ (X:=Nat×Sv) (fun zz=>[(24, .int .i64 (zz.1:Nat)),(6, .pointer (some ⟨b6,0,none⟩)),(1, .int .i64 n),(22,r.at_.sv.val),(23, .int .i64 (r.at_.xs.length:Nat))]) (fun zz=>[ar b6 (da (⟨2,(max 0 (r.at_.xs.length -1:Int)),r.gen,⟨zz.2,gU (r.at_.xs.take zz.1)⟩⟩:fm)) 324,own aG 1 zz.2 (gU (r.at_.xs.take zz.1)),ar b2 (eX r) 314]) (fun zz=>zz.1<=r.at_.xs.length) (fun zz=>r.at_.xs.length -zz.1) (0,Sv.none) (asO _) sb (fun w hw=>by
  simp only[asW,gU,ato,avi];exact ai.mem (Mem.dj aG 1 hw)) ?_
 rintro⟨i,s1⟩ aZ;dsimp only;simp only at aZ;refine al ?_;refine Gb (fun h1=>?_) fun h1=>?_
 ·
  obtain⟨y,hy⟩:=get_some (xs:=r.at_.xs) (i:=i) oM;have LG:=C3.1 (m4 y (anc hy));have fo:gU (r.at_.xs.take (i+1))=gU (r.at_.xs.take i)++[bS (y/256),bS y]:=abt hy;have td:=AO (r.at_.xs.take i);have hnt:(r.at_.xs.take i).length<=64:=by rw[asq];omega
  refine Gc ?_;refine ag (aW rfl rfl i rfl oM) (ag (bE (j:=0) rfl i hy rfl (by decide)) (aM ?_));refine ag (Ry.to (v':= .int .i64 (y/256)) (wF (p:=y.toNat) (Eq.trans (b:=some (Value.int .i64 y)) rfl (by rw[atC LG.1])) rfl (by simp only[nb];omega) oM) (by rw[show(8:Int).toNat=8 from rfl];congr 1;omega)) (ag (pK rfl (uf _)) (Gs ?_));refine ag (pK rfl (uf _)) ?_;refine jF (enc:=aG) (vals:=[_,_]) [(bS (y/256)),(bS y)] rfl rfl rfl (by decide) (by decide) fun Ty=>?_;refine gS (s:=s1) (ys:=[(bS (y/256)),(bS y)]) rfl rfl (by decide) (fun w hw=>fY (s:=⟨false,Ty,0,2,2,none⟩) Tryz.underlying53 (by decide) ((inferInstance:Hd _ _ ⟨false,Ty,0,2,2,none⟩ aG 1 [(bS (y/256)),(bS y)]).h w hw)) (by simp only[asm,asn];omega) (by simp only[asm,asn];omega) fun Tz apD apE=>?_;refine Gs ?_;refine eu (cs':=da (⟨2,(max 0 (r.at_.xs.length -1:Int)),r.gen,⟨Tz,((gU (r.at_.xs.take i))++[(bS (y/256)),(bS y)])⟩⟩:fm)) rfl rfl (by show 3<4;decide) (by first|rfl|exact Sv.one _) rfl (al ?_);refine Gi ?_;exact bj (x:=(i,s1)) (i+1,Tz) (by simp only;omega) (by simp only;omega) sb (fun w hw=>by
   simp only[fo];exact ai.mem hw)
 obtain rfl:i=r.at_.xs.length:=by omega
 rw[asP];refine nt ?_;refine sh [Deep.bR (⟨s1,gU r.at_.xs⟩:Sl UInt8),ar b6 (da (⟨2,(max 0 (r.at_.xs.length -1:Int)),r.gen,⟨s1,gU r.at_.xs⟩⟩:fm)) 324] (fun w hw=>ai.mem (Mem.Qg (ai.mem hw:Mem _ [own aG 1 s1 (gU r.at_.xs),ar b6 (da (⟨2,(max 0 (r.at_.xs.length -1:Int)),r.gen,⟨s1,gU r.at_.xs⟩⟩:fm)) 324] _))) (Gi ?_);refine av ?_;refine aX rfl trivial fun jm LV=>ag (aJ (v:=jm.val) rfl rfl) (ag (aJ (v:= .int .i64 ((du (cR (⟨2,(max 0 (r.at_.xs.length -1:Int)),r.gen,⟨s1,gU r.at_.xs⟩⟩:fm)) n).2)) rfl rfl) (al ?_));refine Gr fun w1 hw=>?_;exact⟨jm,by rw[hE];rfl,trivial,by
  have h1:Mem w [own aG 1 jm (du (cR (⟨2,(max 0 (r.at_.xs.length -1:Int)),r.gen,⟨s1,gU r.at_.xs⟩⟩:fm)) n).1] _:=ai.mem hw;rw[hE];exact h1⟩)⟩
instance apF{xb:Nat}{xc:Cp}{xa:Sl Int}{xg:UInt64}{xl:Int}{xy:Bool}[eH:mR w0 L xb (aP (⟨⟨xc,xa,xg,xl⟩,xy⟩:aQ)) 261][dS:aU w0 L xc]:cE Tryz.prog 176 w0 L [.pointer (some ⟨xb,0,none⟩)] (.int .i64 (nz (cv xc):Nat)) (True):=⟨fun aH w hw=>by
 have eH:=eH.h w hw;have dS:=dS.h w hw;have vT:rM w xb (aP (⟨⟨xc,xa,xg,xl⟩,xy⟩:aQ)) 261:=⟨eH⟩;have vU:cL w xc:=⟨dS⟩;have jH:=dS.1.1.bd;have dW:(cv xc).blocks.length=xc.blocks.xs.length:=ia _;refine cB Tryz.func176 rfl Tryz.ntmps176 rfl ?_;refine sF ?_;refine ag (Ry.to (v':=xc.blocks.sv.val) (ou rfl) rfl) (al ?_);refine bQ (X:=Nat) (fun zz=>[(13, .int .i64 (zz:Nat)),(3, .int .i64 ((((jh xc.blocks.xs).take zz).filter fun b=>b.bad).length:Nat)),(11,xc.blocks.sv.val),(12, .int .i64 (xc.blocks.xs.length:Nat))]) (fun zz=>[]) (fun zz=>zz<=xc.blocks.xs.length) (fun zz=>xc.blocks.xs.length -zz) 0 (asO _) sb (fun w hw=>ai.mem hw) ?_;rintro i aZ;refine al ?_;refine Gb (fun h0=>?_) fun h0=>?_
 ·
  obtain⟨B,hB⟩:=get_some (xs:=xc.blocks.xs) (i:=i) oM;have ta:Mb B xc.blocks:=⟨List.mem_of_getElem? hB⟩;have fo:=abS (nw hB);have hle:(((jh xc.blocks.xs).take i).filter fun b=>b.bad).length<=i:=auO (auW _ _) (by rw[asq];omega);refine Gc ?_;refine ag (aW rfl rfl i rfl oM) (ag (iF rfl i hB rfl) ?_);have adT:Mb B xc.blocks:=⟨List.mem_of_getElem? hB⟩;refine bl fun b5=>aM ?_;refine Gb (fun h1=>?_) fun h1=>?_
  ·
   rw[if_pos (show(bv B).bad=true from h1)]at fo;refine Gi ?_;refine aS ?_;refine Gi ?_;exact bj (x:=(i)) (i+1) oF oF (Sub.cons rfl (Sub.cons (look_eq rfl (by rw[fo];rfl)) sb)) (fun w hw=>ai.mem hw)
  rw[if_neg (show ¬(bv B).bad=true by rw[show(bv B).bad=B.bad from rfl,h1];simp)]at fo;refine al ?_;refine Gi ?_;exact bj (x:=(i)) (i+1) oF oF (Sub.cons rfl (Sub.cons (look_eq rfl (by rw[fo,atl])) sb)) (fun w hw=>ai.mem hw)
 obtain rfl:i=xc.blocks.xs.length:=by omega
 have hz:nz (cv xc)=(((jh xc.blocks.xs).take xc.blocks.xs.length).filter fun b=>b.bad).length:=by rw[←dW];exact congrArg (fun l:List BV=>(l.filter fun b=>b.bad).length) (asP).symm
 refine au ?_;refine Gr fun w1 hw=>?_;exact⟨congrArg (fun b=>Ending.returned (Value.int .i64 b)) (by rw[hz]),ai.mem hw⟩⟩
instance apG{xb:Nat}{xc:Cp}{xa:Sl Int}{xg:UInt64}{xl:Int}{xy:Bool}{b:Int}[eH:mR w0 L xb (aP (⟨⟨xc,xa,xg,xl⟩,xy⟩:aQ)) 261][dS:aU w0 L xc]:cE Tryz.prog 219 w0 L [.pointer (some ⟨xb,0,none⟩), .int .i64 b] (.int .i64 (eC (cv xc) b)) (ba (cv xc)=true/\0<=b/\b<(cv xc).blocks.length):=⟨fun aH w hw=>by
 have eH:=eH.h w hw;have dS:=dS.h w hw;have vT:rM w xb (aP (⟨⟨xc,xa,xg,xl⟩,xy⟩:aQ)) 261:=⟨eH⟩;have vU:cL w xc:=⟨dS⟩;obtain⟨hk,nF,uF⟩:=aH;have lM:gO xc:=rr hk;have dW:(cv xc).blocks.length=xc.blocks.xs.length:=ia _;obtain⟨B,hB⟩:=get_some (xs:=xc.blocks.xs) (i:=b.toNat) oM;have ta:Mb B xc.blocks:=⟨List.mem_of_getElem? hB⟩;have ff:=uk hB;have gC:=fk.1 ((fF.1 hk).2.2.2.2 (bv B) (anc (nw hB)));have iO:=lX.1 (fF.1 hk).1;have qS:(ak (cv xc) b).used=B.used:=by rw[ff];rfl
 simp only[bv,cv]at gC iO;refine cQ Tryz.func219 rfl Tryz.ntmps219 rfl ?_;refine eI ?_;refine ag (Ry.to (v':=xc.blocks.sv.val) (ou rfl) rfl) (Gs ?_);refine ag (aW rfl rfl b.toNat oM oM) (ag (iF rfl b.toNat hB rfl) ?_);have Ha:Mb B xc.blocks:=⟨List.mem_of_getElem? hB⟩;refine bl fun b5=>aM ?_;refine Gb (fun h0=>?_) fun h0=>?_
 ·
  refine al ?_;refine Gr fun w1 hw=>?_;exact Gf ((by rw[eC,ff,if_pos (show(bv B).bad=true from h0)])) hw
 refine Gc ?_;refine gJ oK oK (aM ?_);refine bC (Ry.to (v':= .int .i64 xc.pages) (ou rfl) rfl) (aM ?_);refine Gr fun w1 hw=>?_;exact⟨congrArg (fun b=>Ending.returned (Value.int .i64 b)) ((by rw[eC,ff,if_neg (show ¬(bv B).bad=true by rw[show(bv B).bad=B.bad from rfl,h0];simp)];rfl)),ai.mem hw⟩⟩
instance apH{er:Int}:cE Tryz.prog 311 w0 L [.int .i64 er] (.int .i64 (kb er)) (True):=⟨fun aH w hw=>by
 refine cB Tryz.func311 rfl Tryz.ntmps311 rfl ?_;refine aS ?_;refine Gb (fun h0=>?_) fun h0=>?_
 ·
  refine al ?_;refine Gr fun w1 hw=>?_;exact Gf ((by rw[kb,if_pos h0])) hw
 refine au ?_;refine Gr fun w1 hw=>?_;exact⟨congrArg (fun b=>Ending.returned (Value.int .i64 b)) ((by rw[kb,if_neg h0])),ai.mem hw⟩⟩
instance apI{xb:Nat}{xc:Cp}{xa:Sl Int}{xg:UInt64}{xl:Int}{xy:Bool}[eH:mR w0 L xb (aP (⟨⟨xc,xa,xg,xl⟩,xy⟩:aQ)) 261][dS:aU w0 L xc]:cE Tryz.prog 306 w0 L [.pointer (some ⟨xb,0,none⟩)] (.bool (AV xg.toNat)) (xg.toNat<281474976710656):=⟨fun aH w hw=>by
 have eH:=eH.h w hw;have dS:=dS.h w hw;have vT:rM w xb (aP (⟨⟨xc,xa,xg,xl⟩,xy⟩:aQ)) 261:=⟨eH⟩;have vU:cL w xc:=⟨dS⟩;refine cB Tryz.func306 rfl Tryz.ntmps306 rfl ?_;refine cW ?_;refine ag (Ry.to (v':= .int .u64 (xg.toNat:Nat)) (ou rfl) rfl) (ag (Ce (p:=xg.toNat) (q:=2) rfl rfl rfl rfl (by simp only[nb];omega)) (al ?_));refine Gr fun w1 hw=>?_;exact⟨congrArg (fun b=>Ending.returned (Value.bool b)) (by rw[AV];congr 1;simp only[eq_iff_iff];omega),ai.mem hw⟩⟩
instance apJ{xb:Nat}{xc:Cp}{xa:Sl Int}{xg:UInt64}{xl:Int}{xy:Bool}{b:Int}[eH:mR w0 L xb (aP (⟨⟨xc,xa,xg,xl⟩,xy⟩:aQ)) 261][dS:aU w0 L xc]:cE Tryz.prog 251 w0 L [.pointer (some ⟨xb,0,none⟩), .int .i64 b] (.int .u64 ((lH (cv xc) b):Nat)) (ba (cv xc)=true/\0<=b/\b<(cv xc).blocks.length):=⟨fun aH w hw=>by
 have eH:=eH.h w hw;have dS:=dS.h w hw;have vT:rM w xb (aP (⟨⟨xc,xa,xg,xl⟩,xy⟩:aQ)) 261:=⟨eH⟩;have vU:cL w xc:=⟨dS⟩;obtain⟨hk,nF,uF⟩:=aH;have lM:gO xc:=rr hk;have dW:(cv xc).blocks.length=xc.blocks.xs.length:=ia _;obtain⟨B,hB⟩:=get_some (xs:=xc.blocks.xs) (i:=b.toNat) oM;have ta:Mb B xc.blocks:=⟨List.mem_of_getElem? hB⟩;have ff:=uk hB;have gC:=fk.1 ((fF.1 hk).2.2.2.2 (bv B) (anc (nw hB)));have iO:=lX.1 (fF.1 hk).1;have qS:(ak (cv xc) b).used=B.used:=by rw[ff];rfl
 simp only[bv,cv]at gC iO;have jl:=oU B.pages.xs;have hgE:lH (cv xc) b=um (aN B.pages.xs):=by rw[lH,ff];rfl
 refine cQ Tryz.func251 rfl Tryz.ntmps251 rfl ?_;refine sF ?_;refine ag (Ry.to (v':=xc.blocks.sv.val) (ou rfl) rfl) (Gs ?_);refine ag (aW rfl rfl b.toNat oM oM) (ag (aO rfl rfl) (ag (bE (j:=0) rfl b.toNat hB rfl (by decide)) (al ?_)));refine bQ (X:=Nat) (fun zz=>[(21, .int .i64 (zz:Nat)),(5, .int .u64 ((um ((aN B.pages.xs).take zz)):Nat)),(19,B.pages.sv.val),(20, .int .i64 (B.pages.xs.length:Nat))]) (fun zz=>[]) (fun zz=>zz<=B.pages.xs.length) (fun zz=>B.pages.xs.length -zz) 0 (asO _) sb (fun w hw=>ai.mem hw) ?_;rintro i aZ;refine al ?_;refine Gb (fun h0=>?_) fun h0=>?_
 ·
  obtain⟨y,hy⟩:=get_some (xs:=B.pages.xs) (i:=i) oM;have Dx:Mb y B.pages:=⟨List.mem_of_getElem? hy⟩;have fo:=abR (qG hy);have zh:=KM ((aN B.pages.xs).take i);have xE:=RI y.xs;refine Gc ?_;refine ag (aW rfl rfl i rfl oM) (ag (bE (j:=0) rfl i hy rfl (by decide)) (al ?_));refine aX rfl trivial fun qh te=>?_;have qg:qh.gen.toNat=(bD y.xs).1.gen:=congrArg RV.gen te;refine Gs ?_;refine ag (aJ (v:= .agg (eX qh)) rfl rfl) (ag (aJ (v:= .int .i64 ((bD y.xs).2)) rfl rfl) (bl fun b8=>aS ?_));refine Gb (fun h1=>?_) fun h1=>?_
  ·
   have hr:kW y.xs=qh.gen.toNat:=by rw[kW,if_pos h1,←qg]
   refine Gi ?_;refine al ?_;refine ag (wE rfl rfl) (au ?_);refine Gi ?_;exact bj (x:=(i)) (i+1) oF oF (Sub.cons rfl (Sub.cons (look_eq rfl (by rw[fo,hr];congr 1;omega)) sb)) (fun w hw=>ai.mem hw)
  have hr:kW y.xs=0:=by rw[kW,if_neg h1]
  refine al ?_;refine Gi ?_;exact bj (x:=(i)) (i+1) oF oF (Sub.cons rfl (Sub.cons (look_eq rfl (by rw[fo,hr];congr 1;omega)) sb)) (fun w hw=>ai.mem hw)
 obtain rfl:i=B.pages.xs.length:=by omega
 have hz:um (aN B.pages.xs)=(um ((aN B.pages.xs).take B.pages.xs.length)):=by rw[←jl,asP]
 refine au ?_;refine Gr fun w1 hw=>?_;exact⟨by rw[hgE,hz],ai.mem hw⟩⟩
instance apK{xb:Nat}{xc:Cp}{xa:Sl Int}{xg:UInt64}{xl:Int}{xy:Bool}{b:Int}[eH:mR w0 L xb (aP (⟨⟨xc,xa,xg,xl⟩,xy⟩:aQ)) 261][dS:aU w0 L xc]:cE Tryz.prog 215 w0 L [.pointer (some ⟨xb,0,none⟩), .int .i64 b] (.bool (Da (cv xc) b)) (ba (cv xc)=true/\0<=b/\b<(cv xc).blocks.length):=⟨fun aH w hw=>by
 have eH:=eH.h w hw;have dS:=dS.h w hw;have vT:rM w xb (aP (⟨⟨xc,xa,xg,xl⟩,xy⟩:aQ)) 261:=⟨eH⟩;have vU:cL w xc:=⟨dS⟩;have adU:=aH;obtain⟨hk,nF,uF⟩:=aH;have lM:gO xc:=rr hk;have dW:(cv xc).blocks.length=xc.blocks.xs.length:=ia _;obtain⟨B,hB⟩:=get_some (xs:=xc.blocks.xs) (i:=b.toNat) oM;have ta:Mb B xc.blocks:=⟨List.mem_of_getElem? hB⟩;have ff:=uk hB;have gC:=fk.1 ((fF.1 hk).2.2.2.2 (bv B) (anc (nw hB)));have iO:=lX.1 (fF.1 hk).1;have qS:(ak (cv xc) b).used=B.used:=by rw[ff];rfl
 simp only[bv,cv]at gC iO;refine cQ Tryz.func215 rfl Tryz.ntmps215 rfl ?_;refine eI ?_;refine ag (Ry.to (v':=xc.blocks.sv.val) (ou rfl) rfl) (Gs ?_);refine ag (aW rfl rfl b.toNat oM oM) (ag (iF rfl b.toNat hB rfl) ?_);have Ha:Mb B xc.blocks:=⟨List.mem_of_getElem? hB⟩;refine bl fun b5=>hU ?_;refine jr rfl rfl rfl (fun hg=>(Ry.yl (bf (aF hg rfl)))) (u5 rfl rfl rfl (fun hg=>(Ry.yl (bf rfl))) (u5 rfl rfl rfl (fun hg=>(Ry.yl (et (aF hg rfl) rfl rfl))) (u5 rfl rfl rfl (fun hg=>(Ry.yl (bf (aF hg rfl)))) (oA rfl rfl rfl (fun hg=>(Ry.yl (bf rfl))) (oA rfl rfl rfl (fun hg=>(Ry.yl (bf rfl))) (oA rfl rfl rfl (fun hg=>cj (eL (aF hg rfl) (eL (aF hg rfl) iV)) adU) (oA rfl rfl rfl (fun hg=>(Ry.yl (et (aF hg rfl) rfl rfl))) (u5 rfl rfl rfl (fun hg=>(Ry.yl (zN (aF hg rfl) (yj hg rfl) rfl))) (jr rfl rfl rfl (fun hg=>(Ry.yl (zO (aF hg rfl) rfl (yj hg rfl)))) (al ?_))))))))));refine Gr fun w1 hw=>?_;exact⟨congrArg (fun b=>Ending.returned (Value.bool b)) ((by
  have e:decide ((0:Int)<((lH (cv xc) b:Nat):Int))=decide (0<lH (cv xc) b):=decide_eq_decide.2 oM;rw[Da,ff,e];rfl)),ai.mem hw⟩⟩
instance apL{xb:Nat}{xc:Cp}{xa:Sl Int}{xg:UInt64}{xl:Int}{xy:Bool}{b:Int}[eH:mR w0 L xb (aP (⟨⟨xc,xa,xg,xl⟩,xy⟩:aQ)) 261][dS:aU w0 L xc]:cE Tryz.prog 217 w0 L [.pointer (some ⟨xb,0,none⟩), .int .i64 b] (.int .u64 ((gP (cv xc) b):Nat)) (ba (cv xc)=true/\2<=(cv xc).blocks.length/\(b=0\/b=1)):=⟨fun aH w hw=>by
 have eH:=eH.h w hw;have dS:=dS.h w hw;have vT:rM w xb (aP (⟨⟨xc,xa,xg,xl⟩,xy⟩:aQ)) 261:=⟨eH⟩;have vU:cL w xc:=⟨dS⟩;obtain⟨hk,oc,TA⟩:=aH;have zh:=KM (ak (cv xc) (1 -b)).pages;change lH (cv xc) (1 -b)<_ at zh;refine cQ Tryz.func217 rfl Tryz.ntmps217 rfl ?_;refine hU ?_;refine eS (cj rfl ⟨hk,by omega,by omega⟩) (Gs ?_);refine ag (Ry.to (v':= .int .u64 (((1 -b).toNat:Nat):Int)) (IU rfl oM (by simp only[nb];omega)) (by congr 1;omega)) (ag (Ce (p:=(lH (cv xc) (1 -b))) (q:=((1 -b).toNat)) rfl rfl rfl rfl (by simp only[nb];omega)) (ag (wE rfl rfl) (av ?_)));refine Gr fun w1 hw=>?_;exact⟨by rw[gP];congr 2;omega,ai.mem hw⟩⟩
instance apM{xb:Nat}{xc:Cp}{xa:Sl Int}{xg:UInt64}{xl:Int}{xy:Bool}[eH:mR w0 L xb (aP (⟨⟨xc,xa,xg,xl⟩,xy⟩:aQ)) 261][dS:aU w0 L xc]:cE Tryz.prog 261 w0 L [.pointer (some ⟨xb,0,none⟩)] (.int .i64 (vH (cv xc) xl)) (ba (cv xc)=true/\2<=(cv xc).blocks.length/\(xl=0\/xl=1)):=⟨fun aH w hw=>by
 have eH:=eH.h w hw;have dS:=dS.h w hw;have vT:rM w xb (aP (⟨⟨xc,xa,xg,xl⟩,xy⟩:aQ)) 261:=⟨eH⟩;have vU:cL w xc:=⟨dS⟩;obtain⟨hk,oc,TA⟩:=aH;have lM:gO xc:=rr hk;have dW:(cv xc).blocks.length=xc.blocks.xs.length:=ia _;obtain⟨Bo,gC⟩:=get_some (xs:=xc.blocks.xs) (i:=(1 -xl).toNat) oM;obtain⟨Bl,oo⟩:=get_some (xs:=xc.blocks.xs) (i:=xl.toNat) oM;have Bi:=uk gC;have TB:=uk oo;refine cB Tryz.func261 rfl Tryz.ntmps261 rfl ?_;refine al ?_;refine gJ oK oK (au ?_);refine bC (Ry.to (v':= .int .i64 xl) (ou rfl) rfl) (au ?_);refine bC (Ry.to (v':= .int .i64 xl) (ou rfl) rfl) (hU ?_);refine ag (Ry.to (v':=xc.blocks.sv.val) (ou rfl) rfl) (Gs ?_);refine ag (aW rfl rfl ((1 -xl).toNat) oM oM) (ag (aO rfl rfl) (ag (bE (j:=3) rfl ((1 -xl).toNat) gC rfl (by decide)) (av ?_)));refine Gb (fun h0=>?_) fun h0=>?_
 ·
  refine al ?_;refine eS (cj rfl ⟨hk,by omega,by omega⟩) (av ?_);refine Gr fun w1 hw=>?_;exact Gf ((by rw[vH,Bi,if_pos (show(bv Bo).bad=true from h0)])) hw
 refine aS ?_;refine ag (Ry.to (v':=xc.blocks.sv.val) (ou rfl) rfl) (Gs ?_);refine ag (aW rfl rfl xl.toNat oM oM) (ag (aO rfl rfl) (ag (bE (j:=3) rfl xl.toNat oo rfl (by decide)) (al ?_)));refine jr rfl rfl rfl (fun hg=>cj (eL (aF hg rfl) (eL (aF hg rfl) iV)) ⟨hk,by omega,by omega⟩) (au ?_);refine Gb (fun h1=>?_) fun h1=>?_
 ·
  refine al ?_;refine eS (cj rfl ⟨hk,by omega,by omega⟩) (av ?_);refine Gr fun w1 hw=>?_;exact Gf ((by rw[vH,Bi,TB,if_neg (show ¬(bv Bo).bad=true by rw[show(bv Bo).bad=Bo.bad from rfl,h0];simp),if_pos ⟨h1.1,h1.2⟩])) hw
 refine aS ?_;refine ag (Ry.to (v':= .int .i64 xc.pages) (ou rfl) rfl) (av ?_);refine Gr fun w1 hw=>?_;exact⟨congrArg (fun b=>Ending.returned (Value.int .i64 b)) ((by
  rw[vH,Bi,TB,if_neg (show ¬(bv Bo).bad=true by rw[show(bv Bo).bad=Bo.bad from rfl,h0];simp),if_neg]
  ·
   rfl
  rintro⟨g1,g2⟩;rcases h1 with h|h
  ·
   exact absurd (h.symm.trans g1) (by simp)
  omega)),ai.mem hw⟩⟩
instance apN{c:Cp}{b:Int}{g:Int}{x:Sv}{xs:List UInt8}[hc:aU w0 L c][hx:cD w0 L aG 1 x xs]:bN Tryz.prog 256 w0 L [.agg (aT c), .int .i64 b, .int .i64 g,x.val] (Cp) (fun zz=> .tuple #[.agg (aT zz), .int .i64 (kA (cv c) b g xs)]) (fun zz=>fz zz::L) (fun zz=>cv zz=gN (cv c) b g xs) (gO c):=⟨fun aH w hw=>Gk (fun zz=>[fz zz]) hw (by
 have hc:=hc.h w hw;have hx:=hx.h w hw;have ln:cL w c:=⟨hc⟩;have Bb:Gv w x aG 1 xs:=⟨hx⟩;have lM:gO c:=aH;obtain⟨gq,gy,kH⟩:=aH;have qK:cX=1099511627776:=rfl;refine JU Tryz.func256 rfl Tryz.ntmps256 rfl ?_;refine Gc ?_;refine cf rfl fun b4=>bl fun b8=>al ?_;refine aX rfl (by assumption) fun cz vV=>bl fun zo=>P2 ?_;refine Gb (fun h0=>?_) fun h0=>?_
 ·
  have hz: ¬n0 (cv c) b g xs=true:=fun hk=>by
   obtain⟨k1,k2,k3,k4,k5⟩:=jI.1 hk;rw[k1]at h0;simp only[cv]at k3 k4 k5;simp only[aue,false_or]at h0;omega
  refine aM ?_;refine Gr fun w1 hw=>?_;exact⟨cz,by rw[kA,if_neg hz],by rw[vV,gN,if_neg (fun h=>hz h.1)],oZ cz (ai.mem hw)⟩
 have hk:n0 (cv c) b g xs=true:=by
  cases k1:ib (cv c) b with
  |false=>rw[k1]at h0;simp at h0
  |true=>
   rw[k1]at h0;simp only[aue,false_or]at h0;exact jI.2 ⟨k1,by omega,by simp only[cv];omega,by simp only[cv];omega,by simp only[cv];omega⟩
 have hh:=(jI.1 hk).1;have G9:=(ic.1 hh).2;have dW:cz.blocks.xs.length=c.blocks.xs.length:=by have:=congrArg (fun v:CV=>v.blocks.length) vV;simpa only[cv,ia]using this
 have A9:cz.ops=c.ops:=congrArg CV.ops vV;have pq:(cv c).blocks.length=c.blocks.xs.length:=ia _;obtain⟨B,hB⟩:=get_some (xs:=cz.blocks.xs) (i:=b.toNat) oM;have oo:b.toNat<cz.blocks.xs.length:=(ad2.1 hB).1;have ff:bv B=ak (cv c) b:=by
  have h1:=F4 hh;have h2:=nw hB;rw[show jh cz.blocks.xs=(cv c).blocks from congrArg CV.blocks vV,h1]at h2;exact(aso h2).symm
 have gC:qH c.pages c.size (bv B)=true:=by rw[ff];exact qI hh
 obtain⟨o1,o2,o3,o4,o5,o6⟩:=fk.1 gC;have iO:=lX.1 (fF.1 (ic.1 hh).1).1;have Dp:=(fF.1 (ic.1 hh).1).2.1;simp only[bv,cv]at o1 o2 o3 o4 o5 o6 iO Dp;have Td:=oU B.pages.xs;obtain⟨_,k2,k3,k4,k5⟩:=jI.1 hk;simp only[cv]at k3 k4 k5;refine au ?_;refine Gb (fun h1=>?_) fun h1=>?_
 ·
  refine aM ?_;refine Gr fun w1 hw=>?_;exact⟨cz,by rw[kA,if_pos hk,if_pos (show(cv c).off=true from h1)],by rw[vV,gN,if_neg (fun h=>absurd (h1.symm.trans h.2.1) (by simp))],oZ cz (ai.mem hw)⟩
 have mT:(cv c).off=false:=h1;refine au ?_;refine ag (aW rfl rfl b.toNat oM oo) (au ?_);refine ag (aO rfl rfl) (ag (bE (j:=3) rfl b.toNat hB rfl (by decide)) (al ?_));refine bI rfl rfl rfl (fun hg=>(Ry.yl (jf (aF hg rfl)))) (bI rfl rfl rfl (fun hg=>(Ry.yl (aO (aF hg rfl) rfl))) (bI rfl rfl rfl (fun hg=>(Ry.yl (bE (j:=1) (aF hg rfl) b.toNat hB rfl (by decide)))) (al ?_)));refine Gb (fun h2=>?_) fun h2=>?_
 ·
  have dX:(ak (cv c) b).bad=true\/g≠(ak (cv c) b).used:=by rw[←ff];exact h2
  refine aM ?_;refine Gr fun w1 hw=>?_;exact⟨cz,by rw[kA,if_pos hk,if_neg (by rw[mT];simp),if_pos dX],by rw[vV,gN,if_neg (fun h=>dX.elim (fun g1=>absurd (g1.symm.trans h.2.2.1) (by simp)) (fun g1=>g1 h.2.2.2))],oZ cz (ai.mem hw)⟩
 have dX: ¬((ak (cv c) b).bad=true\/g≠(ak (cv c) b).used):=by
  rw[←ff];rintro(h|h)
  ·
   exact absurd (h2.1.symm.trans h) (by simp)
  exact h h2.2
 have hgu:g=B.used:=h2.2;obtain⟨q,hq⟩:=get_some (xs:=(aN B.pages.xs)) (i:=g.toNat) oM;have BY:=o6 q (anc hq);have bO:B.pages.xs≠[]:=fun e=>by
  have h9:(aN B.pages.xs).length=0:=by rw[e];rfl
  omega
 have uE:(cz.blocks.xs.set b.toNat ({B with used:=B.used+1}:Bk))[b.toNat]? =Option.some ({B with used:=B.used+1}:Bk):=asJ oo
 have fT:gN (cv c) b g xs=iH (cv c) b g xs:=by
  rw[gN,if_pos ⟨hk,mT,by cases hb:(ak (cv c) b).bad with|false=>rfl|true=>exact absurd (.inl hb) dX,Decidable.not_not.1 fun h=>dX (.inr h)⟩]
 refine ky ?_;refine Q7 (pr:=fun rm:Sv=>rm.nil=false/\rm.sp=none/\B.pages.xs=dD rm 0 (aN B.pages.xs)) (fun rm:Sv=>[own (bT (τ:=UInt8)) 1 B.pages.sv B.pages.xs,own aG 1 rm (aN B.pages.xs).flatten,own bZ 4 cz.blocks.sv cz.blocks.xs,aj.all ((cz.blocks.xs.eraseIdx b.toNat).map fun b:Bk=>fw b.pages),own eN 4 cz.aV.sv cz.aV.xs,ar zo (aT cz) 59,ar b8 (aT gT) 59,ar b4 (aT c) 59]) (fun w hw=>QR hB bO (ai.mem hw)) fun rm Du=>?_;obtain⟨hn,hs,Bj⟩:=Du;have Bm:B.pages.xs[g.toNat]? =Option.some ⟨(win rm ((aN B.pages.xs).take g.toNat).flatten.length (((aN B.pages.xs).take g.toNat).flatten.length+q.length)),q⟩:=by rw[Bj,xf,F8 hq,as3]
 have TC: ∀r:List UInt8,r.length=q.length->B.pages.xs.map (fun x=>x.sv)=(dD rm 0 ((aN B.pages.xs).set g.toNat r)).map (fun x=>x.sv):=fun r hr=>(congrArg (List.map fun x:Sl UInt8=>x.sv) Bj).trans (abd hq hr);refine Gi ?_;refine Gs ?_;refine eS (cj rfl oM) (Gs ?_);refine ag (aJ (v:= .agg (eN ((bn (cv c)).1))) rfl rfl) (ag (aJ (v:= .bool ((bn (cv c)).2)) rfl rfl) (bl fun xI=>cW ?_));refine eu (cs':=aT (⟨cz.pages,cz.size,cz.blocks,(cz.ops+1),cz.off,cz.aV⟩:Cp)) rfl rfl (by show 3<6;decide) (by first|rfl|exact Sv.one _) rfl (al ?_);refine ag (aO rfl rfl) (ag (bE (j:=1) rfl b.toNat hB rfl (by decide)) (av ?_));refine ag (aO rfl rfl) (ku (s:=cz.blocks.sv) (n:=1) (k:=b.toNat) (j:=1) (a:=B) (a':=({B with used:=B.used+1}:Bk)) (xs:=cz.blocks.xs) (enc:=bZ) (c:=4) (v:= .int .i64 (B.used+1)) oK rfl rfl rfl hB (by simp[Value.cells,Value.oneCell']) (by rfl) (by decide) (by rfl) (al ?_))
 refine ag (aO rfl rfl) (ag (Ry.to (v':=B.pages.sv.val) (bE (j:=0) rfl b.toNat uE rfl (by decide)) rfl) (Gs ?_));refine ag (aW rfl rfl g.toNat oM oM) (ag (Ry.to (v':=(win rm ((aN B.pages.xs).take g.toNat).flatten.length (((aN B.pages.xs).take g.toNat).flatten.length+q.length)).val) (bE (j:=0) rfl g.toNat Bm rfl (by decide)) rfl) (Gs ?_));refine aa0 (D:=(win rm ((aN B.pages.xs).take g.toNat).flatten.length (((aN B.pages.xs).take g.toNat).flatten.length+q.length))) (S:=x) (rm:=rm) (k:=((aN B.pages.xs).take g.toNat).flatten.length) (xs:=(aN B.pages.xs).flatten) (ys:=xs) rfl hn hs rfl (by rw[AM oM];omega) rfl (by decide) hn oM (by simp only[win];omega) (by have:=CY hq;have:=CZ (aN B.pages.xs) (g.toNat+1);omega) (au ?_);refine Gb (fun h3=>?_) fun h3=>?_
 ·
  have mJ:oW (cv c) xs=xs:=by rw[oW,if_neg (by rw[h3];simp)]
  refine aM ?_;refine Gr fun w1 hw=>?_;exact⟨(⟨cz.pages,cz.size,⟨cz.blocks.sv,cz.blocks.xs.set b.toNat ⟨⟨B.pages.sv,dD rm 0 ((aN B.pages.xs).set g.toNat xs)⟩,B.used+1,B.aR,B.bad⟩⟩,cz.ops+1,cz.off,cz.aV⟩:Cp),by rw[kA,if_pos hk,if_neg (by rw[mT];simp),if_neg dX,if_neg (by rw[h3];simp)];rfl,by rw[QX vV ff,fT,iH,mJ,h3,auG,show cz.off=(cv c).off from congrArg CV.off vV,mT],(by
   rw[←F7 hq oM]at hw;exact oZ (⟨cz.pages,cz.size,⟨cz.blocks.sv,cz.blocks.xs.set b.toNat ⟨⟨B.pages.sv,dD rm 0 ((aN B.pages.xs).set g.toNat xs)⟩,B.used+1,B.aR,B.bad⟩⟩,cz.ops+1,cz.off,cz.aV⟩:Cp) (F9 (rm:=rm) (l:=(aN B.pages.xs).set g.toNat xs) (B:=({B with used:=B.used+1}:Bk)) (B':=⟨⟨B.pages.sv,dD rm 0 ((aN B.pages.xs).set g.toNat xs)⟩,B.used+1,B.aR,B.bad⟩) (sp:=B.pages.sv) (ps:=B.pages.xs) oo (TC _ oM) hn rfl rfl (ai.mem hw)))⟩
 have mJ:oW (cv c) xs=cZ (~~~(bn (cv c)).1.mask) xs:=by rw[oW,if_pos h3]
 have oq:cZ (~~~(bn (cv c)).1.mask) (xs.take 0)++xs.drop 0=xs:=by simp[cZ]
 refine aM ?_;refine bQ (X:=Nat) (fun zz=>[(96, .int .i64 (zz:Nat)),(2, .int .i64 g),(8, .pointer (some ⟨b8,0,none⟩)),(10, .pointer (some ⟨zo,0,none⟩)),(11, .pointer (some ⟨cz.blocks.sv.b,cz.blocks.sv.o+b.toNat*4,none⟩)),(12, .pointer (some ⟨xI,0,none⟩)),(95, .int .i64 c.size)]) (fun zz=>[ar xI (eN (bn (cv c)).1) 97,own (bT (τ:=UInt8)) 1 B.pages.sv B.pages.xs,own aG 1 rm ((aN B.pages.xs).set g.toNat (cZ (~~~(bn (cv c)).1.mask) (xs.take zz)++xs.drop zz)).flatten,own bZ 4 cz.blocks.sv (cz.blocks.xs.set b.toNat ({B with used:=B.used+1}:Bk)),aj.all ((cz.blocks.xs.eraseIdx b.toNat).map fun b:Bk=>fw b.pages),own eN 4 cz.aV.sv cz.aV.xs,ar zo (aT (⟨cz.pages,cz.size,cz.blocks,(cz.ops+1),cz.off,cz.aV⟩:Cp)) 59,ar b8 (aT gT) 59,ar b4 (aT c) 59]) (fun zz=>zz<=xs.length) (fun zz=>xs.length -zz) 0 (asO _) sb (fun w hw=>by
  rw[oq,F7 hq oM];exact ai.mem hw) ?_
 rintro i aZ;refine al ?_;refine Gb (fun h4=>?_) fun h4=>?_
 ·
  have xE:(cZ (~~~(bn (cv c)).1.mask) (xs.take i)++xs.drop i).length=xs.length:=Kn oM;obtain⟨z,hz⟩:=get_some (xs:=xs) (i:=i) oM;have vP:((aN B.pages.xs).set g.toNat (cZ (~~~(bn (cv c)).1.mask) (xs.take i)++xs.drop i)).flatten[((aN B.pages.xs).take g.toNat).flatten.length+i]? =Option.some z:=by
   have h9:=AL (l:=(aN B.pages.xs).set g.toNat (cZ (~~~(bn (cv c)).1.mask) (xs.take i)++xs.drop i)) (i:=g.toNat) (j:=i) (asJ oM) oM;rw[Km]at h9;rw[h9,QY oM,hz]
  refine au ?_;refine iY [15,1009] [[],[],[],[],[],[],[],[],[],[],[],[],[],[9],[9],[9]] [0,1,2,3,4,5,6,7,8,9,10,11,12,13,14,15] [own (bT (τ:=UInt8)) 1 B.pages.sv B.pages.xs,own bZ 4 cz.blocks.sv (cz.blocks.xs.set b.toNat ({B with used:=B.used+1}:Bk)),ar xI (eN (bn (cv c)).1) 97] (fun _ hw=>ai.mem hw) oK oK (an rfl (bf rfl) (an rfl (jf rfl) (an rfl (aO rfl rfl) (an rfl (Ry.to (v':=B.pages.sv.val) (bE (j:=0) rfl b.toNat uE rfl (by decide)) rfl) (an rfl (bf rfl) (an rfl (aW rfl rfl g.toNat oM oM) (an rfl (Ry.to (v':=(win rm ((aN B.pages.xs).take g.toNat).flatten.length (((aN B.pages.xs).take g.toNat).flatten.length+q.length)).val) (bE (j:=0) rfl g.toNat Bm rfl (by decide)) rfl) (an rfl (bf rfl) ?_))))))))
  obtain⟨adV,adW⟩:=get_some (xs:=q) (i:=i) oM;refine an rfl (mz (s:=(win rm ((aN B.pages.xs).take g.toNat).flatten.length (((aN B.pages.xs).take g.toNat).flatten.length+q.length))) (i:=i) rfl rfl rfl (Ga hn hs oM) (by simp only[win];omega)) (lA rfl (bE (s:=rm) (enc:=aG) (c:=1) (xs:=((aN B.pages.xs).set g.toNat (cZ (~~~(bn (cv c)).1.mask) (xs.take i)++xs.drop i)).flatten) (a:=z) (j:=0) (v:= .int .u8 z.toNat) rfl (((aN B.pages.xs).take g.toNat).flatten.length+i) vP (by rw[AM oM];omega) (by decide)) (an rfl (aO (o':=3) rfl rfl) (an rfl (bY rfl) (an rfl (aa6 rfl) (an rfl (QS rfl rfl) ?_)))));obtain⟨apO,apP⟩:=get_some (xs:=q) (i:=i) oM;refine an rfl (mz (s:=(win rm ((aN B.pages.xs).take g.toNat).flatten.length (((aN B.pages.xs).take g.toNat).flatten.length+q.length))) (i:=i) rfl rfl rfl (Ga hn hs oM) (by simp only[win];omega)) ?_;refine dH rfl (wW (s:=rm) (n:=1) (k:=((aN B.pages.xs).take g.toNat).flatten.length+i) (j:=0) (a:=z) (a':=z|||(~~~(bn (cv c)).1.mask)) (xs:=((aN B.pages.xs).set g.toNat (cZ (~~~(bn (cv c)).1.mask) (xs.take i)++xs.drop i)).flatten) (enc:=aG) (c:=1) (v:= .int .u8 (z|||(~~~(bn (cv c)).1.mask)).toNat) oK rfl rfl (by rw[AM oM];omega) vP (by simp[Value.cells,Value.oneCell']) rfl oM (by rfl) ⟨fun _ hw=>ai.mem hw,?_⟩);refine al ?_;refine Gi ?_;exact bj (x:=(i)) (i+1) oF oF sb (fun w hw=>by
   rw[QZ hq hz];exact ai.mem hw)
 obtain rfl:i=xs.length:=by omega
 have Bn:cZ (~~~(bn (cv c)).1.mask) (xs.take xs.length)++xs.drop xs.length=cZ (~~~(bn (cv c)).1.mask) xs:=by rw[asP,auS,asZ]
 refine au ?_;refine ag (aJ (v:= .bool (((bn (cv c)).1).cut)) rfl rfl) (ag (aJ (v:= .int .i64 (lY ((bn (cv c)).1))) rfl rfl) (aM ?_));refine eu (cs':=aT (⟨cz.pages,cz.size,cz.blocks,(cz.ops+1),((bn (cv c)).1).cut,cz.aV⟩:Cp)) rfl rfl (by show 4<6;decide) (by first|rfl|exact Sv.one _) rfl (aS ?_);refine Gr fun w1 hw=>?_;exact⟨(⟨cz.pages,cz.size,⟨cz.blocks.sv,cz.blocks.xs.set b.toNat ⟨⟨B.pages.sv,dD rm 0 ((aN B.pages.xs).set g.toNat (cZ (~~~(bn (cv c)).1.mask) xs))⟩,B.used+1,B.aR,B.bad⟩⟩,cz.ops+1,(bn (cv c)).1.cut,cz.aV⟩:Cp),by rw[kA,if_pos hk,if_neg (by rw[mT];simp),if_neg dX,if_pos h3];rfl,by rw[QX vV ff,fT,iH,mJ,h3,ath],(by
  rw[Bn]at hw;have hhl:(cZ (~~~(bn (cv c)).1.mask) xs).length=xs.length:=by rw[cZ,as8]
  exact oZ (⟨cz.pages,cz.size,⟨cz.blocks.sv,cz.blocks.xs.set b.toNat ⟨⟨B.pages.sv,dD rm 0 ((aN B.pages.xs).set g.toNat (cZ (~~~(bn (cv c)).1.mask) xs))⟩,B.used+1,B.aR,B.bad⟩⟩,cz.ops+1,(bn (cv c)).1.cut,cz.aV⟩:Cp) (F9 (rm:=rm) (l:=(aN B.pages.xs).set g.toNat (cZ (~~~(bn (cv c)).1.mask) xs)) (B:=({B with used:=B.used+1}:Bk)) (B':=⟨⟨B.pages.sv,dD rm 0 ((aN B.pages.xs).set g.toNat (cZ (~~~(bn (cv c)).1.mask) xs))⟩,B.used+1,B.aR,B.bad⟩) (sp:=B.pages.sv) (ps:=B.pages.xs) oo (TC _ oM) hn rfl rfl (ai.mem hw)))⟩)⟩
end Go.Proofs.YtkggjjnhnjjokaaGreatDoor
