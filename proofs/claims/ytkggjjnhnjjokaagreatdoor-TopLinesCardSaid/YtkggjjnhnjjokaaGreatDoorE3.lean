/- Part of a proof. -/
import Derived.Test.YtkggjjnhnjjokaaGreatDoorE2
import Derived.Test.YtkggjjnhnjjokaaGreatDoorE1
import Derived.DeepKeys
set_option maxRecDepth 20000
set_option linter.unusedSimpArgs false
set_option linter.unusedVariables false
namespace Go.Kb
open Go.ax
theorem uT(k:IntKind)(n:Int):(Value.int k n).oneCell'=true:=rfl
theorem uU(b:Bool):(Value.bool b).oneCell'=true:=rfl
instance:fS Int:=fS.flat fun _ _=>trivial
structure Ft where
 op:Int
 fail:Bool
 cut:Bool
 mask:UInt8
 deriving DecidableEq
def eG(x:Ft):Array Value:= #[.int .i64 x.op, .bool x.fail, .bool x.cut, .int .u8 x.mask.toNat]
instance:bm eG 4:=⟨fun _=>rfl,fun x=>by
 simp only[eG,asJ,asP,as4,Sv.one,uT,uU,asA]⟩
instance (x:Ft):fP (eG x) 4:=⟨rfl,bm.one x⟩
instance (x:Ft):cg (eG x) 0 (.int .i64 x.op):=⟨rfl⟩
instance (x:Ft):cg (eG x) 1 (.bool x.fail):=⟨rfl⟩
instance (x:Ft):cg (eG x) 2 (.bool x.cut):=⟨rfl⟩
instance (x:Ft):cg (eG x) 3 (.int .u8 x.mask.toNat):=⟨rfl⟩
instance:Deep Ft:=Deep.flat eG 4
instance:Plain Ft:=⟨fun _=>rfl⟩
instance:fS Ft:=fS.flat fun _ _=>trivial
instance:fZ Ft eG 4:=⟨rfl,fun _=>rfl⟩
def Ad:Ft:=⟨0,false,false,0⟩
structure Bk where
 pages:Sl (Sl UInt8)
 used:Int
 aR:Int
 bad:Bool
def bV(x:Bk):Array Value:= #[x.pages.sv.val, .int .i64 x.used, .int .i64 x.aR, .bool x.bad]
instance:bm bV 4:=⟨fun _=>rfl,fun x=>by
 simp only[bV,asJ,asP,as4,Sv.one,uT,uU,asA]⟩
instance (x:Bk):fP (bV x) 4:=⟨rfl,bm.one x⟩
instance (x:Bk):cg (bV x) 0 (x.pages.sv.val):=⟨rfl⟩
instance (x:Bk):cg (bV x) 1 (.int .i64 x.used):=⟨rfl⟩
instance (x:Bk):cg (bV x) 2 (.int .i64 x.aR):=⟨rfl⟩
instance (x:Bk):cg (bV x) 3 (.bool x.bad):=⟨rfl⟩
instance:Deep Bk where
 c:=4
 cells:=bV
 size:=bm.size
 one:=bm.one
 cF h x:=Deep.cF h x.pages
 cc x:=Deep.cc x.pages
 jg h x hs:=Deep.jg h x.pages hs
 mono w w' x hg hb:=Deep.mono w w' x.pages hg hb
instance:fS Bk where
 reach x k:=fS.reach x.pages k
 congr h h' x e hg:=fS.congr h h' x.pages (fun k hk=>e k (hk)) hg
variable {w0:World}{L:List aj}
instance{x:Bk}[q:aT w0 L x]:aT w0 L x.pages:=⟨fun w hw=>(q.h w hw)⟩
instance:fZ Bk bV 4:=⟨rfl,fun _=>rfl⟩
def ql:Bk:=⟨⟨Sv.none,[]⟩,0,0,false⟩
structure Cp where
 pages:Int
 size:Int
 blocks:Sl Bk
 ops:Int
 off:Bool
 aU:Sl Ft
def aS(x:Cp):Array Value:= #[.int .i64 x.pages, .int .i64 x.size,x.blocks.sv.val, .int .i64 x.ops, .bool x.off,x.aU.sv.val]
instance:bm aS 6:=⟨fun _=>rfl,fun x=>by
 simp only[aS,asJ,asP,as4,Sv.one,uT,uU,asA]⟩
instance (x:Cp):fP (aS x) 6:=⟨rfl,bm.one x⟩
instance (x:Cp):cg (aS x) 0 (.int .i64 x.pages):=⟨rfl⟩
instance (x:Cp):cg (aS x) 1 (.int .i64 x.size):=⟨rfl⟩
instance (x:Cp):cg (aS x) 2 (x.blocks.sv.val):=⟨rfl⟩
instance (x:Cp):cg (aS x) 3 (.int .i64 x.ops):=⟨rfl⟩
instance (x:Cp):cg (aS x) 4 (.bool x.off):=⟨rfl⟩
instance (x:Cp):cg (aS x) 5 (x.aU.sv.val):=⟨rfl⟩
instance:Deep Cp where
 c:=6
 cells:=aS
 size:=bm.size
 one:=bm.one
 cF h x:=Deep.cF h x.blocks/\Deep.cF h x.aU
 cc x:= .two (Deep.cc x.blocks) (Deep.cc x.aU)
 jg h x hs:=⟨Deep.jg h x.blocks hs.1,Deep.jg h x.aU hs.2.1⟩
 mono w w' x hg hb:=⟨Deep.mono w w' x.blocks hg.1 hb,Deep.mono w w' x.aU hg.2 hb⟩
instance:fS Cp where
 reach x k:=fS.reach x.blocks k\/fS.reach x.aU k
 congr h h' x e hg:=⟨fS.congr h h' x.blocks (fun k hk=>e k (.inl hk)) hg.1,fS.congr h h' x.aU (fun k hk=>e k (.inr hk)) hg.2⟩
instance{x:Cp}[q:aT w0 L x]:aT w0 L x.blocks:=⟨fun w hw=>(q.h w hw).1⟩
instance{x:Cp}[q:aT w0 L x]:aT w0 L x.aU:=⟨fun w hw=>(q.h w hw).2⟩
instance{pages:Int}{size:Int}{blocks:Sl Bk}{ops:Int}{off:Bool}{aU:Sl Ft}[q0:aT w0 L blocks][q1:aT w0 L aU]:aT w0 L (Cp.mk pages size blocks ops off aU):=⟨fun w hw=>⟨q0.h w hw,q1.h w hw⟩⟩
def gF:Cp:=⟨0,0,⟨Sv.none,[]⟩,0,false,⟨Sv.none,[]⟩⟩
end Go.Kb
namespace Go.ax
theorem eJ.cut{α:Type}{enc:α->Array Value}{c:Nat}{h:Nat->Option Obj}{s:Sv}{xs:List α}(r:eJ enc c h s xs){lo hi:Nat}(h1:lo<=hi)(h2:hi<=xs.length):eJ enc c h ⟨s.nil,s.b,if hi=lo then s.o else s.o+lo*c,hi -lo,hi -lo,s.sp⟩ ((xs.drop lo).take (hi -lo)):=by
  have hl:=r.len;have hle:=r.ok.le;have jz:=r.ok.bd;refine⟨⟨fun hn=>?_,aqY _,?_,fun hc=>?_⟩,?_,fun i x pn j hj=>?_⟩
  ·have:=r.ok.nil hn
   simp only at this⊢;omega
  ·simp only;omega
  ·simp only at hc⊢;exact r.ok.sp (by omega)
  ·simp;omega
  ·have dD:=(ad2.1 pn).1
   rw[aqT,aq9]at dD;have hx:xs[lo+i]? =Option.some x:=by rw[as1,if_pos (by omega),asa]at pn;exact pn
   have:=r.row (lo+i) x hx j hj;simp only;rw[if_neg (by omega),show s.o+lo*c+i*c+j=s.o+(lo+i)*c+j by rw[ars];omega];exact this
end Go.ax
namespace Go.Kb
open Go.ax
structure BV where
  pages:List (List UInt8)
  used:Int
  aR:Int
  bad:Bool
  deriving DecidableEq
structure CV where
  pages:Int
  size:Int
  blocks:List BV
  ops:Int
  off:Bool
  aU:List Ft
  deriving DecidableEq
def aL(l:List (Sl UInt8)):List (List UInt8):=l.map fun x=>x.xs
theorem oA(l:List (Sl UInt8)):(aL l).length=l.length:=by simp[aL]
theorem qm{l:List (Sl UInt8)}{i:Nat}{x:Sl UInt8}(h:l[i]? =some x):(aL l)[i]? =some x.xs:=by simp[aL,h]
def bv(b:Bk):BV:=⟨aL b.pages.xs,b.used,b.aR,b.bad⟩
def iU(l:List Bk):List BV:=l.map bv
theorem gU(l:List Bk):(iU l).length=l.length:=by simp[iU]
theorem mW{l:List Bk}{i:Nat}{x:Bk}(h:l[i]? =some x):(iU l)[i]? =some (bv x):=by simp[iU,h]
def cv(c:Cp):CV:=⟨c.pages,c.size,iU c.blocks.xs,c.ops,c.off,c.aU.xs⟩
def win(rm:Sv)(lo hi:Nat):Sv:=⟨rm.nil,rm.b,if hi=lo then rm.o else rm.o+lo,hi -lo,hi -lo,rm.sp⟩
def dx(rm:Sv):Nat->List (List UInt8)->List (Sl UInt8)
  |_,[]=>[]
  |o,p::r=>⟨win rm o (o+p.length),p⟩::dx rm (o+p.length) r
theorem wq(rm:Sv): ∀(o:Nat) (l:List (List UInt8)),aL (dx rm o l)=l
  |_,[]=>rfl
  |o,p::r=>by
   have:=wq rm (o+p.length) r;simp only[aL,dx,arh]at this⊢;rw[this]
theorem Jz(rm:Sv): ∀(o:Nat) (l:List (List UInt8)),(dx rm o l).length=l.length
  |_,[]=>rfl
  |o,p::r=>by rw[dx,aqQ,aqQ,Jz]
theorem Fl(rm:Sv): ∀(o:Nat) (l:List (List UInt8)) (x:Sl UInt8),x∈dx rm o l->x.sv.b=rm.b
  |_,[],_,h=>by cases h
  |o,p::r,x,h=>by
   rcases aqW.1 h with rfl|h
   ·rfl
   ·exact Fl rm _ r x h
theorem PY(rm:Sv): ∀(o:Nat) (l:List (List UInt8)) (p:List UInt8),dx rm o (l++[p])=dx rm o l++[⟨win rm (o+l.flatten.length) (o+l.flatten.length+p.length),p⟩]
  |o,[],p=>by simp[dx]
  |o,q::r,p=>by
   rw[asc,dx,PY,dx];simp only[asl,af0,asc,ast]
theorem PZ{rm:Sv}{h:Nat->Option Obj}{all:List UInt8}(hl:eJ aN 1 h rm all): ∀(o:Nat) (l:List (List UInt8)),o+l.flatten.length<=all.length->(all.drop o).take l.flatten.length=l.flatten-> ∀x∈dx rm o l,eJ aN 1 h x.sv x.xs
  |_,[],_,_,_,hx=>by cases hx
  |o,p::r,hb,he,x,hx=>by
   rw[asl,af0]at hb;rw[asl,af0]at he
   have e1:(all.drop o).take p.length=p:=by
      have:=congrArg (List.take p.length) he;rw[List.take_take,atb (by omega),List.take_left']at this
      ·exact this
      ·rfl
   have e2:(all.drop (o+p.length)).take r.flatten.length=r.flatten:=by
      have:=congrArg (List.drop p.length) he;rw[List.drop_take,asS,List.drop_left' rfl,show p.length+r.flatten.length -p.length=r.flatten.length by omega]at this;exact this
   rcases aqW.1 hx with rfl|hx
   ·have:=hl.cut (lo:=o) (hi:=o+p.length) (by omega) (by omega)
    rw[ass,show o+p.length -o=p.length by omega,e1]at this;simpa[win]using this
   ·exact PZ hl (o+p.length) r (by omega) e2 x hx
def Ae(a:Sl (Sl UInt8)):aj:=⟨fun k=> ∃x∈a.xs,k=x.sv.b,fun h=>a.xs=[]\/ ∃rm,rm.nil=false/\a.xs=dx rm 0 (aL a.xs)/\(own aN 1 rm (aL a.xs).flatten).sat h,fun h h' e s=>by
  rcases s with s|⟨rm,h1,h2,h3⟩
  ·exact .inl s
  ·rcases List.eq_nil_or_concat a.xs with hx|⟨l,x,hx⟩
   ·exact .inl hx
   ·have hm:x∈a.xs:=by rw[hx];simp
    have hb:x.sv.b=rm.b:=Fl rm 0 _ x (h2▸hm);exact .inr ⟨rm,h1,h2,(own aN 1 rm (aL a.xs).flatten).loc h h' (fun k hk=>e k ⟨x,hm,by rw[hb];exact hk.2⟩) h3⟩⟩
def fm(a:Sl (Sl UInt8)):aj:= .two (own (ca (τ:=UInt8)) 1 a.sv a.xs) (Ae a)
theorem ZZ{a:Sl (Sl UInt8)}{h:Nat->Option Obj}(s:(Ae a).sat h): ∀x∈a.xs,eJ aN 1 h x.sv x.xs:=fun x hx=>by
  rcases s with s|⟨rm,h1,h2,h3⟩
  ·rw[s]at hx;cases hx
  ·refine PZ h3.1 0 (aL a.xs) (by omega) (by rw[ase,ark]) x (h2▸hx)
theorem Cm{α:Type}{enc:α->Array Value}{c:Nat}{s:Sv}{xs:List α}{h:Nat->Option Obj}(hl:eJ enc c h s xs)(hx:xs≠[]):(own enc c s xs).fp s.b:=
  ⟨hl.ok.some (by have:=hl.len;have:=asU.2 hx;omega),rfl⟩
theorem aj.Fm{k:Nat}: ∀{es:List aj} {e:aj},e∈es->e.fp k->(aj.all es).fp k
  |_::_,_,he,hk=>(aqW.1 he).elim (fun h=> .inl (h▸hk)) fun h=> .inr (aj.Fm h hk)
theorem P0{α:Type}{e:α}: ∀{L:List α} {i:Nat},L[i]? =Option.some e->L.Perm (e::L.eraseIdx i)
  |[],i,h=>by simp at h
  |x::L,0,h=>by obtain rfl:x=e:=by simpa using h
                simp
  |x::L,i+1,h=>by
   have:=P0 (L:=L) (i:=i) (by simpa using h);rw[atK];exact(this.cons x).trans (.swap _ _ _)
theorem Mem.pick{τ:Type}{f:τ->aj}{w0 w:World}{L:List aj}{xs:List τ}{i:Nat}{x:τ}(hx:xs[i]? =some x):Mem w0 (aj.all (xs.map f)::L) w↔Mem w0 (f x::aj.all ((xs.eraseIdx i).map f)::L) w:=by
  have hp:(xs.map f).Perm (f x::(xs.eraseIdx i).map f):=by
    have:=P0 hx;simpa using this.map f
  rw[Mem.BP];have e:Mem w0 (f x::aj.all ((xs.eraseIdx i).map f)::L) w↔Mem w0 (f x::((xs.eraseIdx i).map f++L)) w:=by
    have sw: ∀(a b:aj) (K:List aj),Mem w0 (a::b::K) w↔Mem w0 (b::a::K) w:=fun a b K=>⟨fun h=>h.perm (List.Perm.swap _ _ _),fun h=>h.perm (List.Perm.swap _ _ _)⟩;rw[sw,Mem.BP];exact⟨fun h=>h.perm as2,fun h=>h.perm as2.symm⟩
  rw[e];exact⟨fun h=>h.perm (hp.append_right L),fun h=>h.perm (hp.append_right L).symm⟩
theorem aaa{w0 w:World}{L:List aj}{a:Sl Bk}(h:Mem w0 (own bV 4 a.sv a.xs::aj.all (a.xs.map fun b:Bk=>fm b.pages)::L) w):Mem w0 (fz a::L) w:=by
  have hs:=h.sat (own bV 4 a.sv a.xs) (by simp);have ha:=h.sat (aj.all (a.xs.map fun b:Bk=>fm b.pages)) (by simp);have hb: ∀x∈a.xs,(fm x.pages).sat fun k=>w.heap[k]? :=fun x hx=>aj.zA ha _ (ard hx);refine Mem.freeze (es:=[own bV 4 a.sv a.xs,aj.all (a.xs.map fun b:Bk=>fm b.pages)]) a ⟨hs.1,fun x hx=>⟨(hb x hx).1.1,fun y hy=>⟨ZZ (hb x hx).2.1 y hy,fun _ _=>trivial⟩⟩⟩ (fun k hk=>?_) h;rcases hk with⟨bM,rfl⟩|⟨x,hx,hk⟩
  ·exact⟨_,by simp,Cm hs.1 bM⟩
  ·refine⟨aj.all (a.xs.map fun b:Bk=>fm b.pages),by simp,aj.Fm (ard hx) ?_⟩
   rcases hk with⟨bM,rfl⟩|⟨y,hy,⟨_,rfl⟩|⟨_,_,hf⟩⟩
   ·exact .inl (Cm (hb x hx).1.1 bM)
   ·exact .inr ⟨y,hy,rfl⟩
   ·exact hf.elim
theorem Fo{τ:Type}[Deep τ][r:fS τ][Plain τ]{enc:τ->Array Value}{c:Nat}[f:fZ τ enc c](hr: ∀(x:τ) k,¬r.reach x k)(hg: ∀h (x:τ),Deep.cF h x){w0 w:World}{L:List aj}{a:Sl τ}(h:Mem w0 (own enc c a.sv a.xs::L) w):Mem w0 (fz a::L) w:=by
  have hs:=h.sat (own enc c a.sv a.xs) (by simp);have e1:Deep.cells (τ:=τ)=enc:=funext (fZ.h (c:=c));have e2:Deep.c τ=c:=fZ.hc (enc:=enc);refine Mem.Zm a ⟨by rw[e1,e2];exact hs.1,fun x _=>hg _ x⟩ (fun k hk=>?_) h;rcases hk with⟨bM,rfl⟩|⟨x,_,hk⟩
  ·exact Cm hs.1 bM
  ·exact(hr x k hk).elim
theorem Fp{w0 w:World}{L:List aj}{d:Cp}(h:Mem w0 (fz d.blocks::fz d.aU::L) w):Mem w0 (fz d::L) w:=by
  refine Mem.freeze (es:=[fz d.blocks,fz d.aU]) d ⟨h.sat (fz d.blocks) (by simp),h.sat (fz d.aU) (by simp)⟩ (fun k hk=>?_) h;rcases hk with hk|hk
  ·exact⟨fz d.blocks,by simp,hk⟩
  ·exact⟨fz d.aU,by simp,hk⟩
theorem P1{w0 w:World}{L:List aj}{a:Sl Ft}(h:Mem w0 (own eG 4 a.sv a.xs::L) w):Mem w0 (fz a::L) w:=Fo (fun _ _ h=>h) (fun _ _=>trivial) h
theorem xU{w0 w:World}{L:List aj}{a:Sl Int}(h:Mem w0 (own bw 1 a.sv a.xs::L) w):Mem w0 (fz a::L) w:=Fo (fun _ _ h=>h) (fun _ _=>trivial) h
theorem JA{w0 w:World}{L:List aj}{a:Sl UInt8}(h:Mem w0 (own aN 1 a.sv a.xs::L) w):Mem w0 (fz a::L) w:=Fo (fun _ _ h=>h) (fun _ _=>trivial) h
def cN:Int:=1099511627776
def uV(b p s:Int):Bool:=decide (1<=b)&&decide (b<=32)&&decide (1<=p)&&decide (p<=16)&&decide (1<=s)&&decide (s<=256)
theorem lR{b p s:Int}:uV b p s=true↔1<=b/\b<=32/\1<=p/\p<=16/\1<=s/\s<=256:=by
 simp only[uV,alM,decide_eq_true_eq,and_assoc]
def P2(s:Int)(x:List UInt8):Bool:=decide ((x.length:Int)=s)
def qn(p s:Int)(b:BV):Bool:=decide ((b.pages.length:Int)=p)&&decide (0<=b.used)&&decide (b.used<=p)&&decide (0<=b.aR)&&decide (b.aR<=cN)&&b.pages.all (P2 s)
theorem fc{p s:Int}{b:BV}:qn p s b=true↔(b.pages.length:Int)=p/\0<=b.used/\b.used<=p/\0<=b.aR/\b.aR<=cN/\ ∀x∈b.pages,(x.length:Int)=s:=by
 simp only[qn,P2,alM,decide_eq_true_eq,and_assoc,aq8]
def aX(c:CV):Bool:=uV c.blocks.length c.pages c.size&&decide (0<=c.ops)&&decide (c.ops<=cN)&&decide (c.aU.length<=64)&&c.blocks.all (qn c.pages c.size)
theorem fy{c:CV}:aX c=true↔uV c.blocks.length c.pages c.size=true/\0<=c.ops/\c.ops<=cN/\c.aU.length<=64/\ ∀b∈c.blocks,qn c.pages c.size b=true:=by
 simp only[aX,alM,decide_eq_true_eq,and_assoc,aq8]
def gV(c:CV)(block:Int):Bool:=aX c&&decide (0<=block)&&decide (block<c.blocks.length)
theorem gW{c:CV}{block:Int}:gV c block=true↔aX c=true/\0<=block/\block<c.blocks.length:=by
 simp only[gV,alM,decide_eq_true_eq,and_assoc]
def zBV:BV:=⟨[],0,0,false⟩
def ak(c:CV)(block:Int):BV:=c.blocks.getD block.toNat zBV
def gX(n:Int):List UInt8:=List.replicate n.toNat 255
def pE(b p s:Int):CV×Int:=if uV b p s=true then(⟨p,s,List.replicate b.toNat ⟨List.replicate p.toNat (gX s),0,0,false⟩,0,false,[]⟩,0)else(⟨0,0,[],0,false,[]⟩,1)
def bq(c:CV):Ft×Bool:=match c.aU.find? fun f=>decide (f.op=c.ops)with
 |some f=>(f,f.cut||f.fail)
 |none=>(Ad,false)
def lS(f:Ft):Int:=if f.cut=true then 7 else 9
def nK(c:CV)(block oB:Int)(p:List UInt8):Bool:=gV c block&&decide (0<=oB)&&decide (oB<c.pages)&&decide ((p.length:Int)=c.size)&&decide (c.ops<cN)
theorem jA{c:CV}{block oB:Int}{p:List UInt8}:nK c block oB p=true↔gV c block=true/\0<=oB/\oB<c.pages/\(p.length:Int)=c.size/\c.ops<cN:=by
 simp only[nK,alM,decide_eq_true_eq,and_assoc]
def cR(m:UInt8)(p:List UInt8):List UInt8:=p.map fun x=>x|||m
def oC(c:CV)(p:List UInt8):List UInt8:=if(bq c).2=true then cR (~~~(bq c).1.mask) p else p
def iq(c:CV)(block oB:Int)(p:List UInt8):CV:=
 {c with ops:=c.ops+1,off:=(bq c).2&&(bq c).1.cut,blocks:=c.blocks.set block.toNat {ak c block with used:=(ak c block).used+1,pages:=(ak c block).pages.set oB.toNat (oC c p)}}
def kh(c:CV)(block oB:Int)(p:List UInt8):Int:=
 if nK c block oB p=true then(if c.off=true then 7 else if(ak c block).bad=true\/oB≠(ak c block).used then 9 else if(bq c).2=true then lS (bq c).1 else 0)else 1
def gy(c:CV)(block oB:Int)(p:List UInt8):CV:=
 if nK c block oB p=true/\c.off=false/\(ak c block).bad=false/\oB=(ak c block).used then iq c block oB p else c
def oD(c:CV)(block:Int):Bool:=gV c block&&decide (c.ops<cN)&&decide ((ak c block).aR<cN)
theorem pF{c:CV}{block:Int}:oD c block=true↔gV c block=true/\c.ops<cN/\(ak c block).aR<cN:=by
 simp only[oD,alM,decide_eq_true_eq,and_assoc]
def rZ(c:CV)(ps:List (List UInt8)):List (List UInt8):=if(bq c).2=true then ps.map (cR (bq c).1.mask)else ps.map fun _=>gX c.size
def kH(c:CV)(block:Int):CV:=
 {c with ops:=c.ops+1,off:=(bq c).2&&(bq c).1.cut,blocks:=c.blocks.set block.toNat {ak c block with used:=if(bq c).2=true then c.pages else 0,aR:=(ak c block).aR+1,pages:=rZ c (ak c block).pages}}
def dV(c:CV)(block:Int):Int:=
 if oD c block=true then(if c.off=true then 7 else if(ak c block).bad=true then 9 else if(bq c).2=true then lS (bq c).1 else 0)else 1
def fT(c:CV)(block:Int):CV:=if oD c block=true/\c.off=false/\(ak c block).bad=false then kH c block else c
def pG(c:CV)(block:Int):Int:=if gV c block=true then(if c.off=true then 7 else 0)else 1
def lT(c:CV)(block:Int):CV:=if pG c block=0 then{c with blocks:=c.blocks.set block.toNat {ak c block with bad:=true}}else c
def wu(c:CV)(fs:List Ft):Int:=if aX c=true/\fs.length<=64 then 0 else 1
def Cn(c:CV)(fs:List Ft):CV:=if wu c fs=0 then{c with off:=false,aU:=fs}else c
theorem Fq{c:CV}{block:Int}(h:gV c block=true):c.blocks[block.toNat]? =some (ak c block):=by
 obtain⟨_,h2,h3⟩:=gW.1 h;exact pt (by omega)
theorem qo{c:CV}{block:Int}(h:gV c block=true):qn c.pages c.size (ak c block)=true:=
 (fy.1 (gW.1 h).1).2.2.2.2 _ (anc (Fq h))
end Go.Kb
namespace Go.ax
open Go.RowKit
section
variable {α:Type} {enc:α->Array Value} {c:Nat}
theorem aab{P:Program}{t tx ty e:TypeId}{cE:Nat}(ht:fa P t e c cE)[he:bm enc c]{w0 w:World}{L:List aj}{i:Nat}{s:Sv}{xs ys:List α}{x:Value}
  (hw:Mem w0 L w) (hi:L[i]? =some (own enc c s xs)) (hs:Src P c tx x ys.length (aJ enc ys) w) (hn:s.nil=false) (om:s.len+ys.length<=s.cap) (jz:s.len+ys.length<=140737488355328):
  ∃w',(Builtin.append_ #[t,tx] ty #[s.val,x]).run P w= .ok (Sv.val {s with len:=s.len+ys.length}) w'/\Mem w0 (L.set i (own enc c {s with len:=s.len+ys.length} (xs++ys))) w':=by
 obtain⟨r,oh⟩:=hw.get hi;obtain⟨i',z,bc,aH,bB,cT,nq⟩:=ht.info;subst bB cT;have hlen:=r.len;have hle:=r.ok.le;obtain⟨gv,cs,T,fz,fj,eZ,mR,nt⟩:=oh hn;have hmul:(s.len+ys.length)*i'.size<=s.cap*i'.size:=ara _ om;have eO:(aJ enc ys).length=ys.length*i'.size:=gQ ys;have jf:s.o+s.len*i'.size+(aJ enc ys).toArray.size<=cs.size:=by
  rw[arO,eO];rw[ars]at hmul;omega
 have bu:=BK (P:=P) s.b (s.o+s.len*i'.size) T fz (aJ enc ys) 0 cs w fj mR (by simpa using jf) hs.one;have BL:(storeCells ⟨s.b,s.o+s.len*i'.size,none⟩ (aJ enc ys)).run P w= .ok () (w.setRow s.b (over cs (s.o+s.len*i'.size) (aJ enc ys).toArray)):=by
  simpa[over]using bu
 refine⟨w.setRow s.b (over cs (s.o+s.len*i'.size) (aJ enc ys).toArray),?_,?_⟩
 ·
  have lM:({s with len:=s.len+ys.length}:Sv).val= .slice (some ⟨s.b,s.o,s.sp⟩) (s.len+ys.length) s.cap:=Sv.ig (s:={s with len:=s.len+ys.length}) hn
  rw[Sv.ig hn,lM,gv];rcases hs.kind with⟨e',hk⟩|hk<;>simp[Builtin.append_,run_underlying ht.eU,run_underlying hk,sizeOf,typeInfo,bc,hs.len,om,hs.cells,Addr.gN,BL]
 ·
  have cU:hp (w.setRow s.b (over cs (s.o+s.len*i'.size) (aJ enc ys).toArray)) s.b=some (.cells (over cs (s.o+s.len*i'.size) (aJ enc ys).toArray) T fz):=setRow_heap w s.b cs _ T fz fj;refine hw.change hi (fun k hk=>hk) (fun k hk=>?_) (by simp[World.setRow]) ⟨rfl,rfl,rfl⟩ ⟨vQ ⟨(fun h=>by rw[hn]at h;cases h),om,by simp only;omega,r.ok.sp⟩ (by simp[hlen]) cU fun k y hy j hj=>?_,fun _=>⟨gv,_,_,_,cU,?_,by rw[og jf];exact mR,nt⟩⟩
  ·
   exact setRow_other w s.b k _ (fun e=>hk ⟨hn,e⟩)
  ·
   rw[uu jf]
   by_cases hk:k<xs.length
   ·
    rw[if_neg,←r.row k y (by rw[aq4 hk]at hy;exact hy) j hj]
    ·
     unfold mQ;rw[fj]
    ·
     have:(k+1)*i'.size<=s.len*i'.size:=ara _ (by omega);rw[ars]at this;intro h;have:=h.1;simp only at this;omega
   ·
    rw[aq3 (by omega)]at hy;have ux:=np (enc:=enc) ys (k -xs.length) y hy j hj;have oo:s.len*i'.size+(k -xs.length)*i'.size=k*i'.size:=by rw[←ars];congr 1;omega
    have bb:(k -xs.length+1)*i'.size<=ys.length*i'.size:=ara _ (by have:=(ad2.1 hy).1;omega);rw[ars]at bb;rw[if_pos ⟨by simp only;omega,by rw[arO,eO];simp only;omega⟩,←ux];simp only[aso];congr 1;omega
  ·
   rw[og jf];exact eZ
theorem aac{P:Program}{w0 w:World}{L:List aj}{i:Nat}{s:Sv}{xs ys:List α}[he:bm enc c]{k:Nat}(hw:Mem w0 L w)(hi:L[i]? =some (own enc c s xs))(hn:s.nil=false)(hk:k+ys.length<=xs.length):
  ∃w',(storeCells ⟨s.b,s.o+k*c,none⟩ (aJ enc ys)).run P w= .ok () w'/\Mem w0 (L.set i (own enc c s (xs.take k++(ys++xs.drop (k+ys.length))))) w':=by
 obtain⟨r,oh⟩:=hw.get hi;have hlen:=r.len;have hle:=r.ok.le;obtain⟨gv,cs,T,fz,fj,eZ,mR,nt⟩:=oh hn;have hmul:(k+ys.length)*c<=s.cap*c:=ara _ (by omega);have eO:(aJ enc ys).length=ys.length*c:=gQ ys;have jf:s.o+k*c+(aJ enc ys).toArray.size<=cs.size:=by
  rw[arO,eO];rw[ars]at hmul;omega
 have tm: ∀v∈aJ enc ys,v.oneCell'=true:=uv ys;have bu:=BK (P:=P) s.b (s.o+k*c) T fz (aJ enc ys) 0 cs w fj mR (by simpa using jf) tm;have BL:(storeCells ⟨s.b,s.o+k*c,none⟩ (aJ enc ys)).run P w= .ok () (w.setRow s.b (over cs (s.o+k*c) (aJ enc ys).toArray)):=by
  simpa[over]using bu
 refine⟨_,BL,?_⟩;have cU:hp (w.setRow s.b (over cs (s.o+k*c) (aJ enc ys).toArray)) s.b=some (.cells (over cs (s.o+k*c) (aJ enc ys).toArray) T fz):=setRow_heap w s.b cs _ T fz fj;have oE:(xs.take k++(ys++xs.drop (k+ys.length))).length=xs.length:=by simp only[af0,aqT,aq9];omega
 refine hw.change hi (fun k hk=>hk) (fun k hk=>?_) (by simp[World.setRow]) ⟨rfl,rfl,rfl⟩ ⟨vQ r.ok (by rw[oE];exact hlen) cU fun m y hy j hj=>?_,fun _=>⟨gv,_,_,_,cU,?_,by rw[og jf];exact mR,nt⟩⟩
 ·
  exact setRow_other w s.b k _ (fun e=>hk ⟨hn,e⟩)
 ·
  rw[uu jf];rcases aqX m k with h1|h1
  ·
   have xV:xs[m]? =some y:=by
    rw[aq4 (by rw[aqT];omega),as1,if_pos h1]at hy;exact hy
   rw[if_neg,←r.row m y xV j hj]
   ·
    unfold mQ;rw[fj]
   ·
    have:(m+1)*c<=k*c:=ara _ (by omega);rw[ars]at this;intro h;have:=h.1;omega
  ·
   rcases aqX m (k+ys.length)with h2|h2
   ·
    have xV:ys[m -k]? =some y:=by
     rw[aq3 (by rw[aqT];omega),aqT,atb (by omega),aq4 (by omega)]at hy;exact hy
    have ux:=np (enc:=enc) ys (m -k) y xV j hj;have oo:k*c+(m -k)*c=m*c:=by rw[←ars];congr 1;omega
    have bb:(m -k+1)*c<=ys.length*c:=ara _ (by omega);rw[ars]at bb;rw[if_pos ⟨by omega,by rw[arO,eO];omega⟩,←ux];simp only[aso];congr 1;omega
   ·
    have xV:xs[m]? =some y:=by
     rw[aq3 (by rw[aqT];omega),aqT,atb (by omega),aq3 (by omega),asa]at hy;rw[←hy];congr 1;omega
    rw[if_neg,←r.row m y xV j hj]
    ·
     unfold mQ;rw[fj]
    ·
     have:(k+ys.length)*c<=m*c:=ara _ h2;rw[ars]at this;intro h;have:=h.2;rw[arO,eO]at this;omega
 ·
  rw[og jf];exact eZ
end
section
variable {P:Program} {N:ct} {w0:World} {env:Env} {L:List aj} {l:List Oper} {Q:Exit->Act->World->Prop} {rest:List Oper} {d:Option Tmp} {ty:TypeId} {ps:String} {af:Array Edge} {gd:Option (Nat×Bool)} {K:Value->List aj->Prop}
variable {α:Type} {enc:α->Array Value} {c:Nat} {s:Sv} {xs ys:List α}
theorem aad{t tx e:TypeId}{x y:Operand}{yv:Value}{cE i:Nat}[ht:fa P t e c cE][he:bm enc c](hx:ev env x=some s.val)(hy:ev env y=some yv)[q:fw L s enc c xs i]
  (hs: ∀w,Mem w0 L w->Src P c tx yv ys.length (aJ enc ys) w) (hn:s.nil=false) (om:s.len+ys.length<=s.cap) (jz:s.len+ys.length<=140737488355328) {L':List aj} [hu:fu L i (own enc c {s with len:=s.len+ys.length} (xs++ys)) L']
  (hk:K (Sv.val {s with len:=s.len+ys.length}) L'):
  ij P N w0 env L ⟨d, .call {callee:= .builtin .append,args:= #[x,y],argTypes:= #[t,tx]},ty,ps,af,gd⟩ K:=
 wc fun a w ha hw=>by
  obtain⟨w',h1,h4⟩:=aab (ty:=ty) ht hw q.h (hs w hw) hn om jz;refine⟨_,w',L',?_,by rw[←hu.h];exact h4,hk⟩;simp[execOp,ha.ev hx,ha.ev hy,resolve,invoke,builtin,h1,Result.andThen]
theorem aae{t tx e:TypeId}{x y:Operand}{yv:Value}{cE i:Nat}[ht:fa P t e c cE][he:bm enc c](hx:ev env x=some s.val)(hy:ev env y=some yv)[q:fw L s enc c xs i]
  (hs: ∀w,Mem w0 L w->Src P c tx yv ys.length (aJ enc ys) w) (hn:s.nil=false) (om:s.len+ys.length<=s.cap) (jz:s.len+ys.length<=140737488355328) {L':List aj} [hu:fu L i (own enc c {s with len:=s.len+ys.length} (xs++ys)) L']
  (hk:Sq P N w0 l Q rest (cB env d (Sv.val {s with len:=s.len+ys.length})) L') (hd:dn N d=true:=by rfl):
  Sq P N w0 l Q (⟨d, .call {callee:= .builtin .append,args:= #[x,y],argTypes:= #[t,tx]},ty,ps,af,none⟩::rest) env L:=
 O6 rfl hd (aad hx hy hs hn om jz hk)
theorem P3{D S rm:Sv}{x y:Operand}{tx gu e:TypeId}{i k:Nat}{ys:List α}[he:bm enc c](hx:ev env x=some D.val)(mU:D.nil=false)(ox:D.sp=none)(qj:D.b=rm.b)(rX:D.o=rm.o+k*c)(hy:ev env y=some S.val)[ht:fh P tx e c][q:fw L rm enc c xs i][hS:Hd w0 L S enc c ys](hc:0<c)(hn:rm.nil=false)(h0:0<ys.length)(hl:ys.length<=D.len)(ka:k+ys.length<=xs.length)
  {L':List aj} [hu:fu L i (own enc c rm (xs.take k++(ys++xs.drop (k+ys.length)))) L'] (hk:K (.int .i64 ys.length) L'):
  ij P N w0 env L ⟨d, .call {callee:= .builtin .copy,args:= #[x,y],argTypes:= #[tx,gu]},ty,ps,af,gd⟩ K:=
 wc fun a w ha hw=>by
  have hs:=hS.h w hw;have Cd:=hs.some h0;have nD:=hs.len;have Ce:=hs.ok.sp (by have:=hs.ok.le;omega);rw[Sv.ig mU,ox,qj,rX]at hx;rw[Sv.ig Cd,Ce]at hy;obtain⟨w',h1,h2⟩:=aac (P:=P) hw q.h hn ka;rw[hu.h]at h2;refine⟨_,w',L',?_,h2,hk⟩;have Fs:=run_loadCells_list (P:=P) w ⟨S.b,S.o,none⟩ (aJ enc ys) (fun j v hj=>by
   obtain⟨z,hz,hv⟩:=Ei hc hj;rw[Addr.gN,rI,←hv,←hs.row _ z hz (j%c) (asX _ hc)];congr 1;have:=asY j c;rw[asj]at this;omega)
  rw[gQ]at Fs
  cases hq:P.info? e with
  |none=>have:=ht.size;simp[hq]at this
  |some i'=>
   have hi:i'.size=c:=by have:=ht.size;simpa[hq]using this
   have Bz:Nat.min S.len D.len=ys.length:=by rw[nD];exact atb hl
   have gq:(Builtin.copy_ #[tx,gu] ty #[.slice (some ⟨rm.b,rm.o+k*c,none⟩) D.len D.cap, .slice (some ⟨S.b,S.o,none⟩) S.len S.cap]).run P w= .ok (goInt ys.length) w':=by
    simp[Builtin.copy_,run_underlying ht.eU,Builtin.lenOf,Builtin.firstCells,sizeOf,typeInfo,hq,hi,Bz,Fs,h1]
   simp[execOp,ha.ev hx,ha.ev hy,resolve,invoke,builtin,gq,Result.andThen,goInt]
theorem aaf{D S rm:Sv}{x y:Operand}{tx gu e:TypeId}{i k:Nat}{ys:List α}[he:bm enc c](hx:ev env x=some D.val)(mU:D.nil=false)(ox:D.sp=none)(qj:D.b=rm.b)(rX:D.o=rm.o+k*c)(hy:ev env y=some S.val)[ht:fh P tx e c][q:fw L rm enc c xs i][hS:Hd w0 L S enc c ys](hc:0<c)(hn:rm.nil=false)(h0:0<ys.length)(hl:ys.length<=D.len)(ka:k+ys.length<=xs.length)
  {L':List aj} [hu:fu L i (own enc c rm (xs.take k++(ys++xs.drop (k+ys.length)))) L'] (hk:Sq P N w0 l Q rest (cB env d (.int .i64 ys.length)) L') (hd:dn N d=true:=by rfl):
  Sq P N w0 l Q (⟨d, .call {callee:= .builtin .copy,args:= #[x,y],argTypes:= #[tx,gu]},ty,ps,af,none⟩::rest) env L:=
 O6 rfl hd (P3 hx mU ox qj rX hy hc hn h0 hl ka hk)
end
theorem Mem.Ag{w0 w:World}{L:List aj}{e:aj}{es:List aj}(h:Mem w0 (e::aj.all es::L) w):Mem w0 (aj.all (es++[e])::L) w:=by
 have h1:Mem w0 (aj.all (e::es)::L) w:=Mem.Zn h;rw[Mem.BP]at h1⊢;exact h1.perm ((List.perm_append_singleton e es).symm.append_right L)
theorem Mem.Fu{w0 w:World}{L:List aj}{e e':aj}(hf: ∀k,e'.fp k->e.fp k)(hs:(e.sat fun k=>w.heap[k]?)->e'.sat fun k=>w.heap[k]?)(h:Mem w0 (e::L) w):Mem w0 (e'::L) w:=by
 have hd:=arl.1 h.pj;refine⟨h.below,fun x he=>?_,fun x he k hk=>?_,arl.2 ⟨fun y hy k hk=>hd.1 y hy k (hf k hk),hd.2⟩⟩
 ·
  rcases aqW.1 he with rfl|he
  ·
   exact hs (h.sat e (by simp))
  exact h.sat x (by simp[he])
 rcases aqW.1 he with rfl|he
 ·
  exact h.jL e (by simp) k (hf k hk)
 exact h.jL x (by simp[he]) k hk
end Go.ax
namespace Go.Kb
open Go.ax
theorem P4{w0 w:World}{L:List aj}{s rm:Sv}{l:List (List UInt8)}{xs:List (Sl UInt8)}(hx:xs=dx rm 0 l)(hn:rm.nil=false)(h:Mem w0 (own (ca (τ:=UInt8)) 1 s xs::own aN 1 rm l.flatten::L) w):Mem w0 (fm ⟨s,xs⟩::L) w:=by
 have ht:aL xs=l:=by rw[hx,wq]
 have h1:=h.perm (List.Perm.swap _ _ _);have h2:Mem w0 (Ae ⟨s,xs⟩::own (ca (τ:=UInt8)) 1 s xs::L) w:=Mem.Fu (fun k hk=>by
  obtain⟨x,qi,rfl⟩:=hk;exact⟨hn,Fl rm 0 l x (hx▸qi)⟩) (fun hs=> .inr ⟨rm,hn,by simp only[ht];exact hx,by simp only[ht];exact hs⟩) h1
 exact Mem.xD.2 (h2.perm (List.Perm.swap _ _ _))
theorem aag{w0 w:World}{L:List aj}{s:Sv}(h:Mem w0 (own (ca (τ:=UInt8)) 1 s []::L) w):Mem w0 (fm ⟨s,[]⟩::L) w:=by
 refine Mem.xD.2 (Mem.perm (Mem.Fu (e:= .emp) (e':=Ae ⟨s,[]⟩) (fun k hk=>?_) (fun _=> .inl rfl) (Mem.BO.2 h)) (List.Perm.swap _ _ _));obtain⟨x,hx,_⟩:=hk
 cases hx
theorem aah{w0 w:World}{L:List aj}{a:Sl (Sl UInt8)}(bM:a.xs≠[])(h:Mem w0 (fm a::L) w): ∃rm:Sv,(rm.nil=false/\rm.sp=none/\a.xs=dx rm 0 (aL a.xs))/\Mem w0 (own (ca (τ:=UInt8)) 1 a.sv a.xs::own aN 1 rm (aL a.xs).flatten::L) w:=by
 have h1:=Mem.xD.1 h;have hr:=h1.sat (Ae a) (by simp);rcases hr with hr|⟨rm,g1,g2,g3⟩
 ·
  exact absurd hr bM
 refine⟨rm,⟨g1,(g3.2 g1).1,g2⟩,?_⟩;have h2:=h1.perm (List.Perm.swap _ _ _);obtain⟨x,l,Fv⟩:=List.exists_cons_of_ne_nil bM;have hm:x∈a.xs:=by rw[Fv];simp
 have hb:x.sv.b=rm.b:=Fl rm 0 _ x (g2▸hm);exact(Mem.Fu (e:=Ae a) (e':=own aN 1 rm (aL a.xs).flatten) (fun k hk=>⟨x,hm,by rw[hb];exact hk.2⟩) (fun _=>g3) h2).perm (List.Perm.swap _ _ _)
theorem Fw: ∀{l:List (List UInt8)} {i:Nat} {q r:List UInt8},l[i]? =some q->r.length=q.length->(l.set i r).flatten=l.flatten.take (l.take i).flatten.length++(r++l.flatten.drop ((l.take i).flatten.length+r.length))
 |y::l,0,q,r,h,hr=>by
  obtain rfl:y=q:=by simpa using h
  simp[hr]
 |y::l,i+1,q,r,h,hr=>by
  have:=Fw (l:=l) (i:=i) (q:=q) (r:=r) (by simpa using h) hr;simp only[ath,asl,this,ar6,af0];rw[List.take_length_add_append,ast,List.drop_length_add_append,aq6]
theorem Fx{rm:Sv}: ∀{o:Nat} {l:List (List UInt8)} {i:Nat} {q:List UInt8},l[i]? =some q->(dx rm o l)[i]? =some ⟨win rm (o+(l.take i).flatten.length) (o+(l.take i).flatten.length+q.length),q⟩
 |o,y::l,0,q,h=>by
  obtain rfl:y=q:=by simpa using h
  simp[dx]
 |o,y::l,i+1,q,h=>by
  have:=Fx (rm:=rm) (o:=o+y.length) (l:=l) (i:=i) (q:=q) (by simpa using h);simp only[dx,List.getElem?_cons_succ,this,ar6,asl,af0,ast]
def P5(l:List (List UInt8)):Prop:=l.length<=1000000/\l.flatten.length<=1000000
theorem Co{l:List (List UInt8)}{i:Nat}{q:List UInt8}(h:l[i]? =some q):(l.take (i+1)).flatten.length=(l.take i).flatten.length+q.length:=by
 rw[aq0,h];simp
theorem Cq(l:List (List UInt8))(i:Nat):(l.take i).flatten.length<=l.flatten.length:=by
 have:l.flatten=(l.take i).flatten++(l.drop i).flatten:=by rw[←List.flatten_append,arC]
 rw[this,af0];omega
theorem aai{rm:Sv}{l:List (List UInt8)}{n i:Nat}{r q:List UInt8}(hn:n=l.length)(hr:r=(l.take i).flatten)(h:l[i]? =some q):(dx rm 0 (l.take i)++List.replicate (n -i) (⟨Sv.none,[]⟩:Sl UInt8)).set i ⟨win rm r.length (r.length+q.length),q⟩=dx rm 0 (l.take (i+1))++List.replicate (n -(i+1)) (⟨Sv.none,[]⟩:Sl UInt8):=by
 have hi:=(ad2.1 h).1;have hl:(dx rm 0 (l.take i)).length=i:=by rw[Jz,aqT];omega
 rw[asL _ _ (by omega),hl,asy,aq0,h,show n -i=n -(i+1)+1 by omega,atJ,asf];simp only[atN];rw[PY,hr,ary,aq6,aty]
theorem oG{w0 w:World}{L:List aj}(d:Cp)(h:Mem w0 (own bV 4 d.blocks.sv d.blocks.xs::aj.all (d.blocks.xs.map fun b:Bk=>fm b.pages)::own eG 4 d.aU.sv d.aU.xs::L) w):Mem w0 (fz d::L) w:=
 Fp ((P1 (a:=d.aU) ((aaa h).perm (List.Perm.swap _ _ _))).perm (List.Perm.swap _ _ _))
theorem JB{α:Type}{enc:α->Array Value}{c:Nat}{s:Sv}{xs ys:List α}{w0 w:World}{L:List aj}(e:xs.map enc=ys.map enc)(h:Mem w0 (own enc c s xs::L) w):Mem w0 (own enc c s ys::L) w:=
 Mem.Fu (e:=own enc c s xs) (fun _ hk=>hk) (fun hs=>⟨⟨hs.1.ok,by have:=congrArg List.length e;simp only[arA]at this;rw[←this];exact hs.1.len,fun i y hy j hj=>by
  have h1:(xs.map enc)[i]? =(ys.map enc)[i]? :=by rw[e]
  rw[aq1,aq1,hy]at h1
  cases hx:xs[i]?with
  |none=>rw[hx]at h1;cases h1
  |some x=>
   rw[hx]at h1;have h2:enc x=enc y:=by simpa using h1
   have:=hs.1.row i x hx j hj;rw[h2]at this;exact this⟩,hs.2⟩) h
theorem Fy{w0 w:World}{L:List aj}{s sp rm:Sv}{xs:List Bk}{i:Nat}{B B':Bk}{ps:List (Sl UInt8)}{l:List (List UInt8)}(hi:i<xs.length)(hp:ps.map (fun x=>x.sv)=(dx rm 0 l).map (fun x=>x.sv))(hn:rm.nil=false)(hc:bV B=bV B')(hB:B'.pages=⟨sp,dx rm 0 l⟩)
  (h:Mem w0 (own (ca (τ:=UInt8)) 1 sp ps::own aN 1 rm l.flatten::own bV 4 s (xs.set i B)::aj.all ((xs.eraseIdx i).map fun b:Bk=>fm b.pages)::L) w):Mem w0 (own bV 4 s (xs.set i B')::aj.all ((xs.set i B').map fun b:Bk=>fm b.pages)::L) w:=by
 have h1:Mem w0 (own (ca (τ:=UInt8)) 1 sp (dx rm 0 l)::own aN 1 rm l.flatten::own bV 4 s (xs.set i B)::aj.all ((xs.eraseIdx i).map fun b:Bk=>fm b.pages)::L) w:=JB (by
  have:=congrArg (List.map fun v:Sv=>(#[v.val]:Array Value)) hp;rw[atT,atT]at this;exact this) h
 have h2:=P4 (xs:=dx rm 0 l) rfl hn h1;rw[←hB]at h2;have h3:=JB (ys:=xs.set i B') (by rw[atd,atd,hc]) (h2.perm (List.Perm.swap _ _ _));have h4:Mem w0 (fm B'.pages::aj.all (((xs.set i B').eraseIdx i).map fun b:Bk=>fm b.pages)::own bV 4 s (xs.set i B')::L) w:=by
  rw[List.eraseIdx_set_eq];exact h3.perm ((List.Perm.swap _ _ _).trans (List.Perm.cons _ (List.Perm.swap _ _ _)))
 have h5:=(Mem.pick (f:=fun b:Bk=>fm b.pages) (xs:=xs.set i B') (i:=i) (x:=B') (by rw[aq7 hi])).2 h4;exact h5.perm (List.Perm.swap _ _ _)
theorem P6{w0 w:World}{L:List aj}{s:Sv}{xs:List Bk}{i:Nat}{B:Bk}(hB:xs[i]? =some B)(bM:B.pages.xs≠[])(h:Mem w0 (own bV 4 s xs::aj.all (xs.map fun b:Bk=>fm b.pages)::L) w):
  ∃rm:Sv,(rm.nil=false/\rm.sp=none/\B.pages.xs=dx rm 0 (aL B.pages.xs))/\Mem w0 (own (ca (τ:=UInt8)) 1 B.pages.sv B.pages.xs::own aN 1 rm (aL B.pages.xs).flatten::own bV 4 s xs::aj.all ((xs.eraseIdx i).map fun b:Bk=>fm b.pages)::L) w:=by
 have h1:=(Mem.pick (f:=fun b:Bk=>fm b.pages) hB).1 (h.perm (List.Perm.swap _ _ _));obtain⟨rm,hr,h2⟩:=aah bM h1;refine⟨rm,hr,h2.perm (List.Perm.cons _ (List.Perm.cons _ (List.Perm.swap _ _ _)))⟩
end Go.Kb
namespace Go.ax
section
variable {P:Program} {N:ct} {w0:World} {env:Env} {L:List aj} {d:Option Tmp} {ty:TypeId} {ps:String} {af:Array Edge} {gd:Option (Nat×Bool)} {x y:Operand} {t u:TypeId}
theorem P7{a b:UInt8}(hx:ev env x=some (.int .u8 a.toNat))(hy:ev env y=some (.int .u8 b.toNat)):
  Ry P N w0 env L ⟨d, .binOp .or t x y u,ty,ps,af,gd⟩ (.int .u8 (a|||b).toNat):=by
 have ha:=a.toNat_lt;have hb:=b.toNat_lt;rw[UInt8.toNat_or];exact BE hx hy rfl rfl (by simp only[nb];omega) (by simp only[nb];omega)
theorem aaj: ∀n,n<256->(255^^^n:Nat)=255 -n:=by decide+kernel
theorem aak{p q:Nat}(hp:p<2^nb .u8)(hq:q<2^nb .u8):Op.intBits .xor .u8 (p:Int) (q:Int)=(pure (.int .u8 ((p^^^q:Nat):Int)):Sem Value):=by
 simp only[Op.intBits,zm,BitVec.toNat_xor,asD,arF (qO hp),arF (qO hq)];rw[qa (atM hp hq)]
theorem aal{a:UInt8}(hx:ev env x=some (.int .u8 a.toNat)):
  Ry P N w0 env L ⟨d, .unOp .xor t x,ty,ps,af,gd⟩ (.int .u8 (~~~a).toNat):=fun aa w ha _=>by
 have e:(Op.intBits .xor .u8 255 (a.toNat:Int))=(pure (.int .u8 ((~~~a).toNat:Int)):Sem Value):=by
  have h3:=a.toNat_lt;have h4:(~~~a).toNat=255 -a.toNat:=UInt8.toNat_not a;have h5:(255^^^a.toNat:Nat)=255 -a.toNat:=aaj a.toNat h3;have hp:(255:Nat)<2^nb .u8:=by decide
  have hq:a.toNat<2^nb .u8:=h3;have hx:=aak hp hq;rw[h5]at hx;rw[h4];exact hx
 simp only[execOp,ha.ev hx,Op.unary,Sem.run_bind,Result.andThen];rw[show(if IntKind.u8.signed=true then(-1:Int)else IntKind.u8.max)=255 by decide,e];rfl
end
open Go.RowKit
section
variable {P:Program} {N:ct} {w0:World} {env:Env} {L:List aj} {l:List Oper} {Q:Exit->Act->World->Prop} {rest:List Oper} {d:Option Tmp} {ty:TypeId} {ps:String} {af:Array Edge} {gd:Option (Nat×Bool)} {K:Value->List aj->Prop}
variable {α:Type} {enc:α->Array Value} {c:Nat}
theorem aam{β:Type}{l:List β}{i:Nat}{z:β}(h:l[i]? =some z):l.set i z=l:=by
 obtain⟨hi,rfl⟩:=ad2.1 h;exact List.set_getElem_self hi
theorem aan{D S:Sv}{x y:Operand}{tx gu e:TypeId}(hx:ev env x=some D.val)(hy:ev env y=some S.val)[ht:fh P tx e c][hS:Hd w0 L S enc c []](hk:K (.int .i64 0) L):
  ij P N w0 env L ⟨d, .call {callee:= .builtin .copy,args:= #[x,y],argTypes:= #[tx,gu]},ty,ps,af,gd⟩ K:=
 wc fun a w ha hw=>by
  have hs:=hS.h w hw;have nD:S.len=0:=hs.len;obtain⟨ad,len,cap,e1⟩:=S.ex;have el:len=S.len:=by
   cases hn:S.nil with
   |true=>rw[Sv.sX hn]at e1;have:=hs.ok.nil hn;cases e1;omega
   |false=>rw[Sv.ig hn]at e1;cases e1;rfl
  obtain⟨P8,P9,aao,e2⟩:=D.ex;refine⟨_,w,L,?_,hw,hk⟩
  cases hq:P.info? e with
  |none=>have:=ht.size;simp[hq]at this
  |some i'=>
   rw[e1]at hy;rw[e2]at hx;have mr:len=0:=by omega
   have gq:(Builtin.copy_ #[tx,gu] ty #[.slice P8 P9 aao, .slice ad len cap]).run P w= .ok (goInt 0) w:=by
    have Fs: ∀v:Addr,(loadCells v 0).run P w= .ok #[] w:=fun v=>by
     have:=run_loadCells_list (P:=P) w v [] (fun j v hj=>by simp at hj);simpa using this
    have bu: ∀v:Addr,(storeCells v []).run P w= .ok () w:=fun v=>rfl
    cases P8<;>cases ad<;>simp[Builtin.copy_,run_underlying ht.eU,Builtin.lenOf,Builtin.firstCells,sizeOf,typeInfo,hq,mr,Fs,bu]
   simp[execOp,ha.ev hx,ha.ev hy,resolve,invoke,builtin,gq,Result.andThen,goInt]
theorem JC{D S rm:Sv}{x y:Operand}{tx gu e:TypeId}{i k:Nat}{xs ys:List α}[he:bm enc c](hx:ev env x=some D.val)(mU:D.nil=false)(ox:D.sp=none)(qj:D.b=rm.b)(rX:D.o=rm.o+k*c)(hy:ev env y=some S.val)[ht:fh P tx e c][q:fw L rm enc c xs i][hS:Hd w0 L S enc c ys](hc:0<c)(hn:rm.nil=false)(hl:ys.length<=D.len)(ka:k+ys.length<=xs.length)
  {L':List aj} [hu:fu L i (own enc c rm (xs.take k++(ys++xs.drop (k+ys.length)))) L'] (hk:K (.int .i64 ys.length) L'):
  ij P N w0 env L ⟨d, .call {callee:= .builtin .copy,args:= #[x,y],argTypes:= #[tx,gu]},ty,ps,af,gd⟩ K:=by
 by_cases h0:ys=[]
 ·
  subst h0;have e1:xs.take k++([]++xs.drop (k+([]:List α).length))=xs:=by simp
  have e2:L'=L:=by
   rw[←hu.h,e1];exact aam q.h
  exact aan (c:=c) (enc:=enc) hx hy (by rw[e2]at hk;exact hk)
 ·
  exact P3 hx mU ox qj rX hy hc hn (asU.2 h0) hl ka hk
end
end Go.ax
namespace Go.Kb
open Go.ax
def gg(c:Cp):Prop:=c.blocks.xs.length<=1000000/\c.aU.xs.length<=1000000/\ ∀b∈c.blocks.xs,P5 (aL b.pages.xs)
theorem wx{α:Type}{l:List α}{i:Nat}{z:α}(h:l[i]? =some z):l.set i z=l:=by
 obtain⟨hi,rfl⟩:=ad2.1 h;exact List.set_getElem_self hi
theorem xW(l:List Bk)(i:Nat)(b:Bk):iU (l.set i b)=(iU l).set i (bv b):=by simp[iU,atd]
theorem aap{zs:List Bk}{i:Nat}{z z':Bk}(h:zs[i]? =some z):((zs.take i).map fun b:Bk=>fm b.pages)++[fm z'.pages]=((zs.set i z').take (i+1)).map fun b:Bk=>fm b.pages:=by
 have hi:=(ad2.1 h).1;rw[aq0,aq7 hi,atr (aqY _),art];rfl
theorem aaq{c:CV}(h: ∀f∈c.aU,f.op≠c.ops):bq c=(Ad,false):=by
 have:c.aU.find? (fun f=>decide (f.op=c.ops))=none:=atj.2 fun f hf=>by simpa using h f hf
 rw[bq,this]
theorem aar{c:CV}{i:Nat}{f:Ft}(hf:c.aU[i]? =some f)(h: ∀j g,j<i->c.aU[j]? =some g->g.op≠c.ops)(he:f.op=c.ops):bq c=(f,f.cut||f.fail):=by
 have:c.aU.find? (fun f=>decide (f.op=c.ops))=some f:=by
  rw[List.find?_eq_some_iff_getElem];obtain⟨hi,rfl⟩:=ad2.1 hf;exact⟨by simpa using he,i,hi,rfl,fun j hj=>by
   simpa using h j (c.aU[j]'(by omega)) hj (aqR (by omega))⟩
 rw[bq,this]
theorem Qa: ∀l:List (List UInt8),(∀x∈l,x.length<=256)->(l.map List.length).sum<=l.length*256
 |[],_=>by simp
 |x::l,hl=>by
  have h1:=Qa l fun y hy=>hl y (aq2 _ hy);have h2:=hl x aqU;simp only[arh,atz,aqQ];omega
theorem qp{c:Cp}(h:aX (cv c)=true):gg c:=by
 obtain⟨h1,h2,h3,h4,h5⟩:=fy.1 h;obtain⟨s1,s2,s3,s4,s5,s6⟩:=lR.1 h1;simp only[cv,gU]at*;refine⟨by omega,by omega,fun b hb=>?_⟩;have g:=fc.1 (h5 (bv b) (ard hb));simp only[bv]at g;have hf:(aL b.pages.xs).flatten.length<=(aL b.pages.xs).length*256:=by
  rw[List.length_flatten];exact Qa _ fun x hx=>by have:=g.2.2.2.2.2 x hx;omega
 exact⟨by omega,by omega⟩
theorem JD{rm:Sv}: ∀{o:Nat} {l l':List (List UInt8)},l.map List.length=l'.map List.length->(dx rm o l).map (fun x=>x.sv)=(dx rm o l').map (fun x=>x.sv)
 |_,[],[],_=>rfl
 |_,[],_::_,h=>by simp at h
 |_,_::_,[],h=>by simp at h
 |o,p::l,p'::l',h=>by
  simp only[arh,atw]at h;have:=JD (rm:=rm) (o:=o+p'.length) h.2;simp only[dx,arh,h.1,this]
theorem aas{rm:Sv}{l:List (List UInt8)}{i:Nat}{q r:List UInt8}(h:l[i]? =some q)(hr:r.length=q.length):(dx rm 0 l).map (fun x=>x.sv)=(dx rm 0 (l.set i r)).map (fun x=>x.sv):=JD (by
 rw[atd,hr,wx];rw[aq1,h];rfl)
theorem Ah: ∀{l:List (List UInt8)} {i j:Nat} {q:List UInt8},l[i]? =some q->j<q.length->l.flatten[(l.take i).flatten.length+j]? =q[j]?
 |y::l,0,j,q,h,hj=>by
  obtain rfl:y=q:=by simpa using h
  simp only[arz,atW,aqS,ary,asl];rw[aq4 hj]
 |y::l,i+1,j,q,h,hj=>by
  have:=Ah (l:=l) (i:=i) (j:=j) (q:=q) (by simpa using h) hj;simp only[ar6,asl,af0];rw[ast,aq3 (by omega),asi,this]
theorem Qb: ∀{l:List (List UInt8)} {i j:Nat} {q:List UInt8} {v:UInt8},l[i]? =some q->j<q.length->l.flatten.set ((l.take i).flatten.length+j) v=(l.set i (q.set j v)).flatten
 |y::l,0,j,q,v,h,hj=>by
  obtain rfl:y=q:=by simpa using h
  simp only[arz,atW,aqS,ary,asl,asf];rw[List.set_append_left _ _ hj]
 |y::l,i+1,j,q,v,h,hj=>by
  have:=Qb (l:=l) (i:=i) (j:=j) (q:=q) (v:=v) (by simpa using h) hj;simp only[ar6,asl,af0,ath];rw[ast,asL _ _ (by omega),asi,this]
theorem JE{l:List (List UInt8)}{i:Nat}{r:List UInt8}:(l.set i r).take i=l.take i:=atr (aqY _)
theorem Ai{rm:Sv}{lo n:Nat}(h:0<n):(win rm lo (lo+n)).o=rm.o+lo:=by
 simp only[win];rw[if_neg (by omega)]
theorem Fz{rm:Sv}{lo n:Nat}(hn:rm.nil=false)(hs:rm.sp=none)(hb:n<=1000000):(win rm lo (lo+n)).Ok:=
 ⟨fun h=>absurd (hn.symm.trans h) (by decide),aqY _,by simp only[win];omega,fun _=>hs⟩
theorem Qc{c:CV}{x:Cp}{B:Bk}{b g:Int}{q:List UInt8}{rm:Sv}{off:Bool}(hx:cv x=c)(hB:bv B=ak c b):
  cv ⟨x.pages,x.size,⟨x.blocks.sv,x.blocks.xs.set b.toNat ⟨⟨B.pages.sv,dx rm 0 ((aL B.pages.xs).set g.toNat q)⟩,B.used+1,B.aR,B.bad⟩⟩,x.ops+1,off,x.aU⟩={c with ops:=c.ops+1,off:=off,blocks:=c.blocks.set b.toNat {ak c b with used:=(ak c b).used+1,pages:=(ak c b).pages.set g.toNat q}}:=by
 subst hx;rw[←hB];simp only[cv,xW,bv,wq]
theorem aat{m:UInt8}{xs:List UInt8}{i:Nat}{z:UInt8}(h:xs[i]? =some z):(cR m (xs.take i)++xs.drop i).set i (z|||m)=cR m (xs.take (i+1))++xs.drop (i+1):=by
 have hi:=(ad2.1 h).1;have hl:(cR m (xs.take i)).length=i:=by rw[cR,arA,aqT];omega
 rw[asL _ _ (by omega),hl,asy,asV hi,asf,aq0,h,cR,cR,art,aq6];rfl
theorem Qd{m:UInt8}{xs:List UInt8}{i:Nat}(h:i<xs.length):(cR m (xs.take i)++xs.drop i)[i]? =xs[i]? :=by
 have hl:(cR m (xs.take i)).length=i:=by rw[cR,arA,aqT];omega
 rw[aq3 (by omega),hl,asy,asa,arP]
theorem JF{m:UInt8}{xs:List UInt8}{i:Nat}(h:i<=xs.length):(cR m (xs.take i)++xs.drop i).length=xs.length:=by
 rw[cR,af0,arA,aqT,aq9];omega
theorem Qe{T:List (List UInt8)}{g i:Nat}{q xs:List UInt8}{m z:UInt8}(hq:T[g]? =some q)(hz:xs[i]? =some z):(T.set g (cR m (xs.take (i+1))++xs.drop (i+1))).flatten=(T.set g (cR m (xs.take i)++xs.drop i)).flatten.set ((T.take g).flatten.length+i) (z|||m):=by
 have hg:=(ad2.1 hq).1;have hi:=(ad2.1 hz).1;have h1:=Qb (l:=T.set g (cR m (xs.take i)++xs.drop i)) (i:=g) (j:=i) (v:=z|||m) (aq7 hg) (by rw[JF (by omega)];exact hi);rw[JE]at h1;rw[h1,atI,aat hz]
def mixed(f:List UInt8->List UInt8)(T:List (List UInt8))(k:Nat):List (List UInt8):=(T.take k).map f++T.drop k
theorem Qf{f:List UInt8->List UInt8}{T:List (List UInt8)}:mixed f T 0=T:=by simp[mixed]
theorem Qg{f:List UInt8->List UInt8}{T:List (List UInt8)}{k:Nat}(h:T.length<=k):mixed f T k=T.map f:=by
 rw[mixed,aq5 h,atP h,arL]
theorem Cr{f:List UInt8->List UInt8}{T:List (List UInt8)}{k:Nat}{q:List UInt8}(h:T[k]? =some q):(mixed f T k)[k]? =some q:=by
 have hk:=(ad2.1 h).1;have hl:((T.take k).map f).length=k:=by rw[arA,aqT];omega
 rw[mixed,aq3 (by omega),hl,asy,asa,arP,h]
theorem JG{f:List UInt8->List UInt8}{T:List (List UInt8)}{k:Nat}{q:List UInt8}(h:T[k]? =some q):(mixed f T k).set k (f q)=mixed f T (k+1):=by
 have hk:=(ad2.1 h).1;have hl:((T.take k).map f).length=k:=by rw[arA,aqT];omega
 obtain⟨_,rfl⟩:=ad2.1 h;rw[mixed,asL _ _ (by omega),hl,asy,asV hk,asf,mixed,aq0,aqR hk,art,aq6];rfl
theorem FA{f:List UInt8->List UInt8}{T:List (List UInt8)}{k:Nat}(hf: ∀x∈T,(f x).length=x.length)(hk:k<=T.length):((mixed f T k).take k).flatten.length=(T.take k).flatten.length:=by
 have hl:((T.take k).map f).length=k:=by rw[arA,aqT];omega
 rw[mixed,List.take_append_of_le_length (by omega),aq5 (by omega),List.length_flatten,List.length_flatten,atT];congr 1;exact arT fun x hx=>hf x (asN hx)
theorem aau{f:List UInt8->List UInt8}{T:List (List UInt8)}{k n:Nat}{q:List UInt8}(hq:T[k]? =some q)(hf: ∀x∈T,(f x).length=x.length)(he:f q=List.replicate n 255)(hn:n=q.length):(mixed f T (k+1)).flatten=(mixed f T k).flatten.take (T.take k).flatten.length++(List.replicate n 255++(mixed f T k).flatten.drop ((T.take k).flatten.length+n)):=by
 have hk:=(ad2.1 hq).1;rw[←JG hq,Fw (Cr hq) (by rw[he,arK,hn]),FA hf (by omega),he,arK]
theorem aav{rm:Sv}{f:List UInt8->List UInt8}{T:List (List UInt8)}(hf: ∀x∈T,(f x).length=x.length):(dx rm 0 T).map (fun x=>x.sv)=(dx rm 0 (T.map f)).map (fun x=>x.sv):=JD (by
 rw[atT];exact(arT fun x hx=>(hf x hx)).symm)
theorem aaw{rm:Sv}{lo n:Nat}(hn:rm.nil=false)(hs:rm.sp=none)(h:0<n):(win rm lo (lo+n)).val= .slice (some ⟨rm.b,rm.o+lo,none⟩) n n:=by
 rw[Sv.ig (s:=win rm lo (lo+n)) hn,show(win rm lo (lo+n)).sp=rm.sp from rfl,hs,Ai h,show(win rm lo (lo+n)).len=n from asi ..,show(win rm lo (lo+n)).cap=n from asi ..];rfl
theorem xX{c:Cp}{b:Int}:bv (c.blocks.xs.getD b.toNat ql)=ak (cv c) b:=by
 simp only[ak,cv,iU,arI,aq1]
 cases c.blocks.xs[b.toNat]? <;>rfl
theorem q9{c:Cp}{b:Int}(h:gV (cv c) b=true):0<=b/\b.toNat<c.blocks.xs.length:=by
 obtain⟨_,h2,h3⟩:=gW.1 h;simp only[cv,gU]at h3;exact⟨h2,by omega⟩
theorem Qh{c:CV}{x:Cp}{B:Bk}{b u:Int}{l:List (List UInt8)}{rm:Sv}{off:Bool}(hx:cv x=c)(hB:bv B=ak c b):
  cv ⟨x.pages,x.size,⟨x.blocks.sv,x.blocks.xs.set b.toNat ⟨⟨B.pages.sv,dx rm 0 l⟩,u,B.aR+1,B.bad⟩⟩,x.ops+1,off,x.aU⟩={c with ops:=c.ops+1,off:=off,blocks:=c.blocks.set b.toNat {ak c b with used:=u,aR:=(ak c b).aR+1,pages:=l}}:=by
 subst hx;rw[←hB];simp only[cv,xW,bv,wq]
theorem aax{xs:List Bk}{i:Nat}{B B':Bk}(h:xs[i]? =some B)(hp:B'.pages=B.pages):((xs.set i B').map fun b:Bk=>fm b.pages)=xs.map fun b:Bk=>fm b.pages:=by
 rw[atd,hp];refine wx ?_;rw[aq1,h];rfl
theorem aay{c:CV}{x:Cp}{B:Bk}{b:Int}(hx:cv x=c)(hB:bv B=ak c b):
  cv ⟨x.pages,x.size,⟨x.blocks.sv,x.blocks.xs.set b.toNat ⟨B.pages,B.used,B.aR,true⟩⟩,x.ops,x.off,x.aU⟩={c with blocks:=c.blocks.set b.toNat {ak c b with bad:=true}}:=by
 subst hx;rw[←hB];simp only[cv,xW,bv]
theorem JH{w0 w:World}{L:List aj}{s:Sv}{xs:List (Sl UInt8)}(h:Mem w0 (own (ca (τ:=UInt8)) 1 s xs::aj.all (xs.map fun p:Sl UInt8=>fz p)::L) w):Mem w0 (fz (⟨s,xs⟩:Sl (Sl UInt8))::L) w:=by
 have hs:=h.sat (own (ca (τ:=UInt8)) 1 s xs) (by simp);have ha:=h.sat (aj.all (xs.map fun p:Sl UInt8=>fz p)) (by simp);refine Mem.freeze (es:=[own (ca (τ:=UInt8)) 1 s xs,aj.all (xs.map fun p:Sl UInt8=>fz p)]) _ ⟨hs.1,fun x hx=>aj.zA ha (fz x) (ard hx)⟩ (fun k hk=>?_) h;rcases hk with⟨bM,rfl⟩|⟨x,hx,hk⟩
 ·
  exact⟨_,by simp,Cm hs.1 bM⟩
 exact⟨aj.all (xs.map fun p:Sl UInt8=>fz p),by simp,aj.Fm (ard (f:=fun p:Sl UInt8=>fz p) hx) hk⟩
theorem Qi{w0 w:World}{L:List aj}{s:Sv}{xs:List Bk}(h:Mem w0 (own bV 4 s xs::aj.all (xs.map fun b:Bk=>fz b.pages)::L) w):Mem w0 (fz (⟨s,xs⟩:Sl Bk)::L) w:=by
 have hs:=h.sat (own bV 4 s xs) (by simp);have ha:=h.sat (aj.all (xs.map fun b:Bk=>fz b.pages)) (by simp);refine Mem.freeze (es:=[own bV 4 s xs,aj.all (xs.map fun b:Bk=>fz b.pages)]) _ ⟨hs.1,fun x hx=>aj.zA ha (fz x.pages) (ard (f:=fun b:Bk=>fz b.pages) hx)⟩ (fun k hk=>?_) h;rcases hk with⟨bM,rfl⟩|⟨x,hx,hk⟩
 ·
  exact⟨_,by simp,Cm hs.1 bM⟩
 exact⟨aj.all (xs.map fun b:Bk=>fz b.pages),by simp,aj.Fm (ard (f:=fun b:Bk=>fz b.pages) hx) hk⟩
theorem Qj{w0 w:World}{L:List aj}{s:Sv}(hs:s.Ok)(hl:s.len=0)(h:Mem w0 L w):Mem w0 (fz (⟨s,[]⟩:Sl Ft)::L) w:=
 Mem.freeze (es:=[]) _ ⟨⟨hs,hl,fun i x hx=>by cases hx⟩,fun x hx=>by cases hx⟩ (fun k hk=>by
  rcases hk with⟨bM,_⟩|⟨x,hx,_⟩
  ·
   exact absurd rfl bM
  cases hx) h
theorem Qk{w0 w:World}{L:List aj}{d:Cp}(hf:d.aU=⟨Sv.none,[]⟩)(h:Mem w0 (own bV 4 d.blocks.sv d.blocks.xs::aj.all (d.blocks.xs.map fun b:Bk=>fz b.pages)::L) w):Mem w0 (fz d::L) w:=by
 have h1:=Qj (s:=Sv.none) Sv.BI rfl (Qi h);rw[←hf]at h1;exact Fp (h1.perm (List.Perm.swap _ _ _))
theorem Ql{zs:List Bk}{i:Nat}{z z':Bk}(h:zs[i]? =some z):((zs.take i).map fun b:Bk=>fz b.pages)++[fz z'.pages]=((zs.set i z').take (i+1)).map fun b:Bk=>fz b.pages:=by
 have hi:=(ad2.1 h).1;rw[aq0,aq7 hi,atr (aqY _),art];rfl
theorem JI{zs:List (Sl UInt8)}{i:Nat}{z z':Sl UInt8}(h:zs[i]? =some z):((zs.take i).map fun b:Sl UInt8=>fz b)++[fz z']=((zs.set i z').take (i+1)).map fun b:Sl UInt8=>fz b:=by
 have hi:=(ad2.1 h).1;rw[aq0,aq7 hi,atr (aqY _),art];rfl
theorem FB{α β:Type}{f:α->β}{zs:List α}{i:Nat}{z z':α}(h:zs[i]? =some z):((zs.set i z').take (i+1)).map f=(zs.take i).map f++[f z']:=by
 have hi:=(ad2.1 h).1;rw[aq0,aq7 hi,atr (aqY _),art];rfl
theorem FC{b n:Nat}(h:n<=1000000):(⟨false,b,0,n,n,none⟩:Sv).Ok:=⟨fun h=>(by cases h),aqY _,by simp only;omega,fun _=>rfl⟩
end Go.Kb
namespace Go.ax
theorem Qm{P:Program}{N:ct}{w0:World}{env:Env}{L:List aj}{Q:Exit->Act->World->Prop}{c:Code}{X:Type}{pr:X->Prop}(Lx:X->List aj)(h: ∀w,Mem w0 L w-> ∃x,pr x/\Mem w0 (Lx x) w)(hk: ∀x,pr x->Cw P N w0 Q c env (Lx x)):Cw P N w0 Q c env L:=fun a w ha hw=>by
 obtain⟨x,h1,h2⟩:=h w hw;exact hk x h1 a w ha h2
end Go.ax
namespace Go.Kb
open Go.ax
structure fe where
 kind:Int
 id:Int
 gen:UInt64
 body:Sl UInt8
def cX(x:fe):Array Value:= #[.int .i64 x.kind, .int .i64 x.id, .int .u64 x.gen.toNat,x.body.sv.val]
instance:bm cX 4:=⟨fun _=>rfl,fun x=>by
 simp only[cX,asJ,asP,as4,Sv.one,uT,uU,asA]⟩
instance (x:fe):fP (cX x) 4:=⟨rfl,bm.one x⟩
instance (x:fe):cg (cX x) 0 (.int .i64 x.kind):=⟨rfl⟩
instance (x:fe):cg (cX x) 1 (.int .i64 x.id):=⟨rfl⟩
instance (x:fe):cg (cX x) 2 (.int .u64 x.gen.toNat):=⟨rfl⟩
instance (x:fe):cg (cX x) 3 (x.body.sv.val):=⟨rfl⟩
instance:Deep fe where
 c:=4
 cells:=cX
 size:=bm.size
 one:=bm.one
 cF h x:=Deep.cF h x.body
 cc x:=Deep.cc x.body
 jg h x hs:=Deep.jg h x.body hs
 mono w w' x hg hb:=Deep.mono w w' x.body hg hb
variable {w0:World}{L:List aj}
instance{x:fe}[q:aT w0 L x]:aT w0 L x.body:=⟨fun w hw=>(q.h w hw)⟩
instance{kind:Int}{id:Int}{gen:UInt64}{body:Sl UInt8}[q0:aT w0 L body]:aT w0 L (fe.mk kind id gen body):=⟨fun w hw=>q0.h w hw⟩
def oH:fe:=⟨0,0,0,⟨Sv.none,[]⟩⟩
structure dy where
 gen:UInt64
 at_:Sl Int
def eP(x:dy):Array Value:= #[.int .u64 x.gen.toNat,x.at_.sv.val]
instance:bm eP 2:=⟨fun _=>rfl,fun x=>by
 simp only[eP,asJ,asP,as4,Sv.one,uT,uU,asA]⟩
instance (x:dy):fP (eP x) 2:=⟨rfl,bm.one x⟩
instance (x:dy):cg (eP x) 0 (.int .u64 x.gen.toNat):=⟨rfl⟩
instance (x:dy):cg (eP x) 1 (x.at_.sv.val):=⟨rfl⟩
instance:Deep dy where
 c:=2
 cells:=eP
 size:=bm.size
 one:=bm.one
 cF h x:=Deep.cF h x.at_
 cc x:=Deep.cc x.at_
 jg h x hs:=Deep.jg h x.at_ hs
 mono w w' x hg hb:=Deep.mono w w' x.at_ hg hb
instance{x:dy}[q:aT w0 L x]:aT w0 L x.at_:=⟨fun w hw=>(q.h w hw)⟩
instance{gen:UInt64}{at_:Sl Int}[q0:aT w0 L at_]:aT w0 L (dy.mk gen at_):=⟨fun w hw=>q0.h w hw⟩
def lU:dy:=⟨0,⟨Sv.none,[]⟩⟩
structure az where
 live:Int
 used:Int
 aR:Int
 bad:Bool
 deriving DecidableEq
def bG(x:az):Array Value:= #[.int .i64 x.live, .int .i64 x.used, .int .i64 x.aR, .bool x.bad]
instance:bm bG 4:=⟨fun _=>rfl,fun x=>by
 simp only[bG,asJ,asP,as4,Sv.one,uT,uU,asA]⟩
instance (x:az):fP (bG x) 4:=⟨rfl,bm.one x⟩
instance (x:az):cg (bG x) 0 (.int .i64 x.live):=⟨rfl⟩
instance (x:az):cg (bG x) 1 (.int .i64 x.used):=⟨rfl⟩
instance (x:az):cg (bG x) 2 (.int .i64 x.aR):=⟨rfl⟩
instance (x:az):cg (bG x) 3 (.bool x.bad):=⟨rfl⟩
def dW:az:=⟨0,0,0,false⟩
structure cl where
 ae:Cp
 at_:Sl Int
 gen:UInt64
 last:Int
def cn(x:cl):Array Value:= #[.int .i64 x.ae.pages, .int .i64 x.ae.size,x.ae.blocks.sv.val, .int .i64 x.ae.ops, .bool x.ae.off,x.ae.aU.sv.val,x.at_.sv.val, .int .u64 x.gen.toNat, .int .i64 x.last]
instance:bm cn 9:=⟨fun _=>rfl,fun x=>by
 simp only[cn,asJ,asP,as4,Sv.one,uT,uU,asA]⟩
instance (x:cl):fP (cn x) 9:=⟨rfl,bm.one x⟩
instance (x:cl):cg (cn x) 0 (.int .i64 x.ae.pages):=⟨rfl⟩
instance (x:cl):cg (cn x) 1 (.int .i64 x.ae.size):=⟨rfl⟩
instance (x:cl):cg (cn x) 2 (x.ae.blocks.sv.val):=⟨rfl⟩
instance (x:cl):cg (cn x) 4 (.bool x.ae.off):=⟨rfl⟩
instance (x:cl):cg (cn x) 6 (x.at_.sv.val):=⟨rfl⟩
instance (x:cl):cg (cn x) 7 (.int .u64 x.gen.toNat):=⟨rfl⟩
instance (x:cl):cg (cn x) 8 (.int .i64 x.last):=⟨rfl⟩
instance (x:cl):nk (cn x) 0 6 (aS x.ae):=⟨rfl,fun j hj=>by
 match j,hj with
 |0,_=>rfl
 |1,_=>rfl
 |2,_=>rfl
 |3,_=>rfl
 |4,_=>rfl
 |5,_=>rfl⟩
instance:Deep cl where
 c:=9
 cells:=cn
 size:=bm.size
 one:=bm.one
 cF h x:=Deep.cF h x.ae/\Deep.cF h x.at_
 cc x:= .two (Deep.cc x.ae) (Deep.cc x.at_)
 jg h x hs:=⟨Deep.jg h x.ae hs.1,Deep.jg h x.at_ hs.2.1⟩
 mono w w' x hg hb:=⟨Deep.mono w w' x.ae hg.1 hb,Deep.mono w w' x.at_ hg.2 hb⟩
instance:fS cl where
 reach x k:=fS.reach x.ae k\/fS.reach x.at_ k
 congr h h' x e hg:=⟨fS.congr h h' x.ae (fun k hk=>e k (.inl hk)) hg.1,fS.congr h h' x.at_ (fun k hk=>e k (.inr hk)) hg.2⟩
instance{x:cl}[q:aT w0 L x]:aT w0 L x.ae:=⟨fun w hw=>(q.h w hw).1⟩
instance{x:cl}[q:aT w0 L x]:aT w0 L x.at_:=⟨fun w hw=>(q.h w hw).2⟩
instance{ae:Cp}{at_:Sl Int}{gen:UInt64}{last:Int}[q0:aT w0 L ae][q1:aT w0 L at_]:aT w0 L (cl.mk ae at_ gen last):=⟨fun w hw=>⟨q0.h w hw,q1.h w hw⟩⟩
def lV:cl:=⟨gF,⟨Sv.none,[]⟩,0,0⟩
structure aQ where
 aq:cl
 beyond:Bool
def aM(x:aQ):Array Value:= #[.int .i64 x.aq.ae.pages, .int .i64 x.aq.ae.size,x.aq.ae.blocks.sv.val, .int .i64 x.aq.ae.ops, .bool x.aq.ae.off,x.aq.ae.aU.sv.val,x.aq.at_.sv.val, .int .u64 x.aq.gen.toNat, .int .i64 x.aq.last, .bool x.beyond]
instance (x:aQ):cg (aM x) 0 (.int .i64 x.aq.ae.pages):=⟨rfl⟩
instance (x:aQ):cg (aM x) 1 (.int .i64 x.aq.ae.size):=⟨rfl⟩
instance (x:aQ):cg (aM x) 2 (x.aq.ae.blocks.sv.val):=⟨rfl⟩
instance (x:aQ):cg (aM x) 6 (x.aq.at_.sv.val):=⟨rfl⟩
instance (x:aQ):cg (aM x) 7 (.int .u64 x.aq.gen.toNat):=⟨rfl⟩
instance (x:aQ):cg (aM x) 8 (.int .i64 x.aq.last):=⟨rfl⟩
instance (x:aQ):cg (aM x) 9 (.bool x.beyond):=⟨rfl⟩
instance (x:aQ):nk (aM x) 0 9 (cn x.aq):=⟨rfl,fun j hj=>by
 match j,hj with
 |0,_=>rfl
 |1,_=>rfl
 |2,_=>rfl
 |3,_=>rfl
 |4,_=>rfl
 |5,_=>rfl
 |6,_=>rfl
 |7,_=>rfl
 |8,_=>rfl⟩
instance (x:aQ):nk (aM x) 0 6 (aS x.aq.ae):=⟨rfl,fun j hj=>by
 match j,hj with
 |0,_=>rfl
 |1,_=>rfl
 |2,_=>rfl
 |3,_=>rfl
 |4,_=>rfl
 |5,_=>rfl⟩
structure ji where
 w:az
 pages:Int
 deriving DecidableEq
def fF(x:ji):Array Value:= #[.int .i64 x.w.live, .int .i64 x.w.used, .int .i64 x.w.aR, .bool x.w.bad, .int .i64 x.pages]
instance:bm fF 5:=⟨fun _=>rfl,fun x=>by
 simp only[fF,asJ,asP,as4,Sv.one,uT,uU,asA]⟩
instance (x:ji):fP (fF x) 5:=⟨rfl,bm.one x⟩
instance (x:ji):cg (fF x) 0 (.int .i64 x.w.live):=⟨rfl⟩
instance (x:ji):cg (fF x) 1 (.int .i64 x.w.used):=⟨rfl⟩
instance (x:ji):cg (fF x) 2 (.int .i64 x.w.aR):=⟨rfl⟩
instance (x:ji):cg (fF x) 3 (.bool x.w.bad):=⟨rfl⟩
instance (x:ji):cg (fF x) 4 (.int .i64 x.pages):=⟨rfl⟩
def aaz:ji:=⟨dW,0⟩
end Go.Kb
namespace Go.ax
open Go.Kb
section
variable {P:Program} {N:ct} {w0:World} {env:Env} {L:List aj} {d:Option Tmp} {ty:TypeId} {ps:String} {af:Array Edge} {gd:Option (Nat×Bool)}
theorem aaA{p:Nat}(h:p<2^32):4294967295^^^p=4294967295 -p:=by
 have e:(BitVec.allOnes 32^^^BitVec.ofNat 32 p).toNat=(~~~(BitVec.ofNat 32 p)).toNat:=by rw[BitVec.allOnes_xor]
 rw[BitVec.toNat_xor,BitVec.toNat_not,BitVec.toNat_allOnes,asD,arF h]at e;simpa using e
theorem Qn{x:Operand}{a:Int}{p:Nat}{t:TypeId}(hx:ev env x=some (.int .u32 a))(ea:a=(p:Int))(hp:p<2^32):
  Ry P N w0 env L ⟨d, .unOp .xor t x,ty,ps,af,gd⟩ (.int .u32 ((4294967295 -p:Nat):Int)):=fun a w ha _=>by
 subst ea;have h1:(Op.intBits .xor .u32 4294967295 (p:Int)).run P w= .ok (.int .u32 ((4294967295 -p:Nat):Int)) w:=by
  have e2:(BitVec.ofInt 32 4294967295^^^BitVec.ofInt 32 (p:Int)).toNat=4294967295 -p:=by
   rw[zm,BitVec.toNat_xor,asD,arF hp,←aaA hp];rfl
  show Sem.run P (pure (Value.int .u32 (IntKind.u32.wrap ((BitVec.ofInt 32 4294967295^^^BitVec.ofInt 32 (p:Int)).toNat:Int)))) w=_;rw[e2,qa (k:= .u32) (by show 4294967295 -p<4294967296;omega)];rfl
 have h2:Op.unary .xor (.int .u32 (p:Int))=Op.intBits .xor .u32 4294967295 (p:Int):=rfl;simp only[execOp,ha.ev hx,h2,Sem.run_bind,h1,Sem.run_pure,Result.andThen]
theorem aaB{x y:Operand}{p:Nat}{a:Int}{k':IntKind}{t u:TypeId}(hx:ev env x=some (.int .u64 a))(hy:ev env y=some (.int k' 8))(ea:a=(p:Int))(hp:p*256<2^64):
  Ry P N w0 env L ⟨d, .binOp .shl t x y u,ty,ps,af,gd⟩ (.int .u64 ((p*256:Nat):Int)):=by
 subst ea;have h:=D5 (P:=P) (N:=N) (w0:=w0) (L:=L) (d:=d) (ty:=ty) (ps:=ps) (af:=af) (gd:=gd) (t:=t) (u:=u) hx hy (by decide);have e:IntKind.u64.wrap ((p:Int)*2^min (Int.toNat 8) IntKind.u64.bits)=((p*256:Nat):Int):=by
  have e1:(p:Int)*2^min (Int.toNat 8) IntKind.u64.bits=((p*256:Nat):Int):=by
   rw[show(2:Int)^min (Int.toNat 8) IntKind.u64.bits=256 from by decide];omega
  rw[e1];exact qa hp
 rw[e]at h;exact h
theorem aaC{n many i:Nat}(h:i<many):(List.replicate (many -i) (0:UInt8)++be n i).set (many -1 -i) (b8 (n/256^i))=List.replicate (many -(i+1)) 0++be n (i+1):=by
 rw[List.set_append_left _ _ (by simp;omega)];have e:List.replicate (many -i) (0:UInt8)=List.replicate (many -(i+1)) 0++[0]:=by
  rw[show many -i=many -(i+1)+1 by omega,List.replicate_succ',]
 rw[e,asL _ _ (by simp;omega)];simp only[arK,show many -1 -i -(many -(i+1))=0 by omega,asf,aq6];rfl
end
end Go.ax
namespace Go.Kb
open Go.ax
def cO(n:Int):UInt8:=b8 (n%256).toNat
theorem aaD(n:Nat):cO (n:Int)=b8 n:=by
 unfold cO;rw[show((n:Int)%256).toNat=n%256 by omega,WO]
theorem Aj(n:Int):IntKind.u8.wrap n=((cO n).toNat:Int):=by
 unfold cO;rw[rK];simp[IntKind.wrap,IntKind.bits,IntKind.signed];omega
def eV(r:Rt):List UInt8:=
 [if r.p.bits=128 then 1 else 0,cO r.p.len]++(List.range 16).map (fun i=>b8 (aW r.p.key i))++[b8 (r.cx.toNat/256),b8 r.cx.toNat]
theorem qq(r:Rt):(eV r).length=20:=by simp[eV]
theorem Qo(r:Rt):(eV r)[0]? =some (if r.p.bits=128 then 1 else 0):=by simp[eV]
theorem Qp(r:Rt):(eV r)[1]? =some (cO r.p.len):=by simp[eV]
theorem Qq(r:Rt)(i:Nat)(h:i<16):(eV r)[2+i]? =some (b8 (aW r.p.key i)):=by
 unfold eV;rw[aq6,aq3 (by simp),aq4 (by simp;omega)];simp[h]
theorem Qr(r:Rt):(eV r)[18]? =some (b8 (r.cx.toNat/256)):=by simp[eV]
theorem Qs(r:Rt):(eV r)[19]? =some (b8 r.cx.toNat):=by simp[eV]
theorem Qu(r:Rt){Ak:Array Value}(h0:Ak.size=20)(hz:Ak[0]? =some (.int .u8 (if r.p.bits=128 then 1 else 0:Nat))):
  (((over (Ak.setIfInBounds 1 (.int .u8 (cO r.p.len).toNat)) 2 (bN r.p.key)).setIfInBounds 18 (.int .u8 (b8 (r.cx.toNat/256)).toNat)).setIfInBounds 19 (.int .u8 (b8 r.cx.toNat).toNat))=(aJ aN (eV r)).toArray:=by
 have hs:(over (Ak.setIfInBounds 1 (.int .u8 (cO r.p.len).toNat)) 2 (bN r.p.key)).size=20:=by rw[og (by simp[fR,h0])];simpa using h0
 refine asv fun j=>?_;have hf: ∀b,(eV r)[j]? =some b->(aJ aN (eV r)).toArray[j]? =some (.int .u8 b.toNat):=fun b hb=>by
  have:=np (enc:=aN) (eV r) j b hb 0 (by decide);simp only[ass,arP]at this;simpa[aN]using this
 have hk:2+(bN r.p.key).size<=(Ak.setIfInBounds 1 (.int .u8 (cO r.p.len).toNat)).size:=by simp[fR,h0]
 rw[arW,arW]
 by_cases Qv:19=j
 ·
  subst Qv;rw[hf _ (Qs r)];simp[hs]
 by_cases Cs:18=j
 ·
  subst Cs;rw[hf _ (Qr r)];simp[hs]
 rw[if_neg Qv,if_neg Cs,uu hk,fR]
 by_cases h2:2<=j/\j<2+16
 ·
  rw[if_pos h2,jQ _ _ (by omega)];have:=Qq r (j -2) (by omega);rw[show 2+(j -2)=j by omega]at this;rw[hf _ this,rK];have:=gR r.p.key (j -2);rw[arF this]
 rw[if_neg h2,arW]
 by_cases h1:1=j
 ·
  subst h1;rw[hf _ (Qp r)];simp[h0]
 rw[if_neg h1]
 by_cases hj:j=0
 ·
  subst hj;rw[hz,hf _ (Qo r)];split<;>rfl
 ·
  have e1:Ak[j]? =none:=by simp;omega
  rw[e1];have:(aJ aN (eV r)).length=20:=by rw[gQ,qq]
  simp;omega
structure PV where
 kind:Int
 id:Int
 gen:Nat
 body:List UInt8
 deriving DecidableEq
def jS:PV:=⟨0,0,0,[]⟩
def cI(p:fe):PV:=⟨p.kind,p.id,p.gen.toNat,p.body.xs⟩
def nL(n:Int):Bool:=decide (24<=n)&&decide (n<=256)
theorem r8{n:Int}:nL n=true↔24<=n/\n<=256:=by simp only[nL,alM,decide_eq_true_eq]
def dO(n:Int):Int:=if nL n=true then n -16 else 0
def lW(p:PV)(n:Int):Bool:=nL n&&(decide (p.kind=1)||decide (p.kind=2))&&decide (0<=p.id)&&decide (p.id<64)&&decide (p.gen<281474976710656)&&decide ((p.body.length:Int)<=dO n)
theorem ra{p:PV}{n:Int}:lW p n=true↔nL n=true/\(p.kind=1\/p.kind=2)/\0<=p.id/\p.id<64/\p.gen<281474976710656/\(p.body.length:Int)<=dO n:=by
 simp only[lW,alM,ar4,decide_eq_true_eq,and_assoc]
def jT(b:List UInt8):Bool:=b.all fun x=>decide (x=255)
theorem Ct{b:List UInt8}:jT b=true↔ ∀x∈b,x=255:=by simp only[jT,aq8,decide_eq_true_eq]
def jB(p:PV)(n:Nat):List UInt8:=[cO p.kind,cO p.id]++be p.gen 6++be p.body.length 2++p.body++List.replicate (n -4 -10 -p.body.length) 0
def dj(p:PV)(n:Int):List UInt8×Int:=if lW p n=true then(jB p n.toNat++be (nH (jB p n.toNat)) 4,0)else([],1)
def uW(b:List UInt8):PV:=⟨(b.getD 0 0).toNat,(b.getD 1 0).toNat,de ((b.drop 2).take (8 -2)),[]⟩
def hU(b:List UInt8):Nat:=de ((b.drop 8).take (10 -8))
def lX(b:List UInt8):List UInt8:=(b.drop 0).take (b.length -4 -0)
def xY(b:List UInt8):List UInt8:=(b.drop (b.length -4)).take (b.length -(b.length -4))
def nM(b:List UInt8):List UInt8:=((lX b).drop (10+hU b)).take ((lX b).length -(10+hU b))
def wy(b:List UInt8):Bool:=b.all fun x=>decide (x=0)
theorem JJ{b:List UInt8}:wy b=true↔ ∀x∈b,x=0:=by simp only[wy,aq8,decide_eq_true_eq]
def oI(b:List UInt8):Bool:=decide ((hU b:Int)<=dO b.length)&&lW (uW b) b.length
def cD(b:List UInt8):PV×Int:=
 if nL b.length=false then(jS,3)
 else if jT b=true then(jS,0)
 else if de (xY b)≠nH (lX b)then(jS,4)
 else if oI b=false then(jS,2)
 else if wy (nM b)=false then(jS,2)
 else({uW b with body:=(b.drop 10).take (10+hU b -10)},0)
theorem Qw(b:List UInt8):hU b<65536:=by
 have h:=Pt ((b.drop 8).take (10 -8));have h2:((b.drop 8).take (10 -8)).length<=2:=by rw[aqT];omega
 have h3:=ar2 (show 0<256 by decide) h2;rw[hU];omega
theorem JK(b:List UInt8):de ((b.drop 2).take (8 -2))<281474976710656:=by
 have h:=Pt ((b.drop 2).take (8 -2));have h2:((b.drop 2).take (8 -2)).length<=6:=by rw[aqT];omega
 have h3:=ar2 (show 0<256 by decide) h2;omega
def uX(b:List UInt8):fe:=⟨(b.getD 0 0).toNat,(b.getD 1 0).toNat,UInt64.ofNat (de ((b.drop 2).take (8 -2))),⟨Sv.none,[]⟩⟩
theorem Qx(b:List UInt8):(UInt64.ofNat (de ((b.drop 2).take (8 -2)))).toNat=de ((b.drop 2).take (8 -2)):=by
 have:=JK b;rw[UInt64.toNat_ofNat'];omega
theorem Qy(b:List UInt8)(s:Sv)(l:List UInt8):cI {uX b with body:=⟨s,l⟩}={uW b with body:=l}:=by
 simp only[cI,uX,Qx];rfl
theorem JL(b:List UInt8):cI (uX b)=uW b:=Qy b Sv.none []
theorem aaE(b:List UInt8):(lX b).length=b.length -4:=by rw[lX,aqT,aq9];omega
theorem aaF{M:Nat}{k d:UInt8}(h:2<=M):((List.replicate M (0:UInt8)).set 0 k).set 1 d=[k,d]++List.replicate (M -2) 0:=by
 obtain⟨m,rfl⟩: ∃m,M=m+2:=⟨M -2,by omega⟩;simp[atJ]
theorem JM{A Y:List UInt8}{k N:Nat}(hk:k=A.length):(A++List.replicate N 0).take k++(Y++(A++List.replicate N 0).drop (k+Y.length))=A++Y++List.replicate (N -Y.length) 0:=by
 subst hk;rw[List.take_left',List.drop_append,atP (by omega),asi,List.drop_replicate,arJ,aq6];rfl
theorem aaG{p:PV}{n:Nat}(h:p.body.length+14<=n):(jB p n).length=n -4:=by
 simp only[jB,af0,jv,arK,aqQ,aqS];omega
theorem JN(b:List UInt8):(cD b).1.body.length<=65536:=by
 have h:=Qw b;rw[cD];split
 ·
  simp[jS]
 split
 ·
  simp[jS]
 split
 ·
  simp[jS]
 split
 ·
  simp[jS]
 split
 ·
  simp[jS]
 simp only[aqT];omega
structure RV where
 gen:Nat
 at_:List Int
 deriving DecidableEq
def gY:RV:=⟨0,[]⟩
def dE(r:dy):RV:=⟨r.gen.toNat,r.at_.xs⟩
def ki(n:Int):Int:=min 64 (dO n/2)
def xZ(x:Int):Bool:=decide (0<=x)&&decide (x<=65535)
theorem Cu{x:Int}:xZ x=true↔0<=x/\x<=65535:=by simp only[xZ,alM,decide_eq_true_eq]
def oJ(r:RV)(n:Int):Bool:= !decide (dO n=0)&&decide (r.gen<281474976710656)&&decide ((r.at_.length:Int)<=ki n)&&r.at_.all xZ
theorem wz{r:RV}{n:Int}:oJ r n=true↔dO n≠0/\r.gen<281474976710656/\(r.at_.length:Int)<=ki n/\ ∀x∈r.at_,xZ x=true:=by
 simp only[oJ,alM,arX,decide_eq_true_eq,decide_eq_false_iff_not,and_assoc,aq8,ne_eq]
def rb(b:List UInt8)(i:Nat):Int:=((s9 (b.getD (2*i) 0) (b.getD (2*i+1) 0)).toNat:Int)
def pH(b:List UInt8):List Int:=(List.range (b.length/2)).map (rb b)
def uY(p:PV):Bool:=decide (p.kind=2)&&decide (p.body.length%2=0)&&decide (p.id=max 0 ((p.body.length/2:Nat) -1:Int))
def bC(b:List UInt8):RV×Int:=
 if(cD b).2≠0 then(gY,(cD b).2)
 else if(cD b).1.kind=0 then(gY,6)
 else if uY (cD b).1=false then(gY,2)
 else(⟨(cD b).1.gen,pH (cD b).1.body⟩,0)
def FD(x:Int):List UInt8:=[cO (x/256),cO x]
def gG(l:List Int):List UInt8:=(l.map FD).flatten
def cS(r:RV)(n:Int):List UInt8×Int:=if oJ r n=true then dj ⟨2,max 0 ((r.at_.length:Int) -1),r.gen,gG r.at_⟩ n else([],1)
theorem aaH{b:List UInt8}{i:Nat}(h:i<b.length/2):(pH b).take (i+1)=(pH b).take i++[rb b i]:=by
 rw[aq0,pH,aq1,asr h];rfl
theorem FE(b:List UInt8):(pH b).length=b.length/2:=by simp[pH]
theorem aaI{l:List Int}{i:Nat}{x:Int}(h:l[i]? =some x):gG (l.take (i+1))=gG (l.take i)++FD x:=by
 simp[gG,aq0,h]
theorem Al(l:List Int):(gG l).length=2*l.length:=by
 induction l with
 |nil=>rfl
 |cons x l ih=>
  have:gG (x::l)=FD x++gG l:=by simp[gG]
  rw[this,af0,ih];simp only[FD,aqQ,aqS];omega
structure NS where
 at_:Int
 new:RV
 found:Bool
 blank:Bool
 deriving DecidableEq
def ya(s:NS)(i:Nat)(b:List UInt8):NS:=
 if(bC b).2=0/\(s.found=false\/s.new.gen<=(bC b).1.gen)then⟨i,(bC b).1,true,s.blank&&jT b⟩else{s with blank:=s.blank&&jT b}
def du(l:List (List UInt8)):Nat->NS
 |0=>⟨0,gY,false,true⟩
 |k+1=>ya (du l k) k (l.getD k [])
def fU(l:List (List UInt8)):Int×RV×Int:=
 if(du l l.length).found=true then((du l l.length).at_,(du l l.length).new,0)else if(du l l.length).blank=true then(0,gY,6)else(0,gY,2)
theorem Qz{l:List (List UInt8)}{i:Nat}{b:List UInt8}(hb:l[i]? =some b)(h:(bC b).2=0/\((du l i).found=false\/(du l i).new.gen<=(bC b).1.gen)):du l (i+1)=⟨i,(bC b).1,true,(du l i).blank&&jT b⟩:=by
 rw[du,show l.getD i []=b by simp[List.getD,hb],ya,if_pos h]
theorem QA{l:List (List UInt8)}{i:Nat}{b:List UInt8}(hb:l[i]? =some b)(h: ¬((bC b).2=0/\((du l i).found=false\/(du l i).new.gen<=(bC b).1.gen))):du l (i+1)={du l i with blank:=(du l i).blank&&jT b}:=by
 rw[du,show l.getD i []=b by simp[List.getD,hb],ya,if_neg h]
structure VV where
 ae:CV
 at_:List Int
 gen:Nat
 last:Int
 deriving DecidableEq
def zCV:CV:=⟨0,0,[],0,false,[]⟩
def lr:VV:=⟨zCV,[],0,0⟩
def vv(v:cl):VV:=⟨cv v.ae,v.at_.xs,v.gen.toNat,v.last⟩
def fV(c:CV):Bool:=aX c&&decide (4<=(c.blocks.length:Int))&&decide (2<=c.pages)&&decide (24<=c.size)
theorem fM{c:CV}:fV c=true↔aX c=true/\4<=(c.blocks.length:Int)/\2<=c.pages/\24<=c.size:=by simp only[fV,alM,decide_eq_true_eq,and_assoc]
def bK(c:CV)(k:Int):List UInt8:=(ak c (k/c.pages)).pages.getD (k%c.pages).toNat []
def kI(c:CV)(k:Int):Bool:=decide (2<=k/c.pages)&&decide (k/c.pages<(c.blocks.length:Int))&&decide (k%c.pages<(ak c (k/c.pages)).used)
theorem mu{c:CV}{k:Int}:kI c k=true↔2<=k/c.pages/\k/c.pages<(c.blocks.length:Int)/\k%c.pages<(ak c (k/c.pages)).used:=by simp only[kI,alM,decide_eq_true_eq,and_assoc]
def FF(p:PV×Int)(id:Int):Bool:=decide (p.2=0)&&decide (p.1.kind=1)&&decide (p.1.id=id)
def nN(c:CV)(id n:Int):Bool:=kI c (n -1)&&FF (cD (bK c (n -1))) id
theorem aaJ(c:CV):{Cn c c.aU with off:=c.off}=c:=by
 rw[Cn];split<;>rfl
def re(c:CV)(l:List Int)(i:Nat):Bool:=decide (l.getD i 0=0)||(!(l.take i).contains (l.getD i 0)&&nN c (i:Int) (l.getD i 0))
def uZ(c:CV)(l:List Int):Bool:=(List.range l.length).all (re c l)
theorem Cv{c:CV}{l:List Int}:uZ c l=true↔ ∀i,i<l.length->re c l i=true:=by simp only[uZ,aq8,arw]
def kj(l:List Int)(i:Nat):Int->Option Unit:=fun x=>if x≠0/\x∈l.take i then some ()else none
theorem Cx{l:List Int}{i:Nat}{x:Int}:(kj l i x).isSome=decide (x≠0/\x∈l.take i):=by
 unfold kj;split<;>simp_all
theorem QB{l:List Int}:(fun _=>none)=kj l 0:=by
 funext x;simp[kj]
theorem QC{l:List Int}{i:Nat}(h:l[i]? =some 0):kj l (i+1)=kj l i:=by
 funext x
 unfold kj;rw[aq0,h]
 by_cases hx:x=0
 ·
  simp[hx]
 simp[hx]
theorem QD{l:List Int}{i:Nat}{y:Int}(h:l[i]? =some y)(hy:y≠0):(fun z=>if z=y then some ()else kj l i z)=kj l (i+1):=by
 funext x
 unfold kj;rw[aq0,h]
 by_cases hx:x=y
 ·
  subst hx;simp[hy]
 simp[hx]
theorem pI{l:List Int}{i:Nat}{y:Int}(h:l[i]? =some y):l.getD i 0=y:=by simp[List.getD,h]
def fG(l:List (Sl (Sl UInt8))):List (Sl UInt8):=(l.map Sl.xs).flatten
theorem FG{l:List (Sl (Sl UInt8))}{i:Nat}{x:Sl (Sl UInt8)}(h:l[i]? =some x):fG (l.take (i+1))=fG (l.take i)++x.xs:=by
 rw[fG,aq0,h];simp[fG]
theorem aaK(l:List (Sl (Sl UInt8)))(i:Nat):(fG (l.take i)).length<=(fG l).length:=by
 have e:fG l=fG (l.take i)++fG (l.drop i):=by
  unfold fG;rw[←List.flatten_append,←art,arC]
 rw[e,af0];omega
class QE(w0:World)(l:List (Sl UInt8)):Prop where
 h: ∀y∈l,Deep.cF (hp w0) y
variable {w0:World}{L:List aj}
instance aT.row{x:Sv}{l:List (Sl UInt8)}{i:Nat}[q:fw L x (ca (τ:=UInt8)) 1 l i][m:QE w0 l]:aT w0 L (⟨x,l⟩:Sl (Sl UInt8)):=
 ⟨fun w hw=>⟨(hw.get q.h).1,fun y hy=>Deep.mono w0 w y (m.h y hy) hw.below⟩⟩
def bO(c:CV):Int×RV×Int:=fU ((ak c 0).pages++(ak c 1).pages)
def mv(c:CV):Bool:=decide ((bO c).1%c.pages<(ak c ((bO c).1/c.pages)).used)&&uZ c (bO c).2.1.at_
def bE(c:CV):VV×Int:=
 if fV c=false then(lr,1)
 else if c.off=true then(lr,7)
 else if(bO c).2.2≠0 then(lr,(bO c).2.2)
 else if mv c=false then(lr,2)
 else(⟨c,(bO c).2.1.at_,(bO c).2.1.gen,(bO c).1/c.pages⟩,0)
theorem QF(l:List (List UInt8)): ∀k,k<=l.length->(du l k).at_=0\/(0<=(du l k).at_/\(du l k).at_<k)
 |0,_=> .inl rfl
 |k+1,h=>by
  have:=QF l k (by omega);rw[du,ya];split
  ·
   exact .inr ⟨by simp only;omega,by simp only;omega⟩
  simp only;omega
theorem JO{l:List (List UInt8)}(h:0<l.length):0<=(fU l).1/\(fU l).1<l.length:=by
 have:=QF l l.length (aqY _);rw[fU];split
 ·
  simp only;omega
 split<;>(simp only;omega)
theorem aaL(b:List UInt8): ∀x∈pH b,0<=x/\x<=65535:=by
 intro x hx;obtain⟨i,_,rfl⟩:=ar0.1 hx;have:=(s9 (b.getD (2*i) 0) (b.getD (2*i+1) 0)).toNat_lt;simp only[rb];omega
theorem aaM(b:List UInt8): ∀x∈(bC b).1.at_,0<=x/\x<=65535:=by
 rw[bC];split
 ·
  simp[gY]
 split
 ·
  simp[gY]
 split
 ·
  simp[gY]
 exact aaL _
theorem QG(l:List (List UInt8)): ∀k,∀x∈(du l k).new.at_,0<=x/\x<=65535
 |0=>by simp[du,gY]
 |k+1=>by
  have:=QG l k;rw[du,ya];split
  ·
   exact aaM _
  exact this
theorem QH(l:List (List UInt8)): ∀x∈(fU l).2.1.at_,0<=x/\x<=65535:=by
 rw[fU];split
 ·
  exact QG _ _
 split<;>simp[gY]
theorem JP(a b:Sl (Sl UInt8)):aL (fG [a,b])=aL a.xs++aL b.xs:=by simp[aL,fG]
theorem JQ{c:Cp}{i:Nat}{B:Bk}(h:c.blocks.xs[i]? =some B):ak (cv c) (i:Int)=bv B:=by
 rw[←xX];simp[List.getD,h]
theorem aaN(b:List UInt8):(bC b).1.at_.length<=65536:=by
 have h:=JN b;rw[bC];split
 ·
  simp[gY]
 split
 ·
  simp[gY]
 split
 ·
  simp[gY]
 simp only[FE];omega
theorem QI(l:List (List UInt8)): ∀k,(du l k).new.at_.length<=65536
 |0=>by simp[du,gY]
 |k+1=>by
  have:=QI l k;rw[du,ya];split
  ·
   exact aaN _
  exact this
theorem aaO(l:List (List UInt8)):(fU l).2.1.at_.length<=65536:=by
 rw[fU];split
 ·
  exact QI _ _
 split<;>simp[gY]
theorem QJ(c:CV):(bE c).1.at_.length<=65536:=by
 have h:=aaO ((ak c 0).pages++(ak c 1).pages);rw[bE];split
 ·
  simp[lr]
 split
 ·
  simp[lr]
 split
 ·
  simp[lr]
 split
 ·
  simp[lr]
 exact h
theorem JR{c:CV}(h:(bE c).2=0):fV c=true:=by
 cases hb:fV c with
 |true=>rfl
 |false=>rw[bE,if_pos hb]at h;cases h
def lY(x:VV):Bool:=decide ((bE {x.ae with off:=false}).2=0)&&decide ((bE {x.ae with off:=false}).1.gen=x.gen)&&decide ((bE {x.ae with off:=false}).1.last=x.last)&&decide ((bE {x.ae with off:=false}).1.at_=x.at_)
theorem aaP{w0 w:World}{L:List aj}(h:Mem w0 L w):Mem w0 (fz gF::L) w:=
 Fp (d:=gF) (Mem.freeze (es:=[]) _ ⟨eJ.nil _ _ _,fun x hx=>by cases hx⟩ (fun k hk=>by
  rcases hk with⟨bM,_⟩|⟨x,hx,_⟩
  ·
   exact absurd rfl bM
  cases hx) (Qj (s:=Sv.none) Sv.BI rfl h))
class QK(a:Cp)(b:outParam Cp):Prop where
 h:a=b
instance aT.amL{v:cl}{c:Cp}[e:QK v.ae c][q1:aT w0 L c][q2:aT w0 L v.at_]:aT w0 L v:=
 ⟨fun w hw=>⟨by rw[e.h];exact q1.h w hw,q2.h w hw⟩⟩
def iV(c:CV)(n:Int):List UInt8:=if(cD (bK c (n -1))).2=0 then(cD (bK c (n -1))).1.body else[]
theorem JS{c:CV}(h:(bE c).2=0):fV c=true/\mv c=true/\bE c=(⟨c,(bO c).2.1.at_,(bO c).2.1.gen,(bO c).1/c.pages⟩,0):=by
 have hb:=JR h
 by_cases h1:c.off=true
 ·
  rw[bE,if_neg (by rw[hb];simp),if_pos h1]at h;cases h
 by_cases h2:(bO c).2.2≠0
 ·
  rw[bE,if_neg (by rw[hb];simp),if_neg h1,if_pos h2]at h;exact absurd h h2
 cases h3:mv c with
 |false=>rw[bE,if_neg (by rw[hb];simp),if_neg h1,if_neg h2,if_pos h3]at h;cases h
 |true=>exact⟨hb,rfl,by rw[bE,if_neg (by rw[hb];simp),if_neg h1,if_neg h2,if_neg (by rw[h3];simp)]⟩
theorem Cy{x:VV}(h:lY x=true):aX x.ae=true/\uZ x.ae x.at_=true/\ ∀y∈x.at_,0<=y/\y<=65535:=by
 simp only[lY,alM,decide_eq_true_eq]at h;obtain⟨⟨⟨h1,h2⟩,h3⟩,h4⟩:=h;obtain⟨hb,hl,hf⟩:=JS h1;rw[hf]at h4;simp only at h4;simp only[mv,alM,decide_eq_true_eq]at hl;rw[h4]at hl;refine⟨(fM.1 hb).1,hl.2,?_⟩;rw[←h4];exact QH _
theorem QL{x:VV}(h:lY x=true){i:Nat}{y:Int}(hy:x.at_[i]? =some y)(h0:y≠0):1<=y/\y<=1000000/\kI x.ae (y -1)=true:=by
 obtain⟨h1,h2,h3⟩:=Cy h;have hr:=h3 y (anc hy);have hp:=Cv.1 h2 i (ad2.1 hy).1;rw[re,pI hy]at hp;simp only[ar4,decide_eq_true_eq,alM]at hp;rcases hp with hp|hp
 ·
  exact absurd hp h0
 have hn:=hp.2;rw[nN,alM]at hn;exact⟨by omega,by omega,hn.1⟩
def mX(l:List Int)(j:Nat):Bool:=decide (l.getD j 0≠0)&& !(l.take j).contains (l.getD j 0)
def jU(pages:Int)(l:List Int)(k i:Nat):Nat:=((List.range k).filter fun j=>mX l j&&decide ((l.getD j 0 -1)/pages=(i:Int)+2)).length
def tu(b:BV)(live:Nat):az:=⟨live,b.used,b.aR,b.bad⟩
def jV(c:CV)(l:List Int)(k:Nat):List az:=(List.range (c.blocks.length -2)).map fun i:Nat=>tu (ak c ((i:Int)+2)) (jU c.pages l k i)
def iW(c:CV)(l:List Int):List az:=jV c l l.length
theorem Am(c:CV)(l:List Int)(k:Nat):(jV c l k).length=c.blocks.length -2:=by simp[jV]
theorem Cz(pages:Int)(l:List Int)(k i:Nat):jU pages l (k+1) i=jU pages l k i+(if mX l k&&decide ((l.getD k 0 -1)/pages=(i:Int)+2)then 1 else 0):=by
 rw[jU,ar1,ar9,af0,jU];congr 1;simp only[arG,ata];split<;>rfl
theorem aaQ{c:CV}{l:List Int}{k:Nat}(h:mX l k=false):jV c l (k+1)=jV c l k:=by
 refine arT fun i _=>?_;rw[Cz,h];simp
theorem aaR{l:List Int}{i:Nat}{y:Int}(h:l[i]? =some y)(hy:y≠0/\y∈l.take i):kj l (i+1)=kj l i:=by
 funext x
 unfold kj;rw[aq0,h]
 by_cases hx:x=y
 ·
  subst hx;simp[hy.1,hy.2]
 simp[hx]
theorem aaS{c:CV}{l:List Int}{k i:Nat}{x:az}(h:mX l k=true)(hi:(l.getD k 0 -1)/c.pages=(i:Int)+2)(hx:(jV c l k)[i]? =some x):jV c l (k+1)=(jV c l k).set i {x with live:=x.live+1}:=by
 have dD:i<c.blocks.length -2:=by have:=(ad2.1 hx).1;rwa [Am]at this
 have gz:x=tu (ak c ((i:Int)+2)) (jU c.pages l k i):=by
  rw[jV,aq1,asr dD]at hx;exact(aqP hx).symm
 refine arS fun j=>?_;rw[arD]
 by_cases hj:i=j
 ·
  subst hj;rw[if_pos rfl,if_pos (by rw[Am];exact dD),jV,aq1,asr dD,arE,Cz,h,hi,gz];simp[tu]
 rw[if_neg hj,jV,jV,aq1,aq1];rcases aqX j (c.blocks.length -2)with iO|iO
 ·
  rw[asr iO,arE,arE,Cz,h,hi];simp only[arH];rw[decide_eq_false (by omega)];simp
 rw[aqV (by simpa using iO)];rfl
def aw(l:List (Sl Int)):List Int:=(l.map Sl.xs).flatten
theorem QM{l:List (Sl Int)}{i:Nat}{x:Sl Int}(h:l[i]? =some x):aw (l.take (i+1))=aw (l.take i)++x.xs:=by
 rw[aw,aq0,h];simp[aw]
theorem aaT{l:List (Sl Int)}{i j:Nat}{x:Sl Int}{y:Int}(h:l[i]? =some x)(hy:x.xs[j]? =some y):(aw l)[(aw (l.take i)).length+j]? =some y:=by
 have hj:=(ad2.1 hy).1;have e:aw l=aw (l.take (i+1))++aw (l.drop (i+1)):=by
  unfold aw;rw[←List.flatten_append,←art,arC]
 rw[e,QM h,aq4 (by rw[af0];omega),aq3 (by omega),asi,hy]
def wA(c:CV)(l:List Int):Prop:=(aX c=true/\l.length<=1000000)/\2<=c.blocks.length/\ ∀n∈l,n=0\/(1<=n/\n<=1000000/\2<=(n -1)/c.pages/\(n -1)/c.pages<(c.blocks.length:Int))
theorem aaU(c:CV)(l:List Int):jV c l 0=(List.range (c.blocks.length -2)).map fun i:Nat=>tu (ak c ((i:Int)+2)) 0:=by
 refine arT fun i _=>?_;simp[jU]
theorem QN(pages:Int)(l:List Int)(k i:Nat):jU pages l k i<=k:=by
 rw[jU];exact atu (atk _ _) (by simp)
theorem aaV{c:CV}{l:List Int}{k i:Nat}{z:az}(h:(jV c l k)[i]? =some z):0<=z.live/\z.live<=k:=by
 rw[jV,aq1,asI]at h;obtain⟨j,_,rfl⟩:=h;have:=QN c.pages l k j;simp only[tu];omega
def yb(a b:Int):Int:=if a<b then -1 else if b<a then 1 else 0
def mw(p:Int)(x:az):Bool:= !x.bad&&decide (x.used<p)
def lZ(x:az):Bool:= !x.bad&&decide (x.live=0)&&decide (0<x.used)
def yc(p:Int)(x:az):Bool:=if x.bad=true then decide (0<x.live)else decide (x.used=p)&&decide (0<x.live)&&decide (x.live<p)
def An(a b:az):Int:=yb b.used a.used
def r9(a b:az):Int:=yb a.aR b.aR
def JT(a b:az):Int:=yb a.live b.live
def Ao(a b:az):Int:=if a.bad=b.bad then 0 else if a.bad=true then -1 else 1
def wB(p:Int)(x:az):Bool:=decide (0<=x.live)&&decide (x.live<=x.used)&&decide (x.used<=p)&&decide (0<=x.aR)&&decide (x.aR<=cN)
theorem rf{p:Int}{x:az}:wB p x=true↔0<=x.live/\x.live<=x.used/\x.used<=p/\0<=x.aR/\x.aR<=cN:=by
 simp only[wB,alM,decide_eq_true_eq,and_assoc]
def l5(l:List az)(p:Int):Bool:=decide (1<=(l.length:Int))&&decide ((l.length:Int)<=32)&&decide (1<=p)&&decide (p<=16)&&l.all (wB p)
theorem sa{l:List az}{p:Int}:l5 l p=true↔1<=(l.length:Int)/\(l.length:Int)<=32/\1<=p/\p<=16/\ ∀x∈l,wB p x=true:=by
 simp only[l5,alM,decide_eq_true_eq,and_assoc,aq8]
def tv(a b:az):List (az->az->Int)->Bool
 |[]=>false
 |o::r=>if o a b≠0 then decide (o a b<0)else tv a b r
def Ap(l:List az)(eu:az->Bool)(os:List (az->az->Int))(i:Nat)(s:Int×Bool):Int×Bool:=
 if eu (l.getD i dW)=true/\(s.2=false\/tv (l.getD i dW) (l.getD s.1.toNat dW) os=true)then((i:Int),true)else s
def ir(l:List az)(eu:az->Bool)(os:List (az->az->Int)):Nat->Int×Bool
 |0=>(0,false)
 |k+1=>Ap l eu os k (ir l eu os k)
def fo(l:List az)(p:Int)(eu:az->Bool)(os:List (az->az->Int)):Int×Bool:=
 if l5 l p=true then ir l eu os l.length else(0,false)
def fq(l:List az)(p:Int):Int×Bool:=fo l p (mw p) [An,r9]
def fA(l:List az)(p:Int):Int×Bool:=fo l p lZ [r9]
def u5(l:List az)(p:Int):Int×Bool:=fo l p (yc p) [Ao,JT,r9]
def nO(p:Int)(x:az):Int:=if lZ x=true then p else if mw p x=true then p -x.used else 0
def fH:List Int->Int
 |[]=>0
 |x::r=>x+fH r
def FH(l:List az)(p:Int):Int:=if l5 l p=true then fH (l.map (nO p))else 0
theorem QO(a b:List Int):fH (a++b)=fH a+fH b:=by
 induction a with
 |nil=>simp[fH]
 |cons x r ih=>simp only[asc,fH,ih];omega
theorem JU(l:List az)(eu:az->Bool)(os:List (az->az->Int)): ∀k,0<=(ir l eu os k).1/\(ir l eu os k).1<=k/\((ir l eu os k).2=true->(ir l eu os k).1<k/\eu (l.getD (ir l eu os k).1.toNat dW)=true)
 |0=>⟨by simp[ir],by simp[ir],fun h=>by simp[ir]at h⟩
 |k+1=>by
  obtain⟨h1,h2,h3⟩:=JU l eu os k;rw[ir,Ap];split
  ·
   rename_i h;exact⟨by simp only;omega,by simp only;omega,fun _=>⟨by simp only;omega,by simpa using h.1⟩⟩
  exact⟨h1,by omega,fun h=>⟨by have:=(h3 h).1;omega,(h3 h).2⟩⟩
theorem QP{l:List az}{eu:az->Bool}{os:List (az->az->Int)}: ∀{k},(ir l eu os k).2=false-> ∀i,i<k->eu (l.getD i dW)=false
 |0,_,i,hi=>by omega
 |k+1,h,i,hi=>by
  rw[ir,Ap]at h;split at h
  ·
   cases h
  rename_i hn
  by_cases e:i=k
  ·
   subst e
   cases hr:eu (l.getD i dW)with
   |false=>rfl
   |true=>exact absurd ⟨hr, .inl h⟩ hn
  exact QP h i (by omega)
theorem Aq{l:List az}{p:Int}{eu:az->Bool}{os:List (az->az->Int)}(h:(fo l p eu os).2=true):l5 l p=true/\0<=(fo l p eu os).1/\(fo l p eu os).1<l.length/\eu (l.getD (fo l p eu os).1.toNat dW)=true:=by
 unfold fo at h⊢;split at h
 ·
  rename_i hw;rw[if_pos hw];obtain⟨h1,h2,h3⟩:=JU l eu os l.length;exact⟨hw,h1,(h3 h).1,(h3 h).2⟩
 cases h
theorem tw{l:List az}{p:Int}{eu:az->Bool}{os:List (az->az->Int)}(hw:l5 l p=true)(h:(fo l p eu os).2=false): ∀x∈l,eu x=false:=fun x hx=>by
 unfold fo at h;rw[if_pos hw]at h;obtain⟨i,hi⟩:=arc hx;have dD:=(ad2.1 hi).1;have:=QP h i dD;rwa [show l.getD i dW=x by simp[List.getD,hi]]at this
theorem drop_at{α:Type}{l:List α}{i:Nat}{e:α}(he:l[i]? =some e):l.drop i=e::l.drop (i+1):=by
 obtain⟨hi,rfl⟩:=ad2.1 he;rw[List.getElem_cons_drop]
theorem aaW{p:Int}{x:az}(h:wB p x=true)(hp:1<=p):0<=nO p x/\nO p x<=p:=by
 obtain⟨h1,h2,h3,_⟩:=rf.1 h;rw[nO];split
 ·
  omega
 split<;>omega
theorem QQ(p:Int): ∀l:List az,(∀x∈l,wB p x=true)->1<=p->0<=fH (l.map (nO p))/\fH (l.map (nO p))<=(l.length:Int)*p
 |[],_,_=>by simp[fH]
 |x::r,h,hp=>by
  have h1:=QQ p r (fun y hy=>h y (aq2 _ hy)) hp;have h2:=aaW (h x aqU) hp;rw[arh,fH,aqQ,Int.natCast_add,Int.add_mul];omega
theorem room_le{n:Nat}{p:Int}(h:n<=32)(h1:1<=p)(h2:p<=16):(n:Int)*p<=512:=by
 have:(n:Int)*p<=32*16:=atU (by omega) h2 (by omega) (by omega);omega
structure dK(c d:CV):Prop where
 pages:d.pages=c.pages
 size:d.size=c.size
 len:d.blocks.length=c.blocks.length
theorem dK.c8(c:CV):dK c c:=⟨rfl,rfl,rfl⟩
theorem dK.trans{c d e:CV}(h:dK c d)(g:dK d e):dK c e:=⟨g.pages.trans h.pages,g.size.trans h.size,g.len.trans h.len⟩
theorem aaX(c:CV)(b g:Int)(p:List UInt8):dK c (gy c b g p):=by
 rw[gy];split
 ·
  exact⟨rfl,rfl,by simp[iq]⟩
 exact .c8 c
theorem aaY(c:CV)(b:Int):dK c (fT c b):=by
 rw[fT];split
 ·
  exact⟨rfl,rfl,by simp[kH]⟩
 exact .c8 c
theorem aaZ(c:CV)(b:Int):dK c (lT c b):=by
 rw[lT];split
 ·
  exact⟨rfl,rfl,by simp⟩
 exact .c8 c
theorem JV{c:CV}(h:aX c=true){o:Int}{f:Bool}(h0:0<=o)(h1:o<=cN){i:Nat}{B:BV}(hB:qn c.pages c.size B=true):aX {c with ops:=o,off:=f,blocks:=c.blocks.set i B}=true:=by
 obtain⟨k1,k2,k3,k4,k5⟩:=fy.1 h;refine fy.2 ⟨by simpa using k1,h0,h1,k4,fun b hb=>?_⟩;rcases arq hb with hb|rfl
 ·
  exact k5 b hb
 exact hB
theorem JW{c:CV}(h:aX c=true)(b g:Int)(p:List UInt8):aX (gy c b g p)=true:=by
 rw[gy];split
 ·
  rename_i hk;obtain⟨k1,k2,k3,k4⟩:=hk;obtain⟨j1,j2,j3,j4,j5⟩:=jA.1 k1;obtain⟨o1,o2,o3,o4,o5,o6⟩:=fc.1 (qo j1);have:=(fy.1 h).2.1;refine JV h (by omega) (by omega) (fc.2 ⟨by simpa using o1,by simp only;omega,by simp only;omega,o4,o5,fun x hx=>?_⟩);rcases arq hx with hx|rfl
  ·
   exact o6 x hx
  rw[oC];split
  ·
   simpa[cR]using j4
  exact j4
 exact h
theorem JX{c:CV}(h:aX c=true)(b:Int):aX (fT c b)=true:=by
 rw[fT];split
 ·
  rename_i hk;obtain⟨k1,k2,k3⟩:=hk;obtain⟨j1,j2,j3⟩:=pF.1 k1;obtain⟨o1,o2,o3,o4,o5,o6⟩:=fc.1 (qo j1);have:=(fy.1 h).2.1;have hs:=lR.1 (fy.1 h).1;have hl:(rZ c (ak c b).pages).length=(ak c b).pages.length:=by rw[rZ];split<;>simp
  refine JV h (by omega) (by omega) (fc.2 ⟨by rw[hl];exact o1,?_,?_,by simp only;omega,by simp only;omega,fun x hx=>?_⟩)
  ·
   simp only;split<;>omega
  ·
   simp only;split<;>omega
  rw[rZ]at hx;split at hx
  ·
   obtain⟨y,hy,rfl⟩:=ar0.1 hx;simpa[cR]using o6 y hy
  obtain⟨y,hy,rfl⟩:=ar0.1 hx;simp only[gX,arK];omega
 exact h
theorem QR{c:CV}(h:aX c=true)(b:Int):aX (lT c b)=true:=by
 rw[lT];split
 ·
  rename_i hk;have hh:gV c b=true:=by
   rw[pG]at hk;split at hk
   ·
    assumption
   cases hk
  obtain⟨o1,o2,o3,o4,o5,o6⟩:=fc.1 (qo hh);have k:=fy.1 h;exact JV (o:=c.ops) (f:=c.off) h k.2.1 k.2.2.1 (fc.2 ⟨o1,o2,o3,o4,o5,o6⟩)
 exact h
def dX(c:CV)(b:Int):Int:=if(ak c b).bad=true then 0 else c.pages -(ak c b).used
def iX(c:CV)(b e:Int):CV:=if e=9 then lT c b else c
def bx(c:CV)(b:Int)(p:List UInt8):Int:=kh c b (ak c b).used p
def bA(c:CV)(b:Int)(p:List UInt8):CV:=iX (gy c b (ak c b).used p) b (bx c b p)
def dk(c:CV)(b:Int):CV:=iX (fT c b) b (dV c b)
def iu(c:CV):List UInt8:=(dj ⟨1,0,0,[]⟩ c.size).1
def fB:Nat->CV->Int->CV×Int
 |0,c,b=>(dk c b,dV c b)
 |n+1,c,b=>if bx c b (iu c)≠0 then(bA c b (iu c),bx c b (iu c))else fB n (bA c b (iu c)) b
def cz(c:CV)(b:Int):CV×Int:=fB (dX c b).toNat c b
theorem QS{c:CV}(h:aX c=true)(b e:Int):aX (iX c b e)=true:=by
 rw[iX];split
 ·
  exact QR h b
 exact h
theorem FI(c:CV)(b e:Int):dK c (iX c b e):=by
 rw[iX];split
 ·
  exact aaZ c b
 exact .c8 c
theorem lu{c:CV}(h:aX c=true)(b:Int)(p:List UInt8):aX (bA c b p)=true:=QS (JW h _ _ _) _ _
theorem iv(c:CV)(b:Int)(p:List UInt8):dK c (bA c b p):=(aaX _ _ _ _).trans (FI _ _ _)
theorem CA{c:CV}(h:aX c=true)(b:Int):aX (dk c b)=true:=QS (JX h _) _ _
theorem wC(c:CV)(b:Int):dK c (dk c b):=(aaY _ _).trans (FI _ _ _)
theorem QT: ∀(n:Nat) {c:CV} (b:Int),aX c=true->aX (fB n c b).1=true/\dK c (fB n c b).1
 |0,c,b,h=>⟨CA h b,wC c b⟩
 |n+1,c,b,h=>by
  rw[fB];split
  ·
   exact⟨lu h _ _,iv _ _ _⟩
  have:=QT n b (lu h b (iu c));exact⟨this.1,(iv _ _ _).trans this.2⟩
theorem wD{c:CV}(b:Int)(h:aX c=true):aX (cz c b).1=true/\dK c (cz c b).1:=QT _ b h
theorem pJ{c:CV}{b:Int}{p:List UInt8}(h:bx c b p=0):nK c b (ak c b).used p=true/\c.off=false/\(ak c b).bad=false/\(bq c).2=false/\bA c b p=iq c b (ak c b).used p:=by
 have h0:=h;rw[bx,kh]at h
 by_cases h1:nK c b (ak c b).used p=true
 ·
  rw[if_pos h1]at h
  by_cases h2:c.off=true
  ·
   rw[if_pos h2]at h;cases h
  rw[if_neg h2]at h
  by_cases h3:(ak c b).bad=true\/(ak c b).used≠(ak c b).used
  ·
   rw[if_pos h3]at h;cases h
  rw[if_neg h3]at h;have zg:(ak c b).bad=false:=by
   cases hb:(ak c b).bad with
   |false=>rfl
   |true=>exact absurd (.inl hb) h3
  by_cases h4:(bq c).2=true
  ·
   rw[if_pos h4,lS]at h;split at h<;>cases h
  refine⟨h1,by simpa using h2,zg,by simpa using h4,?_⟩;rw[bA,iX,h0,if_neg (by decide),gy,if_pos ⟨h1,by simpa using h2,zg,rfl⟩]
 rw[if_neg h1]at h;cases h
theorem qt{c:CV}{b:Int}(h:gV c b=true){o:Int}{f:Bool}{B:BV}:ak {c with ops:=o,off:=f,blocks:=c.blocks.set b.toNat B} b=B:=by
 obtain⟨_,h2,h3⟩:=gW.1 h;simp only[ak,List.getD,aq7 (show b.toNat<c.blocks.length by omega),as3]
theorem QU{c:CV}{b:Int}{p:List UInt8}(h:bx c b p=0):dX (bA c b p) b=dX c b -1:=by
 obtain⟨h1,h2,h3,h4,h5⟩:=pJ h;have hh:=(jA.1 h1).1;rw[h5,dX,dX,iq,qt hh];simp only[h3];simp only[arv,if_false];omega
theorem aa0{c:CV}{b:Int}(h:0<dX c b):cz c b=if bx c b (iu c)≠0 then(bA c b (iu c),bx c b (iu c))else cz (bA c b (iu c)) b:=by
 obtain⟨n,hn⟩: ∃n,(dX c b).toNat=n+1:=⟨(dX c b).toNat -1,by omega⟩;rw[cz,hn,fB];split
 ·
  rfl
 rename_i h0;have qY:bx c b (iu c)=0:=by simpa using h0
 rw[cz,QU qY,show(dX c b -1).toNat=n by omega]
theorem aa1{c:CV}{b:Int}(h: ¬0<dX c b):cz c b=(dk c b,dV c b):=by
 rw[cz,show(dX c b).toNat=0 by omega];rfl
theorem CB(c:CV)(b e:Int):(iX c b e).ops=c.ops:=by
 rw[iX];split
 ·
  rw[lT];split<;>rfl
 rfl
theorem aa2(c:CV)(b g:Int)(p:List UInt8):c.ops<=(gy c b g p).ops:=by
 rw[gy];split
 ·
  simp only[iq];omega
 omega
theorem aa3(c:CV)(b:Int):c.ops<=(fT c b).ops:=by
 rw[fT];split
 ·
  simp only[kH];omega
 omega
theorem tA{c:CV}{b:Int}{p:List UInt8}(hb:(ak c b).bad=false)(he:bx c b p=9\/bx c b p=0):(bA c b p).ops=c.ops+1:=by
 rw[bA,CB,gy];rw[bx,kh]at he
 by_cases h1:nK c b (ak c b).used p=true
 ·
  rw[if_pos h1]at he
  by_cases h2:c.off=true
  ·
   rw[if_pos h2]at he;omega
  rw[if_pos ⟨h1,by simpa using h2,hb,rfl⟩];rfl
 rw[if_neg h1]at he;omega
theorem aa4{c:CV}{b:Int}(hb:(ak c b).bad=false)(he:dV c b=9\/dV c b=0):(dk c b).ops=c.ops+1:=by
 rw[dk,CB,fT];rw[dV]at he
 by_cases h1:oD c b=true
 ·
  rw[if_pos h1]at he
  by_cases h2:c.off=true
  ·
   rw[if_pos h2]at he;omega
  rw[if_pos ⟨h1,by simpa using h2,hb⟩];rfl
 rw[if_neg h1]at he;omega
theorem aa5{c:CV}{b:Int}{p:List UInt8}(h:bx c b p=0):(ak (bA c b p) b).bad=false:=by
 obtain⟨h1,h2,h3,h4,h5⟩:=pJ h;rw[h5,iq,qt (jA.1 h1).1];exact h3
theorem yd(c:CV)(b:Int)(p:List UInt8):c.ops<=(bA c b p).ops:=by rw[bA,CB];exact aa2 _ _ _ _
theorem QV(c:CV)(b:Int):c.ops<=(dk c b).ops:=by rw[dk,CB];exact aa3 _ _
theorem Ar: ∀(n:Nat) (c:CV) (b:Int),c.ops<=(fB n c b).1.ops
 |0,c,b=>QV c b
 |n+1,c,b=>by
  rw[fB];split
  ·
   exact yd _ _ _
  have:=Ar n (bA c b (iu c)) b;have:=yd c b (iu c);omega
theorem QW: ∀(n:Nat) {c:CV} {b:Int},(ak c b).bad=false->(fB n c b).2=9\/(fB n c b).2=0->c.ops<(fB n c b).1.ops
 |0,c,b,hb,he=>by have:=aa4 hb he;simp only[fB];omega
 |n+1,c,b,hb,he=>by
  rw[fB]at he⊢
  by_cases h0:bx c b (iu c)≠0
  ·
   rw[if_pos h0]at he⊢;have:=tA hb (p:=iu c) (he.imp id fun h=>h);simp only;omega
  rw[if_neg h0]at he⊢;have qY:bx c b (iu c)=0:=by simpa using h0
  have:=QW n (aa5 qY) he;have:=yd c b (iu c);omega
theorem FJ{c:CV}{b:Int}(hb:(ak c b).bad=false)(he:(cz c b).2=9\/(cz c b).2=0):c.ops<(cz c b).1.ops:=QW _ hb he
def aZ:az:=⟨0,0,0,true⟩
def oL(x:az):az:=if x.bad=true then aZ else x
def av(c:CV)(fl:List Int):List az:=(iW c fl).map oL
def hY(R:az->Bool)(x:az):az:=if x.bad=true\/R x=false then aZ else x
def bQ(R:az->Bool)(l:List az):List az:=l.map (hY R)
theorem ly(c:CV)(fl:List Int):(av c fl).length=c.blocks.length -2:=by rw[av,arA,iW,Am]
theorem wE(R:az->Bool)(l:List az):(bQ R l).length=l.length:=by simp[bQ]
structure WV where
 v:VV
 beyond:Bool
 deriving DecidableEq
def WV.on(x:WV)(c:CV):WV:={x with v:={x.v with ae:=c}}
theorem tB{c:Cp}{b:Int}{B:Bk}(h:c.blocks.xs[b.toNat]? =some B):ak (cv c) b=bv B:=by
 rw[←xX];simp[List.getD,h]
def mY(c:CV):Nat:=(c.blocks.filter fun b=>b.bad).length
def kJ(p:List UInt8):Nat:=if(bC p).2=0 then(bC p).1.gen else 0
def tC(l:List (List UInt8)):Nat:=l.foldl (fun m p=>max m (kJ p)) 0
def lz(c:CV)(b:Int):Nat:=tC (ak c b).pages
theorem aa6{l:List (List UInt8)}{i:Nat}{p:List UInt8}(h:l[i]? =some p):tC (l.take (i+1))=max (tC (l.take i)) (kJ p):=by
 rw[tC,aq0,h];simp[tC]
theorem QX(b:List UInt8):(cD b).1.gen<281474976710656:=by
 have:=JK b;rw[cD];split
 ·
  simp[jS]
 split
 ·
  simp[jS]
 split
 ·
  simp[jS]
 split
 ·
  simp[jS]
 split
 ·
  simp[jS]
 exact this
theorem QY(p:List UInt8):kJ p<281474976710656:=by
 rw[kJ];split
 ·
  rw[bC];split
  ·
   simp[gY]
  split
  ·
   simp[gY]
  split
  ·
   simp[gY]
  exact QX p
 omega
theorem JY(l:List (List UInt8)):tC l<281474976710656:=by
 have: ∀(l:List (List UInt8)) (m:Nat),m<281474976710656->l.foldl (fun m p=>max m (kJ p)) m<281474976710656:=by
  intro l
  induction l with
  |nil=>intro m h;exact h
  |cons p r ih=>
   intro m h;have:=QY p;exact ih _ (Nat.max_lt.2 ⟨h,this⟩)
 exact this l 0 (by omega)
def CC(c:CV)(b:Int):Bool:= !(ak c b).bad&&(decide (0<(ak c b).used)||(decide (b<2)&&decide (0<lz c b)))
def gA(c:CV)(b:Int):Nat:=max 1 (lz c (1 -b)+(1 -b).toNat)
def u6(c:CV)(last:Int):Int:=if(ak c (1 -last)).bad=true then dX c last else if(ak c last).bad=true/\0<dX c (1 -last)then dX c (1 -last)else c.pages
def As(g:Nat):Bool:=decide (281474976710656<=g+2)
def jW(e:Int):Int:=if e=9 then 0 else e
theorem QZ{f:az->az}{l:List az}{i:Nat}{x:az}(h:l[i]? =some x):((l.take i).map f++l.drop i).set i (f x)=(l.take (i+1)).map f++l.drop (i+1):=by
 have hi:=(ad2.1 h).1;have hl:((l.take i).map f).length=i:=by rw[arA,aqT];omega
 rw[asL _ _ (by omega),hl,asy,drop_at h,asf,aq0,h];simp
theorem Q0{f:az->az}{l:List az}{i:Nat}{x:az}(h:l[i]? =some x)(hf:f x=x):(l.take i).map f++l.drop i=(l.take (i+1)).map f++l.drop (i+1):=by
 rw[drop_at h,aq0,h];simp[hf]
theorem Q1{f:az->az}{l:List az}{i:Nat}{x:az}(h:l[i]? =some x):((l.take i).map f++l.drop i)[i]? =some x:=by
 have hi:=(ad2.1 h).1;have hl:((l.take i).map f).length=i:=by rw[arA,aqT];omega
 rw[aq3 (by omega),hl,asy,asa,arP,h]
theorem aa7{l:List BV}{i:Nat}{x:BV}(h:l[i]? =some x):((l.take (i+1)).filter fun b=>b.bad).length=((l.take i).filter fun b=>b.bad).length+(if x.bad=true then 1 else 0):=by
 rw[aq0,h,ar9,af0];congr 1;simp only[atN,arG,ata];split<;>simp_all
def iw(c:CV)(l:List Int):Prop:= ∀n∈l,n=0\/(1<=n/\2<=(n -1)/c.pages/\(n -1)/c.pages<(c.blocks.length:Int))
theorem iw.bR{c d:CV}{l:List Int}(h:iw c l)(g:dK c d):iw d l:=fun n hn=>by
  rcases h n hn with h|h
  ·exact .inl h
  ·exact .inr (by rw[g.pages,g.len];exact h)
theorem iw.append{c:CV}{a b:List Int}(h:iw c a)(g:iw c b):iw c (a++b):=fun n hn=>(aqZ.1 hn).elim (h n) (g n)
theorem eQ{c:CV}(h:aX c=true):1<=(c.blocks.length:Int)/\(c.blocks.length:Int)<=32/\1<=c.pages/\c.pages<=16/\1<=c.size/\c.size<=256:=lR.1 (fy.1 h).1
theorem JZ{n p b:Int}(hp:1<=p)(gZ:p<=16)(hb:b<=32)(h:(n -1)/p<b):n<=512:=by
  have h1:n -1=p*((n -1)/p)+(n -1)%p:=(Int.mul_ediv_add_emod (n -1) p).symm;have h2:=as5 (n -1) (show 0<p by omega);have h3:(n -1)/p<=31:=by omega
  have h4:p*((n -1)/p)<=p*31:=Int.mul_le_mul_of_nonneg_left h3 (by omega);omega
theorem iw.kn{c:CV}{l:List Int}(h:iw c l)(hk:aX c=true)(h2:2<=c.blocks.length)(hl:l.length<=1000000):wA c l:=
  ⟨⟨hk,hl⟩,h2,fun n hn=>by
    rcases h n hn with h|h
    ·exact .inl h
    ·have hd:=eQ hk
     have:=JZ (n:=n) hd.2.2.1 hd.2.2.2.1 hd.2.1 h.2.2;exact .inr ⟨h.1,by omega,h.2.1,h.2.2⟩⟩
theorem J0{c:CV}{fl:List Int}{i:Nat}(hi:i<c.blocks.length -2):(av c fl)[i]? =some (oL (tu (ak c ((i:Int)+2)) (jU c.pages fl fl.length i))):=by
  rw[av,iW,jV,aq1,aq1,asr hi];rfl
theorem FK{c:CV}{fl:List Int}{i:Nat}{x:az}(h:(av c fl)[i]? =some x):x.bad=(ak c ((i:Int)+2)).bad:=by
  have hi:=(ad2.1 h).1;rw[ly]at hi;rw[J0 hi]at h;obtain rfl:=aqP h;rw[oL];split
  ·rename_i hb;exact hb.symm
  ·rfl
theorem sd{c:CV}(hk:aX c=true){b:Int}(h0:0<=b)(h1:b<c.blocks.length):qn c.pages c.size (ak c b)=true:=qo (gW.2 ⟨hk,h0,h1⟩)
structure Au(c:CV)(n:Nat)(x:az):Prop where
  Q2:0<=x.live
  aa8:x.live<=n
  CD:0<=x.used
  Av:x.used<=c.pages
  Q3:0<=x.aR
  Q4:x.aR<=cN
theorem tD{c:CV}{fl:List Int}(hk:aX c=true){x:az}(h:x∈av c fl):Au c fl.length x:=by
  obtain⟨i,hi⟩:=arc h;have dD:=(ad2.1 hi).1;rw[ly]at dD;rw[J0 dD]at hi;obtain rfl:=aqP hi;have hd:=eQ hk;have qu:cN=1099511627776:=rfl;rw[oL];split
  ·exact⟨by simp[aZ],by simp[aZ],by simp[aZ],by simp only[aZ];omega,by simp[aZ],by simp only[aZ];omega⟩
  ·have ho:=fc.1 (sd hk (b:=(i:Int)+2) (by omega) (by omega))
   have:=QN c.pages fl fl.length i;exact⟨by simp only[tu];omega,by simp only[tu];omega,ho.2.1,ho.2.2.1,ho.2.2.2.1,ho.2.2.2.2.1⟩
theorem Au.bad(c:CV)(hk:aX c=true)(n:Nat):Au c n aZ:=by
  have hd:=eQ hk;have qu:cN=1099511627776:=rfl;exact⟨by simp[aZ],by simp[aZ],by simp[aZ],by simp only[aZ];omega,by simp[aZ],by simp only[aZ];omega⟩
theorem J1{R:az->Bool}{l:List az}{i:Nat}{x:az}(h:(bQ R l)[i]? =some x): ∃y,l[i]? =some y/\x=hY R y:=by
  rw[bQ,aq1,asI]at h;obtain⟨y,hy,rfl⟩:=h;exact⟨y,hy,rfl⟩
theorem aa9{R:az->Bool}{y:az}(h:(hY R y).bad=false):hY R y=y/\y.bad=false/\R y=true:=by
  unfold hY at h⊢;split at h
  ·cases h
  ·rename_i hn
   rw[if_neg hn];refine⟨rfl,h,?_⟩
   cases hR:R y with
   |true=>rfl
   |false=>exact absurd (.inr hR) hn
theorem se{p:Int}{x:az}(h:mw p x=true):x.bad=false/\x.used<p:=by
  simpa[mw]using h
theorem lA{x:az}(h:lZ x=true):x.bad=false/\x.live=0/\0<x.used:=by
  simpa[lZ,and_assoc]using h
theorem oN{R:az→Bool}{l:List az}{p:Int}{eu:az→Bool}{os:List (az→az→Int)}(hr: ∀x,eu x=true→x.bad=false)(h:(fo (bQ R l) p eu os).2=true):
    ∃x,l[(fo (bQ R l) p eu os).1.toNat]? =some x/\x.bad=false/\R x=true/\eu x=true/\0<=(fo (bQ R l) p eu os).1/\(fo (bQ R l) p eu os).1<l.length:=by
  obtain⟨h1,h2,h3,h4⟩:=Aq h;rw[wE]at h3;have hi:(bQ R l)[(fo (bQ R l) p eu os).1.toNat]? =some ((bQ R l).getD (fo (bQ R l) p eu os).1.toNat dW):=pt (by rw[wE];omega);obtain⟨y,hy,he⟩:=J1 hi;rw[he]at h4;obtain⟨k1,k2,k3⟩:=aa9 (hr _ h4);rw[k1]at h4;exact⟨y,hy,k2,k3,h4,h2,h3⟩
def rh(x:az):Bool:=decide (0<x.live)
def gh(x:az):Bool:=decide (x.live=0)
def dL(l:List az):Nat:=(l.filter fun x=> !x.bad&&decide (x.live=0)).length
def l6(c:CV)(fl:List Int):Int×Bool:=fq (bQ rh (av c fl)) c.pages
def jX(c:CV)(fl:List Int):Int×Bool:=fq (bQ gh (av c fl)) c.pages
def jj(c:CV)(fl:List Int):Int:=(fA (bQ gh (av c fl)) c.pages).1
def bf(c:CV)(fl:List Int)(aF:Bool):CV×Int×Int:=
  if(l6 c fl).2=true then(c,(l6 c fl).1+2,0)
  else if dL (av c fl)=0\/(dL (av c fl)=1/\aF=false)then(c,0,5)
  else if(jX c fl).2=true then(c,(jX c fl).1+2,0)
  else((cz c (jj c fl+2)).1,jj c fl+2,(cz c (jj c fl+2)).2)
theorem aba{l:List az}{i:Nat}{x:az}(h:l[i]? =some x):((l.take (i+1)).filter fun z=> !z.bad&&decide (z.live=0)).length=((l.take i).filter fun z=> !z.bad&&decide (z.live=0)).length+(if x.bad=false/\x.live=0 then 1 else 0):=by
  rw[aq0,h,ar9,af0];congr 1;simp only[atN,arG,ata];split<;>simp_all
theorem abb(l:List az):(l.filter fun z=> !z.bad&&decide (z.live=0)).length<=l.length:=atk _ _
theorem Q5{c:CV}{fl:List Int}(hk:aX c=true)(h2:3<=c.blocks.length)(hi:dL (av c fl)≠0)(hb: ¬(jX c fl).2=true):0<=jj c fl/\jj c fl<(c.blocks.length:Int) -2/\(ak c (jj c fl+2)).bad=false:=by
  have hd:=eQ hk;have dP:=ly c fl;have hw:l5 (bQ gh (av c fl)) c.pages=true:=sa.2 ⟨by rw[wE];omega,by rw[wE];omega,by omega,by omega,fun x hx=>by
    obtain⟨i,hi⟩:=arc hx;obtain⟨y,hy,rfl⟩:=J1 hi;have t:=tD hk (anc hy);have qu:cN=1099511627776:=rfl;unfold hY;split
    ·exact rf.2 (by simp only[aZ];omega)
    ·rename_i hn
     have hl:y.live=0:=by
        cases hR:gh y with
        |true=>simpa[gh]using hR
        |false=>exact absurd (.inr hR) hn
     exact rf.2 ⟨by omega,by have:=t.CD;omega,t.Av,t.Q3,t.Q4⟩⟩
  have ri:(jX c fl).2=false:=by simpa using hb
  have J2:=tw hw (show(fo _ _ _ _).2=false from ri);have Aw:0<((av c fl).filter fun x=> !x.bad&&decide (x.live=0)).length:=by rw[dL]at hi;omega
  obtain⟨x,hx⟩:=List.exists_mem_of_length_pos Aw;obtain⟨oO,gz⟩:=ari.1 hx;simp only[alM,arX,decide_eq_true_eq]at gz;have wF:hY gh x=x:=by
    unfold hY;rw[if_neg];rintro(g|g)
    ·rw[gz.1]at g;cases g
    ·rw[show gh x=true by simp[gh,gz.2]]at g;cases g
  have CE:x∈bQ gh (av c fl):=by
    rw[←wF];exact ard oO
  have CF:=J2 x CE;have t:=tD hk oO;have my:lZ x=true:=by
    have: ¬x.used<c.pages:=fun h=>by
      rw[mw,gz.1,decide_eq_true h]at CF;cases CF
    simp only[lZ,gz.1,asR,arH,alM,decide_eq_true_eq];omega
  have hf:(fA (bQ gh (av c fl)) c.pages).2=true:=by
    cases hq:(fA (bQ gh (av c fl)) c.pages).2 with
    |true=>rfl
    |false=>have:=tw hw hq x CE;rw[my]at this;cases this
  obtain⟨y,hy,k1,_,_,k4,k5⟩:=oN (fun x h=>(lA h).1) hf;have nP:=FK hy;change 0<=jj c fl at k4;change jj c fl<_ at k5;refine⟨k4,by omega,?_⟩;rw[←k1,nP];congr 2;change _=((jj c fl).toNat:Int)+2;omega
theorem Q6{c:CV}{fl:List Int}(h:(l6 c fl).2=true):0<=(l6 c fl).1/\(l6 c fl).1<((c.blocks.length -2:Nat):Int)/\(ak c ((l6 c fl).1+2)).bad=false:=by
  obtain⟨y,hy,k1,_,_,k4,k5⟩:=oN (fun x h=>(se h).1) h;have nP:=FK hy;rw[ly]at k5;refine⟨k4,k5,?_⟩;rw[←k1,nP];congr 2;change _=((l6 c fl).1.toNat:Int)+2;change 0<=(l6 c fl).1 at k4;omega
theorem Q7{c:CV}{fl:List Int}(h:(jX c fl).2=true):0<=(jX c fl).1/\(jX c fl).1<((c.blocks.length -2:Nat):Int)/\(ak c ((jX c fl).1+2)).bad=false:=by
  obtain⟨y,hy,k1,_,_,k4,k5⟩:=oN (fun x h=>(se h).1) h;have nP:=FK hy;rw[ly]at k5;refine⟨k4,k5,?_⟩;rw[←k1,nP];congr 2;change _=((jX c fl).1.toNat:Int)+2;change 0<=(jX c fl).1 at k4;omega
theorem CG{c:CV}{b:Int}(h:dV c b=0):oD c b=true/\c.off=false/\(ak c b).bad=false/\(bq c).2=false/\dk c b=kH c b:=by
  have h0:=h;rw[dV]at h
  by_cases h1:oD c b=true
  ·rw[if_pos h1]at h
   by_cases h2:c.off=true
   ·rw[if_pos h2]at h;cases h
   ·rw[if_neg h2]at h
    by_cases h3:(ak c b).bad=true
    ·rw[if_pos h3]at h;cases h
    ·rw[if_neg h3]at h
     by_cases h4:(bq c).2=true
     ·rw[if_pos h4,lS]at h
      split at h<;>cases h
     ·refine⟨h1,by simpa using h2,by simpa using h3,by simpa using h4,?_⟩
      rw[dk,iX,h0,if_neg (by decide),fT,if_pos ⟨h1,by simpa using h2,by simpa using h3⟩]
  ·rw[if_neg h1]at h;cases h
theorem Q8{c:CV}{b:Int}(h:dV c b=0):(ak (dk c b) b).bad=false:=by
  obtain⟨h1,h2,h3,h4,h5⟩:=CG h;rw[h5,kH,qt (pF.1 h1).1];exact h3
theorem FL: ∀(n:Nat) {c:CV} {b:Int},(fB n c b).2=0->(ak (fB n c b).1 b).bad=false
  |0,c,b,h=>Q8 h
  |n+1,c,b,h=>by
   rw[fB]at h⊢
   by_cases h0:bx c b (iu c)≠0
   ·rw[if_pos h0]at h;exact absurd h h0
   ·rw[if_neg h0]at h⊢;exact FL n h
theorem J3{c:CV}{fl:List Int}{aF:Bool}(hk:aX c=true)(h2:3≤c.blocks.length):aX (bf c fl aF).1=true∧dK c (bf c fl aF).1∧c.ops≤(bf c fl aF).1.ops∧
    ((bf c fl aF).2.2=0->2<=(bf c fl aF).2.1/\(bf c fl aF).2.1<c.blocks.length/\(ak (bf c fl aF).1 (bf c fl aF).2.1).bad=false)/\((bf c fl aF).2.2=9->c.ops<(bf c fl aF).1.ops):=by
  rw[bf]
  by_cases h1:(l6 c fl).2=true
  ·rw[if_pos h1]
   have:=Q6 h1;exact⟨hk, .c8 c,arU _,fun _=>⟨by simp only;omega,by simp only;omega,this.2.2⟩,fun h=>absurd (show(0:Int)=9 from h) (by decide)⟩
  ·rw[if_neg h1]
   by_cases h3:dL (av c fl)=0\/(dL (av c fl)=1/\aF=false)
   ·rw[if_pos h3]
    exact⟨hk, .c8 c,arU _,fun h=>absurd (show(5:Int)=0 from h) (by decide),fun h=>absurd (show(5:Int)=9 from h) (by decide)⟩
   ·rw[if_neg h3]
    by_cases h4:(jX c fl).2=true
    ·rw[if_pos h4]
     have:=Q7 h4;exact⟨hk, .c8 c,arU _,fun _=>⟨by simp only;omega,by simp only;omega,this.2.2⟩,fun h=>absurd (show(0:Int)=9 from h) (by decide)⟩
    ·rw[if_neg h4]
     obtain⟨d1,d2,d3⟩:=Q5 hk h2 (fun e=>h3 (.inl e)) h4;have hc:=wD (jj c fl+2) hk;exact⟨hc.1,hc.2,Ar _ _ _,fun h=>⟨by simp only;omega,by simp only;omega,FL _ h⟩,fun h=>FJ d3 (.inl h)⟩
def iL:Nat->CV->List Int->Bool->List UInt8->CV×Int×Int
  |0,c,_,_,_=>(c,0,0)
  |n+1,c,fl,aF,b=>
   if(bf c fl aF).2.2=0 then
      (if bx (bf c fl aF).1 (bf c fl aF).2.1 b=0 then(bA (bf c fl aF).1 (bf c fl aF).2.1 b,(bf c fl aF).2.1*c.pages+(ak (bf c fl aF).1 (bf c fl aF).2.1).used+1,0)
       else if bx (bf c fl aF).1 (bf c fl aF).2.1 b≠9 then(bA (bf c fl aF).1 (bf c fl aF).2.1 b,0,bx (bf c fl aF).1 (bf c fl aF).2.1 b)
       else iL n (bA (bf c fl aF).1 (bf c fl aF).2.1 b) fl aF b)
   else if(bf c fl aF).2.2≠9 then((bf c fl aF).1,0,(bf c fl aF).2.2)
   else iL n (bf c fl aF).1 fl aF b
def cY(c:CV)(fl:List Int)(aF:Bool)(p:PV):CV×Int×Int:=
  if(dj p c.size).2≠0 then(c,0,(dj p c.size).2)else iL ((cN -c.ops).toNat+1) c fl aF (dj p c.size).1
theorem sf{c:CV}(h:aX c=true):c.ops<=cN:=(fy.1 h).2.2.1
theorem J4: ∀(n:Nat) {c:CV} {fl:List Int} {aF:Bool} {b:List UInt8},aX c=true→3≤c.blocks.length→(cN -c.ops).toNat<n→
    aX (iL n c fl aF b).1=true/\dK c (iL n c fl aF b).1/\c.ops<=(iL n c fl aF b).1.ops/\((iL n c fl aF b).2.2=0->1<=(iL n c fl aF b).2.1/\2<=((iL n c fl aF b).2.1 -1)/c.pages/\((iL n c fl aF b).2.1 -1)/c.pages<c.blocks.length)
  |0,c,fl,aF,b,_,_,hn=>by omega
  |n+1,c,fl,aF,b,hk,h2,hn=>by
   obtain⟨f1,f2,f3,f4,f5⟩:=J3 (fl:=fl) (aF:=aF) hk h2;have hd:=eQ hk;rw[iL]
   by_cases h0:(bf c fl aF).2.2=0
   ·rw[if_pos h0]
    obtain⟨g1,g2,g3⟩:=f4 h0
    by_cases h1:bx (bf c fl aF).1 (bf c fl aF).2.1 b=0
    ·rw[if_pos h1]
     have hl:=f2.trans (iv (bf c fl aF).1 (bf c fl aF).2.1 b);have hp:=jA.1 (pJ h1).1;rw[f2.pages]at hp;have hu:0<=(ak (bf c fl aF).1 (bf c fl aF).2.1).used:=hp.2.1;have J5:=hp.2.2.1
     have hq:((bf c fl aF).2.1*c.pages+(ak (bf c fl aF).1 (bf c fl aF).2.1).used+1 -1)/c.pages=(bf c fl aF).2.1:=by
          rw[asn,asM,ar8 _ _ (by omega),arR hu J5,asQ]
     refine⟨lu f1 _ _,hl,?_,fun _=>⟨?_,by simp only;rw[hq];exact g1,by simp only;rw[hq];exact g2⟩⟩
     ·have:=yd (bf c fl aF).1 (bf c fl aF).2.1 b;simp only;omega
     ·have:0<=(bf c fl aF).2.1*c.pages:=asC (by omega) (by omega)
      simp only;omega
    ·rw[if_neg h1]
     by_cases h9:bx (bf c fl aF).1 (bf c fl aF).2.1 b≠9
     ·rw[if_pos h9]
      exact⟨lu f1 _ _,f2.trans (iv _ _ _),by have:=yd (bf c fl aF).1 (bf c fl aF).2.1 b;simp only;omega,fun h=>absurd h h1⟩
     ·rw[if_neg h9]
      have ho:=tA g3 (p:=b) (.inl (by simpa using h9));have bF:=lu f1 (bf c fl aF).2.1 b;have hl:=f2.trans (iv (bf c fl aF).1 (bf c fl aF).2.1 b);have hle:=sf bF;have:=J4 n (fl:=fl) (aF:=aF) (b:=b) bF (by rw[hl.len];exact h2) (by omega);refine⟨this.1,hl.trans this.2.1,by omega,fun h=>?_⟩;have g:=this.2.2.2 h;rw[hl.pages,hl.len]at g;exact g
   ·rw[if_neg h0]
    by_cases h9:(bf c fl aF).2.2≠9
    ·rw[if_pos h9]
     exact⟨f1,f2,f3,fun h=>absurd h h0⟩
    ·rw[if_neg h9]
     have ho:=f5 (by simpa using h9);have hle:=sf f1;have:=J4 n (fl:=fl) (aF:=aF) (b:=b) f1 (by rw[f2.len];exact h2) (by omega);refine⟨this.1,f2.trans this.2.1,by omega,fun h=>?_⟩;have g:=this.2.2.2 h;rw[f2.pages,f2.len]at g;exact g
theorem Q9{c:CV}{fl:List Int}{aF:Bool}{p:PV}(hk:aX c=true)(h2:3≤c.blocks.length):
    aX (cY c fl aF p).1=true/\dK c (cY c fl aF p).1/\c.ops<=(cY c fl aF p).1.ops/\((cY c fl aF p).2.2=0->1<=(cY c fl aF p).2.1/\2<=((cY c fl aF p).2.1 -1)/c.pages/\((cY c fl aF p).2.1 -1)/c.pages<c.blocks.length):=by
  rw[cY];split
  ·rename_i h;exact⟨hk, .c8 c,arU _,fun h'=>absurd h' h⟩
  ·exact J4 _ hk h2 (by omega)
def kK(p:Int)(x:az):Int:=if x.live=0/\p -x.used=0 then p else p -x.used
def sg(p:Int)(s:Int×Int)(x:az):Int×Int:=if x.bad=true then s else(s.1+kK p x,if x.live=0 then max s.2 (kK p x)else s.2)
def fI(p:Int)(l:List az):Int×Int:=l.foldl (sg p) (0,0)
def kL(c:CV)(fl:List Int):Int×Int:=((fI c.pages (av c fl)).1 -(fI c.pages (av c fl)).2,(fI c.pages (av c fl)).1)
theorem Ra{p:Int}{l:List az}{i:Nat}{x:az}(h:l[i]? =some x):fI p (l.take (i+1))=sg p (fI p (l.take i)) x:=by
  rw[fI,aq0,h];simp[fI]
theorem FM{c:CV}{n:Nat}{x:az}(h:Au c n x)(hk:aX c=true):0<=kK c.pages x/\kK c.pages x<=c.pages:=by
  have hd:=eQ hk;have:=h.CD;have:=h.Av;rw[kK];split<;>omega
theorem Rb{c:CV}{n:Nat}(hk:aX c=true)(l:List az)(h: ∀x∈l,Au c n x): ∀i,i<=l.length->0<=(fI c.pages (l.take i)).1/\(fI c.pages (l.take i)).1<=16*(i:Int)/\0<=(fI c.pages (l.take i)).2/\(fI c.pages (l.take i)).2<=16
  |0,_=>by simp[fI]
  |i+1,hi=>by
   obtain⟨x,hx⟩:=get_some (xs:=l) (i:=i) (by omega);have ih:=Rb hk l h i (by omega);have hr:=FM (h x (anc hx)) hk;have hd:=eQ hk;rw[Ra hx,sg];split
   ·omega
   ·refine⟨by simp only;omega,by simp only;omega,?_,?_⟩
    ·simp only;split<;>omega
    ·simp only;split<;>omega
structure cP(x:WV):Prop where
 ae:aX x.v.ae=true
 len:4<=(x.v.ae.blocks.length:Int)
 pages:2<=x.v.ae.pages
 size:24<=x.v.ae.size
 last:x.v.last=0\/x.v.last=1
 gen:x.v.gen<281474976710656
 u7:iw x.v.ae x.v.at_
 jY:x.v.at_.length<=64
theorem cP.on{x:WV}(h:cP x){c:CV}(hk:aX c=true)(hl:dK x.v.ae c):cP (x.on c):=
 ⟨hk,by simp only[WV.on];rw[hl.len];exact h.len,by simp only[WV.on];rw[hl.pages];exact h.pages,by simp only[WV.on];rw[hl.size];exact h.size,h.last,h.gen,h.u7.bR hl,h.jY⟩
theorem cP.sh{x:WV}(h:cP x):4<=x.v.ae.blocks.length:=by have:=h.len;omega
theorem Rc(x:WV):x.on x.v.ae=x:=rfl
theorem Rd(x:WV)(c d:CV):(x.on c).on d=x.on d:=rfl
def aV(c:CV)(last:Int):CV×Int×Int:=
 if 0<dX c last then(c,last,0)
 else if 0<dX c (1 -last)then(c,1 -last,0)
 else if(ak c (1 -last)).bad=true then(c,0,9)
 else(dk c (1 -last),1 -last,dV c (1 -last))
theorem FN{c:CV}{b:Int}(h:0<dX c b):(ak c b).bad=false:=by
 rw[dX]at h;split at h
 ·
  omega
 rename_i hn;simpa using hn
theorem FO{c:CV}{last:Int}(hk:aX c=true)(hl:last=0\/last=1):aX (aV c last).1=true/\dK c (aV c last).1/\c.ops<=(aV c last).1.ops/\
  ((aV c last).2.2=0->((aV c last).2.1=0\/(aV c last).2.1=1)/\(ak (aV c last).1 (aV c last).2.1).bad=false):=by
 rw[aV]
 by_cases h1:0<dX c last
 ·
  rw[if_pos h1];exact⟨hk, .c8 c,arU _,fun _=>⟨hl,FN h1⟩⟩
 ·
  rw[if_neg h1]
  by_cases h2:0<dX c (1 -last)
  ·
   rw[if_pos h2];exact⟨hk, .c8 c,arU _,fun _=>⟨by simp only;omega,FN h2⟩⟩
  ·
   rw[if_neg h2]
   by_cases h3:(ak c (1 -last)).bad=true
   ·
    rw[if_pos h3];exact⟨hk, .c8 c,arU _,fun h=>absurd (show(9:Int)=0 from h) (by decide)⟩
   ·
    rw[if_neg h3];exact⟨CA hk _,wC _ _,QV _ _,fun h=>⟨by simp only;omega,Q8 h⟩⟩
def gH:Nat->WV->List Int->List UInt8->WV×Int
 |0,x,_,_=>(x,0)
 |n+1,x,a,b=>
  if(aV x.v.ae x.v.last).2.2≠0 then(x.on (aV x.v.ae x.v.last).1,(aV x.v.ae x.v.last).2.2)
  else if bx (aV x.v.ae x.v.last).1 (aV x.v.ae x.v.last).2.1 b=0 then
   (⟨⟨bA (aV x.v.ae x.v.last).1 (aV x.v.ae x.v.last).2.1 b,a,x.v.gen+1,if lz (bA (aV x.v.ae x.v.last).1 (aV x.v.ae x.v.last).2.1 b) 1=x.v.gen+1 then 1 else(aV x.v.ae x.v.last).2.1⟩,x.beyond⟩,0)
  else if bx (aV x.v.ae x.v.last).1 (aV x.v.ae x.v.last).2.1 b≠9 then
   (x.on (bA (aV x.v.ae x.v.last).1 (aV x.v.ae x.v.last).2.1 b),bx (aV x.v.ae x.v.last).1 (aV x.v.ae x.v.last).2.1 b)
  else gH n (x.on (bA (aV x.v.ae x.v.last).1 (aV x.v.ae x.v.last).2.1 b)) a b
def dY(x:WV)(a:List Int):WV×Int:=
 if(cS ⟨x.v.gen+1,a⟩ x.v.ae.size).2≠0 then(x,(cS ⟨x.v.gen+1,a⟩ x.v.ae.size).2)
 else gH ((cN -x.v.ae.ops).toNat+1) x a (cS ⟨x.v.gen+1,a⟩ x.v.ae.size).1
structure jk(x y:WV):Prop where
 ok:cP y
 bR:dK x.v.ae y.v.ae
 ops:x.v.ae.ops<=y.v.ae.ops
 ye:y.v.at_.length=x.v.at_.length
theorem jk.c8{x:WV}(h:cP x):jk x x:=⟨h, .c8 _,arU _,rfl⟩
theorem jk.trans{x y z:WV}(h:jk x y)(g:jk y z):jk x z:=⟨g.ok,h.bR.trans g.bR,Int.le_trans h.ops g.ops,g.ye.trans h.ye⟩
theorem jk.on{x:WV}(h:cP x){c:CV}(hk:aX c=true)(hl:dK x.v.ae c)(ho:x.v.ae.ops<=c.ops):jk x (x.on c):=⟨h.on hk hl,hl,ho,rfl⟩
theorem abc{r:RV}{n:Int}(h:(cS r n).2=0):r.gen<281474976710656/\(r.at_.length:Int)<=ki n:=by
 rw[cS]at h;split at h
 ·
  rename_i hm;have:=wz.1 hm;exact⟨this.2.1,this.2.2.1⟩
 cases h
theorem abd(n:Int):ki n<=64:=by rw[ki];omega
theorem Re: ∀(n:Nat) {x:WV} {a:List Int} {b:List UInt8},cP x->iw x.v.ae a->a.length=x.v.at_.length->x.v.gen+1<281474976710656->(cN -x.v.ae.ops).toNat<n->jk x (gH n x a b).1/\((gH n x a b).2=0->x.v.ae.ops<(gH n x a b).1.v.ae.ops)
 |0,x,a,b,_,_,_,_,hn=>by omega
 |n+1,x,a,b,hx,ha,dS,hg,hn=>by
  obtain⟨r1,r2,r3,r4⟩:=FO (c:=x.v.ae) (last:=x.v.last) hx.ae hx.last;rw[gH]
  by_cases h0:(aV x.v.ae x.v.last).2.2≠0
  ·
   rw[if_pos h0];exact⟨.on hx r1 r2 r3,fun h=>absurd h h0⟩
  rw[if_neg h0];obtain⟨r5,r6⟩:=r4 (by simpa using h0);have fN:=lu r1 (aV x.v.ae x.v.last).2.1 b;have bS:=r2.trans (iv (aV x.v.ae x.v.last).1 (aV x.v.ae x.v.last).2.1 b);have mz:=yd (aV x.v.ae x.v.last).1 (aV x.v.ae x.v.last).2.1 b
  by_cases h1:bx (aV x.v.ae x.v.last).1 (aV x.v.ae x.v.last).2.1 b=0
  ·
   rw[if_pos h1];have ho:=tA r6 (p:=b) (.inr h1);have fJ:=hx.on fN bS;refine⟨⟨⟨fN,fJ.len,fJ.pages,fJ.size,?_,hg,ha.bR bS,by simp only;rw[dS];exact hx.jY⟩,bS,by simp only;omega,dS⟩,fun _=>by simp only;omega⟩;simp only;split
   ·
    exact .inr rfl
   exact r5
  rw[if_neg h1]
  by_cases h9:bx (aV x.v.ae x.v.last).1 (aV x.v.ae x.v.last).2.1 b≠9
  ·
   rw[if_pos h9];exact⟨.on hx fN bS (by omega),fun h=>absurd h h1⟩
  rw[if_neg h9];have ho:=tA r6 (p:=b) (.inl (by simpa using h9));have hle:=sf fN;have fJ:=hx.on fN bS;have:=Re n (x:=x.on (bA (aV x.v.ae x.v.last).1 (aV x.v.ae x.v.last).2.1 b)) (a:=a) (b:=b) fJ (ha.bR bS) dS hg (by simp only[WV.on];omega);exact⟨(jk.on hx fN bS (by omega)).trans this.1,fun h=>by
   have h2:(bA (aV x.v.ae x.v.last).1 (aV x.v.ae x.v.last).2.1 b).ops<_:=this.2 h;omega⟩
theorem J6{x:WV}{a:List Int}(hx:cP x)(ha:iw x.v.ae a)(dS:a.length=x.v.at_.length):jk x (dY x a).1/\((dY x a).2=0->x.v.ae.ops<(dY x a).1.v.ae.ops):=by
 rw[dY];split
 ·
  rename_i h;exact⟨.c8 hx,fun h'=>absurd h' h⟩
 rename_i h;have:=abc (r:=⟨x.v.gen+1,a⟩) (n:=x.v.ae.size) (by simpa using h);exact Re _ hx ha dS this.1 (by omega)
def mZ:Nat->Int->CV->CV×Int
 |0,_,c=>(c,0)
 |n+1,b,c=>if CC c b=false then mZ n (b+1) c
  else if dV c b≠0/\dV c b≠9 then(dk c b,dV c b)else mZ n (b+1) (dk c b)
def oP(c:CV)(b:Int)(ids:Nat):List UInt8×Int:=cS ⟨gA c b,List.replicate ids 0⟩ c.size
def FP(c:CV)(b:Int)(ids:Nat)(g:Nat):VV:=⟨c,List.replicate ids 0,g,b⟩
def wG:Nat->Int->WV->Nat->WV×Int
 |0,_,x,_=>(x,9)
 |n+1,b,x,ids=>
  if(oP x.v.ae b ids).2≠0\/dX x.v.ae b=0 then wG n (b+1) x ids
  else if bx x.v.ae b (oP x.v.ae b ids).1=0 then(⟨FP (bA x.v.ae b (oP x.v.ae b ids).1) b ids (gA x.v.ae b),x.beyond⟩,0)
  else if bx x.v.ae b (oP x.v.ae b ids).1≠9 then(x.on (bA x.v.ae b (oP x.v.ae b ids).1),bx x.v.ae b (oP x.v.ae b ids).1)
  else wG n (b+1) (x.on (bA x.v.ae b (oP x.v.ae b ids).1)) ids
def rj(x:WV)(ids:Nat):WV×Int:=
 if(mZ x.v.ae.blocks.length 0 x.v.ae).2≠0 then(x.on (mZ x.v.ae.blocks.length 0 x.v.ae).1,(mZ x.v.ae.blocks.length 0 x.v.ae).2)
 else wG 2 0 (x.on (mZ x.v.ae.blocks.length 0 x.v.ae).1) ids
def wH(s:Int×Int)(i:Nat)(x:az):Int×Int:=
 if x.bad=true\/x.live=0\/cN<=x.aR then s else if s.2<x.used -x.live then((i:Int),x.used -x.live)else s
def gk(l:List az):Nat->Int×Int
 |0=>(0,0)
 |k+1=>wH (gk l k) k (l.getD k dW)
def iz(l:List az)(p:Int):Int×Bool:=if(u5 l p).2=true then((u5 l p).1,true)else((gk l l.length).1,decide (0<(gk l l.length).2))
theorem J7(l:List az): ∀k,0<=(gk l k).1/\0<=(gk l k).2/\(0<(gk l k).2->(gk l k).1<k)
 |0=>by simp[gk]
 |k+1=>by
  have:=J7 l k;rw[gk,wH];split
  ·
   exact⟨this.1,this.2.1,fun h=>by have:=this.2.2 h;omega⟩
  split
  ·
   exact⟨by simp only;omega,by simp only;omega,fun _=>by simp only;omega⟩
  exact⟨this.1,this.2.1,fun h=>by have:=this.2.2 h;omega⟩
theorem J8{l:List az}{p:Int}(h:(iz l p).2=true):0<=(iz l p).1/\(iz l p).1<l.length:=by
 rw[iz]at h⊢;split
 ·
  rename_i hv;have:=Aq hv;exact⟨this.2.1,this.2.2.1⟩
 rename_i hv;rw[if_neg hv]at h;have:=J7 l l.length;exact⟨this.1,this.2.2 (by simpa using h)⟩
def rk(x:az):Bool:=decide (x.used=0)
def si(p:Int)(x:az):Bool:=decide (x.used=p)
def sj(x:az):Bool:=decide (x.aR<cN)
def l8(c:CV)(l:List az):Int×Bool:=fq (bQ rk l) c.pages
def jC(c:CV)(l:List az):Int×Bool:=fA (bQ (si c.pages) l) c.pages
def jD(c:CV)(l:List az):Int×Bool:=fA (bQ sj l) c.pages
def bU(c:CV)(l:List az):CV×Int×Int:=
 if(l8 c l).2=true then(c,(l8 c l).1+2,0)
 else if(jC c l).2=true then((cz c ((jC c l).1+2)).1,(jC c l).1+2,(cz c ((jC c l).1+2)).2)
 else if(jD c l).2=true then((cz c ((jD c l).1+2)).1,(jD c l).1+2,(cz c ((jD c l).1+2)).2)
 else(c,0,6)
def kM(c:CV)(l:List az):Prop:=l.length=c.blocks.length -2/\ ∀(i:Nat) (x:az),l[i]? =some x->x.bad=false->(ak c ((i:Int)+2)).bad=false
theorem yf(c:CV)(fl:List Int):kM c (av c fl):=⟨ly c fl,fun i x hx hb=>by rw[←FK hx];exact hb⟩
theorem kM.set{c:CV}{l:List az}(h:kM c l)(i:Nat):kM c (l.set i aZ):=⟨by rw[aru];exact h.1,fun j x hx hb=>by
 rw[arD]at hx;split at hx
 ·
  split at hx
  ·
   obtain rfl:=aqP hx;cases hb
  cases hx
 exact h.2 j x hx hb⟩
theorem wI{c:CV}{R:az->Bool}{l:List az}{eu:az->Bool}{os:List (az->az->Int)}(ht:kM c l)(hr: ∀x,eu x=true->x.bad=false)(h:(fo (bQ R l) c.pages eu os).2=true):
  0<=(fo (bQ R l) c.pages eu os).1/\(fo (bQ R l) c.pages eu os).1<((c.blocks.length -2:Nat):Int)/\(ak c ((fo (bQ R l) c.pages eu os).1+2)).bad=false:=by
 obtain⟨x,hx,k1,_,_,k4,k5⟩:=oN hr h;rw[ht.1]at k5;refine⟨k4,k5,?_⟩;have:=ht.2 _ x hx k1;rwa [show(((fo (bQ R l) c.pages eu os).1.toNat:Nat):Int)=(fo (bQ R l) c.pages eu os).1 by omega]at this
theorem J9{c:CV}{l:List az}(hk:aX c=true)(ht:kM c l):aX (bU c l).1=true/\dK c (bU c l).1/\c.ops<=(bU c l).1.ops/\
  ((bU c l).2.2=0->2<=(bU c l).2.1/\(bU c l).2.1<c.blocks.length/\(ak (bU c l).1 (bU c l).2.1).bad=false)/\((bU c l).2.2=9->c.ops<(bU c l).1.ops)/\((bU c l).2.2=6->(bU c l).1=c):=by
 rw[bU];have e6: ∀{b:Int},(cz c b).2≠6:=fun{b}=>by
  have: ∀n {c:CV},(fB n c b).2≠6:=by
   intro n
   induction n with
   |zero=>
    intro c;simp only[fB,dV];split
    ·
     split
     ·
      decide
     ·
      split
      ·
       decide
      ·
       split
       ·
        rw[lS];split<;>decide
       ·
        decide
    ·
     decide
   |succ n ih=>
    intro c;rw[fB];split
    ·
     simp only[bx,kh];split
     ·
      split
      ·
       decide
      ·
       split
       ·
        decide
       ·
        split
        ·
         rw[lS];split<;>decide
        ·
         decide
     ·
      decide
    ·
     exact ih
  exact this _
 by_cases h1:(l8 c l).2=true
 ·
  rw[if_pos h1];have:=wI ht (fun x h=>(se h).1) h1;change 0<=(l8 c l).1/\(l8 c l).1<_/\(ak c ((l8 c l).1+2)).bad=false at this;exact⟨hk, .c8 c,arU _,fun _=>⟨by simp only;omega,by simp only;omega,this.2.2⟩,fun h=>absurd (show(0:Int)=9 from h) (by decide),fun h=>absurd (show(0:Int)=6 from h) (by decide)⟩
 ·
  rw[if_neg h1]
  by_cases h2:(jC c l).2=true
  ·
   rw[if_pos h2];have:=wI ht (fun x h=>(lA h).1) h2;change 0<=(jC c l).1/\(jC c l).1<_/\(ak c ((jC c l).1+2)).bad=false at this;have hc:=wD ((jC c l).1+2) hk;exact⟨hc.1,hc.2,Ar _ _ _,fun h=>⟨by simp only;omega,by simp only;omega,FL _ h⟩,fun h=>FJ this.2.2 (.inl h),fun h=>absurd h e6⟩
  ·
   rw[if_neg h2]
   by_cases h3:(jD c l).2=true
   ·
    rw[if_pos h3];have:=wI ht (fun x h=>(lA h).1) h3;change 0<=(jD c l).1/\(jD c l).1<_/\(ak c ((jD c l).1+2)).bad=false at this;have hc:=wD ((jD c l).1+2) hk;exact⟨hc.1,hc.2,Ar _ _ _,fun h=>⟨by simp only;omega,by simp only;omega,FL _ h⟩,fun h=>FJ this.2.2 (.inl h),fun h=>absurd h e6⟩
   ·
    rw[if_neg h3];exact⟨hk, .c8 c,arU _,fun h=>absurd (show(6:Int)=0 from h) (by decide),fun h=>absurd (show(6:Int)=9 from h) (by decide),fun _=>rfl⟩
def cm(c:CV)(a0 a:List Int)(src tgt:Int):Int×Bool:=
 if tgt<0 then(if(fq ((av c (a0++a)).set (src -2).toNat aZ) c.pages).2=true then((fq ((av c (a0++a)).set (src -2).toNat aZ) c.pages).1+2,true)else(0,false))else(tgt,true)
def dZ(c:CV)(g id n:Int):List UInt8×Int:=dj ⟨1,id,g.toNat,iV c n⟩ c.size
structure MV where
 c:CV
 a:List Int
 e:Option Int
def bX(v:VV)(src tgt:Int):List Int->Nat->CV->List Int->MV
 |[],_,c,a=>⟨c,a,none⟩
 |n::r,id,c,a=>
  if n=0\/(n -1)/v.ae.pages≠src then bX v src tgt r (id+1) c a
  else if(cm c v.at_ a src tgt).2=false then⟨c,a,some 6⟩
  else if(dZ c ((v.gen:Int)+1) id n).2≠0 then⟨c,a,some (dZ c ((v.gen:Int)+1) id n).2⟩
  else if bx c (cm c v.at_ a src tgt).1 (dZ c ((v.gen:Int)+1) id n).1≠0 then
   ⟨bA c (cm c v.at_ a src tgt).1 (dZ c ((v.gen:Int)+1) id n).1,a,some (jW (bx c (cm c v.at_ a src tgt).1 (dZ c ((v.gen:Int)+1) id n).1))⟩
  else bX v src tgt r (id+1) (bA c (cm c v.at_ a src tgt).1 (dZ c ((v.gen:Int)+1) id n).1) (a.set id ((cm c v.at_ a src tgt).1*v.ae.pages+(ak c (cm c v.at_ a src tgt).1).used+1))
def cZ(x:WV)(src tgt:Int):WV×Bool×Int:=
 match(bX x.v src tgt x.v.at_ 0 x.v.ae x.v.at_).e with
 |some e=>(x.on (bX x.v src tgt x.v.at_ 0 x.v.ae x.v.at_).c,false,e)
 |none=>((dY (x.on (bX x.v src tgt x.v.at_ 0 x.v.ae x.v.at_).c) (bX x.v src tgt x.v.at_ 0 x.v.ae x.v.at_).a).1,decide ((dY (x.on (bX x.v src tgt x.v.at_ 0 x.v.ae x.v.at_).c) (bX x.v src tgt x.v.at_ 0 x.v.ae x.v.at_).a).2=0),(dY (x.on (bX x.v src tgt x.v.at_ 0 x.v.ae x.v.at_).c) (bX x.v src tgt x.v.at_ 0 x.v.ae x.v.at_).a).2)
theorem Ka{x:WV}{src tgt:Int}{c:CV}{a:List Int}{e:Int}(h:bX x.v src tgt x.v.at_ 0 x.v.ae x.v.at_=⟨c,a,some e⟩):cZ x src tgt=(x.on c,false,e):=by
 rw[cZ,h]
theorem abe{x:WV}{src tgt:Int}{c:CV}{a:List Int}(h:bX x.v src tgt x.v.at_ 0 x.v.ae x.v.at_=⟨c,a,none⟩):cZ x src tgt=((dY (x.on c) a).1,decide ((dY (x.on c) a).2=0),(dY (x.on c) a).2):=by
 rw[cZ,h]
theorem Rf{c:CV}{a0 a:List Int}{src tgt:Int}(h:(cm c a0 a src tgt).2=true)(ht:0<=tgt->2<=tgt/\tgt<c.blocks.length/\(ak c tgt).bad=false):
  2<=(cm c a0 a src tgt).1/\(cm c a0 a src tgt).1<c.blocks.length/\(ak c (cm c a0 a src tgt).1).bad=false:=by
 rw[cm]at h⊢
 by_cases h1:tgt<0
 ·
  rw[if_pos h1]at h⊢
  by_cases h2:(fq ((av c (a0++a)).set (src -2).toNat aZ) c.pages).2=true
  ·
   rw[if_pos h2];have hT:=(yf c (a0++a)).set (src -2).toNat;obtain⟨k1,k2,k3,k4⟩:=Aq h2;change 0<=(fq ((av c (a0++a)).set (src -2).toNat aZ) c.pages).1 at k2;change(fq ((av c (a0++a)).set (src -2).toNat aZ) c.pages).1<_ at k3;change mw _ (List.getD _ (fq ((av c (a0++a)).set (src -2).toNat aZ) c.pages).1.toNat _)=true at k4;rw[hT.1]at k3;have hi:((av c (a0++a)).set (src -2).toNat aZ)[(fq ((av c (a0++a)).set (src -2).toNat aZ) c.pages).1.toNat]? =some _:=pt (d:=dW) (by rw[hT.1];omega);have:=hT.2 _ _ hi (se k4).1;rw[show(((fq ((av c (a0++a)).set (src -2).toNat aZ) c.pages).1.toNat:Nat):Int)=(fq ((av c (a0++a)).set (src -2).toNat aZ) c.pages).1 by omega]at this;exact⟨by simp only;omega,by simp only;omega,this⟩
  ·
   rw[if_neg h2]at h;cases h
 ·
  rw[if_neg h1];exact ht (by omega)
theorem CH(c:CV)(b g:Int)(p:List UInt8):kh c b g p=0\/kh c b g p=1\/kh c b g p=7\/kh c b g p=9:=by
 rw[kh];split
 ·
  split
  ·
   omega
  split
  ·
   omega
  split
  ·
   rw[lS];split<;>omega
  omega
 omega
theorem Ax(p:PV)(n:Int):(dj p n).2=0\/(dj p n).2=1:=by
 rw[dj];split<;>simp
theorem Kc{c:CV}{b:Int}{p:List UInt8}(h:bx c b p=0)(b':Int):(ak (bA c b p) b').bad=(ak c b').bad:=by
 obtain⟨h1,h2,h3,h4,h5⟩:=pJ h;have hh:=(jA.1 h1).1;obtain⟨_,g2,g3⟩:=gW.1 hh;rw[h5,iq];simp only[ak,List.getD,arD]
 by_cases e:b.toNat=b'.toNat
 ·
  rw[if_pos e,if_pos (by omega),e];simp
 rw[if_neg e]
theorem Ke{v:VV}{src tgt:Int}: ∀(l:List Int) (id:Nat) {c:CV} {a:List Int},aX c=true->dK v.ae c->v.ae.ops<=c.ops->iw v.ae a->(0<=tgt->2<=tgt/\tgt<c.blocks.length/\(ak c tgt).bad=false)->
  aX (bX v src tgt l id c a).c=true/\dK v.ae (bX v src tgt l id c a).c/\c.ops<=(bX v src tgt l id c a).c.ops/\iw v.ae (bX v src tgt l id c a).a/\(bX v src tgt l id c a).a.length=a.length/\
   ((bX v src tgt l id c a).e=some 0->c.ops<(bX v src tgt l id c a).c.ops)/\((bX v src tgt l id c a).e=some 6-> ∀b,(ak (bX v src tgt l id c a).c b).bad=(ak c b).bad)
 |[],id,c,a,hk,hl,ho,ha,ht=>⟨hk,hl,arU _,ha,rfl,fun h=>by simp[bX]at h,fun h=>by simp[bX]at h⟩
 |n::r,id,c,a,hk,hl,ho,ha,ht=>by
  rw[bX]
  by_cases h1:n=0\/(n -1)/v.ae.pages≠src
  ·
   rw[if_pos h1];exact Ke r (id+1) hk hl ho ha ht
  ·
   rw[if_neg h1]
   by_cases h2:(cm c v.at_ a src tgt).2=false
   ·
    rw[if_pos h2];exact⟨hk,hl,arU _,ha,rfl,fun h=>by simp at h,fun _ _=>rfl⟩
   ·
    rw[if_neg h2];obtain⟨m1,m2,m3⟩:=Rf (by simpa using h2) ht
    by_cases h3:(dZ c ((v.gen:Int)+1) id n).2≠0
    ·
     rw[if_pos h3];have Ay:(dZ c ((v.gen:Int)+1) id n).2=1:=(Ax _ _).resolve_left h3;exact⟨hk,hl,arU _,ha,rfl,fun h=>absurd (aqP h) h3,fun h=>absurd (Ay.symm.trans (aqP h)) (by decide)⟩
    ·
     rw[if_neg h3]
     by_cases h4:bx c (cm c v.at_ a src tgt).1 (dZ c ((v.gen:Int)+1) id n).1≠0
     ·
      rw[if_pos h4];have hQ:bx c (cm c v.at_ a src tgt).1 (dZ c ((v.gen:Int)+1) id n).1=1\/bx c (cm c v.at_ a src tgt).1 (dZ c ((v.gen:Int)+1) id n).1=7\/bx c (cm c v.at_ a src tgt).1 (dZ c ((v.gen:Int)+1) id n).1=9:=(CH _ _ _ _).resolve_left h4;refine⟨lu hk _ _,hl.trans (iv _ _ _),yd _ _ _,ha,rfl,fun h=>?_,fun h=>?_⟩
      ·
       have h:=aqP h;rw[jW]at h;split at h
       ·
        rename_i h9;have:=tA m3 (.inl h9);simp only;omega
       ·
        exact absurd h h4
      ·
       have h:=aqP h;rw[jW]at h;split at h
       ·
        cases h
       ·
        omega
     ·
      rw[if_neg h4];have wJ:bx c (cm c v.at_ a src tgt).1 (dZ c ((v.gen:Int)+1) id n).1=0:=by simpa using h4
      have fN:=jA.1 (pJ wJ).1;have hd:=eQ hk;have oE:=hl.trans (iv c (cm c v.at_ a src tgt).1 (dZ c ((v.gen:Int)+1) id n).1);have cx:=tA m3 (p:=(dZ c ((v.gen:Int)+1) id n).1) (.inr wJ);have FQ:v.ae.pages=c.pages:=hl.pages.symm;have ih:=Ke r (id+1) (src:=src) (tgt:=tgt) (lu hk (cm c v.at_ a src tgt).1 (dZ c ((v.gen:Int)+1) id n).1) oE (by omega) (a:=a.set id ((cm c v.at_ a src tgt).1*v.ae.pages+(ak c (cm c v.at_ a src tgt).1).used+1)) (fun y hy=>by
       rcases arq hy with hy|rfl
       ·
        exact ha y hy
       ·
        have hq:((cm c v.at_ a src tgt).1*v.ae.pages+(ak c (cm c v.at_ a src tgt).1).used+1 -1)/v.ae.pages=(cm c v.at_ a src tgt).1:=by
         rw[FQ,asn,asM,ar8 _ _ (by omega),arR fN.2.1 fN.2.2.1,asQ]
        have h0:0<=(cm c v.at_ a src tgt).1*v.ae.pages:=asC (by omega) (by omega);have:=fN.2.1;exact .inr ⟨by omega,by rw[hq];exact m1,by rw[hq,←hl.len];exact m2⟩) (fun h=>by
       have:=ht h;rw[(iv c _ _).len,Kc wJ];exact this)
      obtain⟨i1,i2,i3,i4,i5,i6,i7⟩:=ih;refine⟨i1,i2,by omega,i4,by rw[i5,aru],fun h=>by have:=i6 h;omega,fun h b=>?_⟩;rw[i7 h b,Kc wJ]
theorem Kf(c:CV)(b:Int):dV c b=0\/dV c b=1\/dV c b=7\/dV c b=9:=by
 rw[dV];split
 ·
  split
  ·
   omega
  split
  ·
   omega
  split
  ·
   rw[lS];split<;>omega
  omega
 omega
theorem abf(c:CV)(l:Int):(aV c l).2.2=0\/(aV c l).2.2=1\/(aV c l).2.2=7\/(aV c l).2.2=9:=by
 rw[aV];split
 ·
  exact .inl rfl
 split
 ·
  exact .inl rfl
 split
 ·
  exact .inr (.inr (.inr rfl))
 exact Kf _ _
theorem Rh: ∀(n:Nat) (y:WV) (a:List Int) (b:List UInt8),(gH n y a b).2≠6
 |0,y,a,b=>by simp[gH]
 |n+1,y,a,b=>by
  rw[gH];split
  ·
   have:=abf y.v.ae y.v.last;simp only;omega
  split
  ·
   simp
  split
  ·
   have:=CH (aV y.v.ae y.v.last).1 (aV y.v.ae y.v.last).2.1 (ak (aV y.v.ae y.v.last).1 (aV y.v.ae y.v.last).2.1).used b;simp only[bx];omega
  exact Rh n _ _ _
theorem Kg(y:WV)(a:List Int):(dY y a).2≠6:=by
 rw[dY];split
 ·
  rw[cS];split
  ·
   have:=Ax ⟨2,max 0 ((a.length:Int) -1),y.v.gen+1,gG a⟩ y.v.ae.size;simp only;omega
  simp
 exact Rh _ _ _ _
theorem FR{x:WV}{src tgt:Int}(hx:cP x)(ht:0<=tgt->2<=tgt/\tgt<x.v.ae.blocks.length/\(ak x.v.ae tgt).bad=false):
  jk x (cZ x src tgt).1/\((cZ x src tgt).2.2=0->x.v.ae.ops<(cZ x src tgt).1.v.ae.ops)/\((cZ x src tgt).2.1=true->(cZ x src tgt).2.2=0)/\((cZ x src tgt).2.1=false/\(cZ x src tgt).2.2=6-> ∀b,(ak (cZ x src tgt).1.v.ae b).bad=(ak x.v.ae b).bad):=by
 obtain⟨h1,h2,h3,h4,h5,h6,h7⟩:=Ke x.v.at_ 0 (src:=src) hx.ae (.c8 _) (arU _) hx.u7 ht;rw[cZ];split
 ·
  rename_i e he;refine⟨.on hx h1 h2 h3,fun h=>h6 (by rw[he];exact congrArg some h),fun h=>absurd (show false=true from h) (by simp),fun h b=>h7 (by rw[he];exact congrArg some h.2) b⟩
 ·
  rename_i he;have fJ:=hx.on h1 h2;have hw:=J6 fJ (a:=(bX x.v src tgt x.v.at_ 0 x.v.ae x.v.at_).a) (h4.bR h2) h5;refine⟨(jk.on hx h1 h2 h3).trans hw.1,fun h=>?_,fun h=>by simpa using h,fun h=>?_⟩
  ·
   have g:(bX x.v src tgt x.v.at_ 0 x.v.ae x.v.at_).c.ops<_:=hw.2 h;simp only;omega
  ·
   exact absurd h.2 (Kg _ _)
theorem Ri: ∀(n:Nat) (c:CV) (b:Int),(fB n c b).2≠6
 |0,c,b=>by have:=Kf c b;simp only[fB];omega
 |n+1,c,b=>by
  rw[fB];split
  ·
   have:=CH c b (ak c b).used (iu c);simp only[bx];omega
  exact Ri n _ _
theorem Rj(c:CV)(b:Int):(cz c b).2≠6:=Ri _ _ _
def qv(c:CV)(l:List az)(i:Int):Bool:=decide ((bU c (l.set i.toNat aZ)).2.2=6)&&decide ((l.getD i.toNat dW).live<=FH (l.set i.toNat aZ) c.pages)
def cJ(c:CV)(l:List az)(i:Int):Int×Int:=if qv c l i=true then(-1,0)else(bU c (l.set i.toNat aZ)).2
def fC(x:WV)(l:List az)(i:Int):WV×Int:=
 if(cJ x.v.ae l i).2≠0 then(x.on (bU x.v.ae (l.set i.toNat aZ)).1,jW (cJ x.v.ae l i).2)
 else if(cZ (x.on (bU x.v.ae (l.set i.toNat aZ)).1) (i+2) (cJ x.v.ae l i).1).2.1=false\/(l.getD i.toNat dW).used=x.v.ae.pages then
  ((cZ (x.on (bU x.v.ae (l.set i.toNat aZ)).1) (i+2) (cJ x.v.ae l i).1).1,(cZ (x.on (bU x.v.ae (l.set i.toNat aZ)).1) (i+2) (cJ x.v.ae l i).1).2.2)
 else((cZ (x.on (bU x.v.ae (l.set i.toNat aZ)).1) (i+2) (cJ x.v.ae l i).1).1.on (cz (cZ (x.on (bU x.v.ae (l.set i.toNat aZ)).1) (i+2) (cJ x.v.ae l i).1).1.v.ae (i+2)).1,
  jW (cz (cZ (x.on (bU x.v.ae (l.set i.toNat aZ)).1) (i+2) (cJ x.v.ae l i).1).1.v.ae (i+2)).2)
theorem Rk{e:Int}(h:jW e=0):e=0\/e=9:=by
 rw[jW]at h;split at h
 ·
  exact .inr (by assumption)
 exact .inl h
theorem FT{e:Int}(h:jW e=6):e=6:=by
 rw[jW]at h;split at h
 ·
  cases h
 exact h
theorem FU{c:CV}{l:List az}{i:Int}(hk:aX c=true)(ht:kM c l):(cJ c l i).2=0->0<=(cJ c l i).1->2<=(cJ c l i).1/\(cJ c l i).1<c.blocks.length/\(ak (bU c (l.set i.toNat aZ)).1 (cJ c l i).1).bad=false:=by
 intro h h0;rw[cJ]at h h0⊢;split at h
 ·
  rename_i ha;rw[if_pos ha]at h0;exact absurd (show(0:Int)<= -1 from h0) (by decide)
 rename_i ha;rw[if_neg ha];exact(J9 hk (ht.set i.toNat)).2.2.2.1 h
theorem abg{x:WV}{src tgt:Int}(hx:cP x)(ht:0<=tgt->2<=tgt/\tgt<x.v.ae.blocks.length/\(ak x.v.ae tgt).bad=false):cP (cZ x src tgt).1/\dK x.v.ae (cZ x src tgt).1.v.ae:=
 ⟨(FR hx ht).1.ok,(FR hx ht).1.bR⟩
theorem Kh{x:WV}{l:List az}{i:Int}(hx:cP x)(ht:kM x.v.ae l):
  jk x (fC x l i).1/\((fC x l i).2=0->x.v.ae.ops<(fC x l i).1.v.ae.ops)/\((fC x l i).2=6-> ∀b,(ak (fC x l i).1.v.ae b).bad=(ak x.v.ae b).bad):=by
 obtain⟨t1,t2,t3,t4,t5,t6⟩:=J9 hx.ae (ht.set i.toNat);have hn:=jk.on hx t1 t2 t3;rw[fC]
 by_cases h0:(cJ x.v.ae l i).2≠0
 ·
  rw[if_pos h0];have he:(cJ x.v.ae l i).2=(bU x.v.ae (l.set i.toNat aZ)).2.2:=by
   rw[cJ]at h0⊢;split at h0
   ·
    exact absurd rfl h0
   ·
    rename_i ha;rw[if_neg ha]
  refine⟨hn,fun h=>?_,fun h b=>?_⟩
  ·
   rcases Rk h with g|g
   ·
    exact absurd g h0
   ·
    exact t5 (he▸g)
  ·
   have:=t6 (he▸FT h);simp only[WV.on];rw[this]
 ·
  rw[if_neg h0];have qY:(cJ x.v.ae l i).2=0:=by simpa using h0
  have hr:=FU (i:=i) hx.ae ht qY;obtain⟨m1,m2,m3,m4⟩:=FR (x:=x.on (bU x.v.ae (l.set i.toNat aZ)).1) (src:=i+2) (tgt:=(cJ x.v.ae l i).1) hn.ok (fun h=>by
   have:=hr h;exact⟨this.1,by simp only[WV.on];rw[t2.len];exact this.2.1,this.2.2⟩)
  have hb:(cJ x.v.ae l i).2=0->(bU x.v.ae (l.set i.toNat aZ)).2.2=6->(bU x.v.ae (l.set i.toNat aZ)).1=x.v.ae:=fun _ h=>t6 h
  by_cases h1:(cZ (x.on (bU x.v.ae (l.set i.toNat aZ)).1) (i+2) (cJ x.v.ae l i).1).2.1=false\/(l.getD i.toNat dW).used=x.v.ae.pages
  ·
   rw[if_pos h1];refine⟨hn.trans m1,fun h=>?_,fun h b=>?_⟩
   ·
    have g:(bU x.v.ae (l.set i.toNat aZ)).1.ops<_:=m2 h;simp only;omega
   ·
    have hf:(cZ (x.on (bU x.v.ae (l.set i.toNat aZ)).1) (i+2) (cJ x.v.ae l i).1).2.1=false:=by
     cases hq:(cZ (x.on (bU x.v.ae (l.set i.toNat aZ)).1) (i+2) (cJ x.v.ae l i).1).2.1 with
     |false=>rfl
     |true=>have:=m3 hq;exact absurd (this.symm.trans h) (by decide)
    rw[m4 ⟨hf,h⟩ b]
    by_cases ha:qv x.v.ae l i=true
    ·
     simp only[qv,alM,decide_eq_true_eq]at ha;simp only[WV.on];rw[t6 ha.1]
    ·
     exact absurd h (abh (by
      have:(cJ x.v.ae l i).1=(bU x.v.ae (l.set i.toNat aZ)).2.1:=by rw[cJ,if_neg ha]
      have g:(bU x.v.ae (l.set i.toNat aZ)).2.2=0:=by
       rw[cJ,if_neg ha]at qY;exact qY
      have:=(t4 g).1;omega))
  ·
   rw[if_neg h1];have hm:(cZ (x.on (bU x.v.ae (l.set i.toNat aZ)).1) (i+2) (cJ x.v.ae l i).1).2.1=true:=by
    cases hq:(cZ (x.on (bU x.v.ae (l.set i.toNat aZ)).1) (i+2) (cJ x.v.ae l i).1).2.1 with
    |true=>rfl
    |false=>exact absurd (.inl hq) h1
   have hz:=m2 (m3 hm);have hc:=wD (i+2) m1.ok.ae;have ho:=Ar (dX (cZ (x.on (bU x.v.ae (l.set i.toNat aZ)).1) (i+2) (cJ x.v.ae l i).1).1.v.ae (i+2)).toNat (cZ (x.on (bU x.v.ae (l.set i.toNat aZ)).1) (i+2) (cJ x.v.ae l i).1).1.v.ae (i+2);refine⟨(hn.trans m1).trans (.on m1.ok hc.1 hc.2 ho),fun _=>?_,fun h=>absurd (FT h) (Rj _ _)⟩;have g:(bU x.v.ae (l.set i.toNat aZ)).1.ops<_:=hz;have g2:(cZ (x.on (bU x.v.ae (l.set i.toNat aZ)).1) (i+2) (cJ x.v.ae l i).1).1.v.ae.ops<=(cz (cZ (x.on (bU x.v.ae (l.set i.toNat aZ)).1) (i+2) (cJ x.v.ae l i).1).1.v.ae (i+2)).1.ops:=ho;simp only[WV.on]at*;omega
where
 abh {x:WV} {src tgt:Int} (h:0<=tgt):(cZ x src tgt).2.2≠6:=by
  have key: ∀(l:List Int) (id:Nat) (c:CV) (a:List Int),(bX x.v src tgt l id c a).e≠some 6:=by
   intro l
   induction l with
   |nil=>intro id c a;simp[bX]
   |cons n r ih=>
    intro id c a;rw[bX];split
    ·
     exact ih _ _ _
    split
    ·
     rename_i h2;rw[cm,if_neg (by omega)]at h2;cases h2
    split
    ·
     rename_i h3;have:=(Ax ⟨1,id,((x.v.gen:Int)+1).toNat,iV c n⟩ c.size).resolve_left h3;intro h;have h:=aqP h;rw[dZ]at h;omega
    split
    ·
     intro h;have h:=FT (aqP h);have:=CH c (cm c x.v.at_ a src tgt).1 (ak c (cm c x.v.at_ a src tgt).1).used (dZ c ((x.v.gen:Int)+1) id n).1;rw[bx]at h;omega
    exact ih _ _ _
  rw[cZ];split
  ·
   rename_i e he;intro h;exact key _ _ _ _ (by rw[he];exact congrArg some h)
  exact Kg _ _
def nf(p:Int)(x:az):Bool:=decide (x.used<p)&&decide (x.aR<cN)
def nQ(c:CV)(l:List az):Int×Bool:=fA (bQ (nf c.pages) l) c.pages
def kl(x:WV)(l:List az):WV×Int:=
 if(nQ x.v.ae l).2=false then(x,6)else(x.on (cz x.v.ae ((nQ x.v.ae l).1+2)).1,jW (cz x.v.ae ((nQ x.v.ae l).1+2)).2)
def c0(x:WV):List az:=av x.v.ae x.v.at_
def sk(x:WV):Int×Bool:=iz (c0 x) x.v.ae.pages
def eR(x:WV):WV×Int:=
 if(sk x).2=true/\As x.v.gen=false then
  (if(fC x (c0 x) (sk x).1).2≠6 then fC x (c0 x) (sk x).1 else kl (fC x (c0 x) (sk x).1).1 (c0 x))
 else kl x (c0 x)
theorem kM.bR{c d:CV}{l:List az}(h:kM c l)(hl:dK c d)(hb: ∀b,(ak d b).bad=(ak c b).bad):kM d l:=⟨by rw[h.1,hl.len],fun i x hx gz=>by rw[hb];exact h.2 i x hx gz⟩
theorem Ki{x:WV}{l:List az}(hx:cP x)(ht:kM x.v.ae l):jk x (kl x l).1/\((kl x l).2=0->x.v.ae.ops<(kl x l).1.v.ae.ops):=by
 rw[kl];split
 ·
  exact⟨.c8 hx,fun h=>absurd (show(6:Int)=0 from h) (by decide)⟩
 rename_i h;have hd:=wI ht (fun x h=>(lA h).1) (show(nQ x.v.ae l).2=true by simpa using h);change 0<=(nQ x.v.ae l).1/\(nQ x.v.ae l).1<_/\(ak x.v.ae ((nQ x.v.ae l).1+2)).bad=false at hd;have hc:=wD ((nQ x.v.ae l).1+2) hx.ae;exact⟨.on hx hc.1 hc.2 (Ar _ _ _),fun h=>FJ hd.2.2 (Rk h).symm⟩
theorem FW{x:WV}(hx:cP x):jk x (eR x).1/\((eR x).2=0->x.v.ae.ops<(eR x).1.v.ae.ops):=by
 have ht:kM x.v.ae (c0 x):=yf _ _;rw[eR];split
 ·
  obtain⟨r1,r2,r3⟩:=Kh (i:=(sk x).1) hx ht;split
  ·
   exact⟨r1,r2⟩
  rename_i h6;have Az:(fC x (c0 x) (sk x).1).2=6:=by simpa using h6
  have:=Ki r1.ok (ht.bR r1.bR (r3 Az));exact⟨r1.trans this.1,fun h=>by have:=this.2 h;have:=r1.ops;omega⟩
 exact Ki hx ht
def ng:Nat->WV->Int->WV×Int
 |0,x,_=>(x,0)
 |n+1,x,need=>
  if need<=(kL x.v.ae x.v.at_).1 then(x,0)
  else if need<=(kL x.v.ae x.v.at_).2/\u6 x.v.ae x.v.last<2 then({x with beyond:=true},0)
  else if(eR x).2=0 then ng n (eR x).1 need
  else if(eR x).2≠6 then eR x
  else if need<=(kL x.v.ae x.v.at_).2 then({(eR x).1 with beyond:=true},0)
  else((eR x).1,5)
def km(x:WV)(need:Int):WV×Int:=ng ((cN -x.v.ae.ops).toNat+1) x need
theorem cP.by{x:WV}(h:cP x)(b:Bool):cP {x with beyond:=b}:=⟨h.ae,h.len,h.pages,h.size,h.last,h.gen,h.u7,h.jY⟩
theorem jk.by{x y:WV}(h:jk x y)(b:Bool):jk x {y with beyond:=b}:=⟨h.ok.by b,h.bR,h.ops,h.ye⟩
theorem Rl: ∀(n:Nat) {x:WV} {need:Int},cP x->jk x (ng n x need).1
 |0,x,need,hx=> .c8 hx
 |n+1,x,need,hx=>by
  have hc:=FW hx;rw[ng];split
  ·
   exact .c8 hx
  split
  ·
   exact(jk.c8 hx).by true
  split
  ·
   exact hc.1.trans (Rl n hc.1.ok)
  split
  ·
   exact hc.1
  split
  ·
   exact hc.1.by true
  exact hc.1
theorem abi{x:WV}{need:Int}(hx:cP x):jk x (km x need).1:=Rl _ hx
def br(x:It):Int×List UInt8:=(x.id,x.body.xs)
def mc(l:List (Int×List UInt8)):Nat:=(l.filter fun x=>decide (0<x.2.length)).length
theorem abj{l:List (Int×List UInt8)}{i:Nat}{x:Int×List UInt8}(h:l[i]? =some x):((l.take (i+1)).filter fun x=>decide (0<x.2.length)).length=((l.take i).filter fun x=>decide (0<x.2.length)).length+(if 0<x.2.length then 1 else 0):=by
 rw[aq0,h,ar9,af0];congr 1;simp only[atN,arG,ata];split<;>simp_all
def iA(v:VV)(x:Int×List UInt8):PV:=⟨1,x.1,v.gen+1,x.2⟩
def gB(v:VV)(aF:Bool):List (Int×List UInt8)->CV->List Int->CV×List Int×Int
 |[],c,a=>(c,a,0)
 |x::r,c,a=>
  if x.2.length=0 then gB v aF r c (a.set x.1.toNat 0)
  else if(cY c (v.at_++a) aF (iA v x)).2.2≠0 then((cY c (v.at_++a) aF (iA v x)).1,a,(cY c (v.at_++a) aF (iA v x)).2.2)
  else gB v aF r (cY c (v.at_++a) aF (iA v x)).1 (a.set x.1.toNat (cY c (v.at_++a) aF (iA v x)).2.1)
def cG(x:WV)(l:List (Int×List UInt8)):WV×Int:=km {x with beyond:=false} (mc l)
def fW(x:WV)(l:List (Int×List UInt8)):CV×List Int×Int:=gB (cG x l).1.v (cG x l).1.beyond l (cG x l).1.v.ae (cG x l).1.v.at_
def hG(x:WV)(l:List (Int×List UInt8)):WV×Int:=
 if(cG x l).2≠0 then cG x l
 else if(fW x l).2.2≠0 then((cG x l).1.on (fW x l).1,(fW x l).2.2)
 else dY ((cG x l).1.on (fW x l).1) (fW x l).2.1
theorem Kj{v:VV}{aF:Bool}: ∀(l:List (Int×List UInt8)) {c:CV} {a:List Int},aX c=true->3<=c.blocks.length->iw c a->
  aX (gB v aF l c a).1=true/\dK c (gB v aF l c a).1/\c.ops<=(gB v aF l c a).1.ops/\iw c (gB v aF l c a).2.1/\(gB v aF l c a).2.1.length=a.length
 |[],c,a,hk,h2,ha=>⟨hk, .c8 c,arU _,ha,rfl⟩
 |x::r,c,a,hk,h2,ha=>by
  rw[gB];split
  ·
   have:=Kj r (v:=v) (aF:=aF) hk h2 (a:=a.set x.1.toNat 0) (fun y hy=>by
    rcases arq hy with hy|rfl
    ·
     exact ha y hy
    ·
     exact .inl rfl)
   rwa [aru]at this
  ·
   obtain⟨p1,p2,p3,p4⟩:=Q9 (fl:=v.at_++a) (aF:=aF) (p:=iA v x) hk h2;split
   ·
    exact⟨p1,p2,p3,ha,rfl⟩
   ·
    rename_i h0;have p5:=p4 (by simpa using h0);have:=Kj r (v:=v) (aF:=aF) p1 (by rw[p2.len];exact h2) (a:=a.set x.1.toNat (cY c (v.at_++a) aF (iA v x)).2.1) (fun y hy=>by
     rw[p2.pages,p2.len];rcases arq hy with hy|rfl
     ·
      exact ha y hy
     ·
      exact .inr p5)
    obtain⟨i1,i2,i3,i4,i5⟩:=this;refine⟨i1,p2.trans i2,by omega,fun y hy=>?_,by rw[i5,aru]⟩;have:=i4 y hy;rwa [p2.pages,p2.len]at this
theorem FX{x:WV}{l:List (Int×List UInt8)}(hx:cP x):jk x (cG x l).1:=by
 have:=abi (need:=mc l) (hx.by false);exact⟨this.ok,this.bR,this.ops,this.ye⟩
theorem Kk{x:WV}{l:List (Int×List UInt8)}(hx:cP x):jk x (hG x l).1:=by
 have hs:=FX (l:=l) hx;rw[hG];split
 ·
  exact hs
 have hl:=hs.ok.sh;obtain⟨i1,i2,i3,i4,i5⟩:=Kj (v:=(cG x l).1.v) (aF:=(cG x l).1.beyond) l hs.ok.ae (by omega) hs.ok.u7;have fJ:=hs.trans (.on hs.ok i1 i2 i3);split
 ·
  exact fJ
 exact fJ.trans (J6 fJ.ok (i4.bR i2) i5).1
def oQ:Nat->WV->List (Int×List UInt8)->WV×Int
 |0,x,_=>(x,0)
 |n+1,x,l=>if(hG x l).2=5/\mY x.v.ae<mY (hG x l).1.v.ae then oQ n (hG x l).1 l else hG x l
theorem Rn(c:CV):mY c<=c.blocks.length:=atk _ _
def tE(v:VV)(x:Int×List UInt8):Bool:=decide (0<=x.1)&&decide (x.1<(v.at_.length:Int))&&decide ((x.2.length:Int)<=dO v.ae.size)
def tF(v:VV)(l:List (Int×List UInt8))(i:Nat):Bool:=tE v (l.getD i (0,[]))&& !((l.take i).map Prod.fst).contains (l.getD i (0,[])).1
def sq(v:VV)(l:List (Int×List UInt8)):Bool:=(List.range l.length).all (tF v l)
theorem CI{v:VV}{l:List (Int×List UInt8)}:sq v l=true↔ ∀i,i<l.length->tF v l i=true:=by simp only[sq,aq8,arw]
def tG(l:List Int)(i:Nat):Int->Option Unit:=fun x=>if x∈l.take i then some ()else none
theorem Ro{l:List Int}{i:Nat}{x:Int}:(tG l i x).isSome=decide (x∈l.take i):=by
 unfold tG;split<;>simp_all
theorem abk{l:List Int}:(fun _=>none)=tG l 0:=by
 funext x;simp[tG]
theorem abl{l:List Int}{i:Nat}{y:Int}(h:l[i]? =some y):(fun z=>if z=y then some ()else tG l i z)=tG l (i+1):=by
 funext x
 unfold tG;rw[aq0,h]
 by_cases hx:x=y
 ·
  subst hx;simp
 simp[hx]
def fO(v:VV)(l:List (Int×List UInt8)):VV×Int:=
 if ¬(lY v=true/\v.gen<281474976710655/\sq v l=true)then(v,1)
 else if v.ae.off=true then(v,7)
 else((oQ (v.ae.blocks.length+1) ⟨v,false⟩ l).1.v,(oQ (v.ae.blocks.length+1) ⟨v,false⟩ l).2)
def tH(b p:Int):Int:=if b<4\/32<b\/p<1\/16<p then 0 else(b -4)*p
def nR(c:CV)(ids:Int):WV×Int:=rj ⟨⟨c,[],0,0⟩,false⟩ ids.toNat
def oR(c:CV)(ids:Int):VV×Int:=
 if ¬(fV c=true/\1<=ids/\ids<=ki c.size)then(⟨c,[],0,0⟩,1)
 else if c.off=true then(⟨c,[],0,0⟩,7)
 else if(nR c ids).2≠0 then(⟨(nR c ids).1.v.ae,[],0,0⟩,(nR c ids).2)
 else((nR c ids).1.v,0)
theorem abm{b:List UInt8}:(bC b).1.at_.length<=64/\(bC b).1.gen<281474976710656:=by
 rw[bC];split
 ·
  simp[gY]
 rename_i h1;split
 ·
  simp[gY]
 rename_i h2;split
 ·
  simp[gY]
 rename_i h3;have hf:uY (cD b).1=true:=by simpa using h3
 simp only[uY,alM,decide_eq_true_eq]at hf;refine⟨?_,QX b⟩;have hid:(cD b).1.id<64:=by
  have sr:(cD b).2=0:=by simpa using h1
  rw[cD]at sr h2⊢
  by_cases g1:nL b.length=false
  ·
   rw[if_pos g1]at sr;cases sr
  rw[if_neg g1]at sr h2⊢
  by_cases g2:jT b=true
  ·
   rw[if_pos g2]at h2;exact absurd rfl h2
  rw[if_neg g2]at sr h2⊢
  by_cases g3:de (xY b)≠nH (lX b)
  ·
   rw[if_pos g3]at sr;cases sr
  rw[if_neg g3]at sr h2⊢
  by_cases g4:oI b=false
  ·
   rw[if_pos g4]at sr;cases sr
  rw[if_neg g4]at sr h2⊢;have g5:oI b=true:=by simpa using g4
  simp only[oI,alM]at g5;have:=(ra.1 g5.2).2.2.2.1;split
  ·
   simp[jS]
  exact this
 simp only[FE];omega
theorem Rp(l:List (List UInt8)): ∀k,(du l k).new.at_.length<=64/\(du l k).new.gen<281474976710656
 |0=>by simp[du,gY]
 |k+1=>by
  rw[du,ya];split
  ·
   exact abm
  exact Rp l k
theorem abn(l:List (List UInt8)):(fU l).2.1.at_.length<=64/\(fU l).2.1.gen<281474976710656:=by
 rw[fU];split
 ·
  exact Rp _ _
 split<;>simp[gY]
theorem FY{v:VV}{b:Bool}(h:lY v=true):cP ⟨v,b⟩:=by
 have hr:=Cy h;have ha:= @QL v h;simp only[lY,alM,decide_eq_true_eq]at h;obtain⟨⟨⟨h1,h2⟩,h3⟩,h4⟩:=h;obtain⟨hb,hl,hf⟩:=JS h1;obtain⟨b1,b2,b3,b4⟩:=fM.1 hb;have AA:=abn ((ak {v.ae with off:=false} 0).pages++(ak {v.ae with off:=false} 1).pages)
 rw[hf]at h2 h3 h4;simp only at h2 h3 h4;have hd:=eQ hr.1;have nP:4<=(v.ae.blocks.length:Int):=b2;refine⟨hr.1,b2,b3,b4,?_,by rw[←h2];exact AA.2,fun n hn=>?_,by rw[←h4];exact AA.1⟩
 ·
  rw[←h3];have ho0:=fc.1 (sd hr.1 (b:=0) (by omega) (by omega));have ho1:=fc.1 (sd hr.1 (b:=1) (by omega) (by omega));have hlen:((ak v.ae 0).pages++(ak v.ae 1).pages).length=(ak v.ae 0).pages.length+(ak v.ae 1).pages.length:=af0;have lB:=JO (l:=(ak v.ae 0).pages++(ak v.ae 1).pages) (by rw[hlen];omega);change 0<=(bO {v.ae with off:=false}).1/\(bO {v.ae with off:=false}).1<_ at lB
  rw[hlen]at lB;have g0:0<=(bO {v.ae with off:=false}).1/v.ae.pages:=asW lB.1 (by omega)
  have g1:(bO {v.ae with off:=false}).1/v.ae.pages<2:=Int.ediv_lt_of_lt_mul (by omega) (by
   have h9:(bO {v.ae with off:=false}).1<(((ak v.ae 0).pages.length+(ak v.ae 1).pages.length:Nat):Int):=lB.2
   omega)
  change(bO {v.ae with off:=false}).1/v.ae.pages=0\/(bO {v.ae with off:=false}).1/v.ae.pages=1
  omega
 by_cases h0:n=0
 ·
  exact .inl h0
 obtain⟨i,hi⟩:=arc hn;have:=ha hi h0;have hp:=mu.1 this.2.2;exact .inr ⟨this.1,hp.1,hp.2.1⟩
def Rq(b:BV):Bool:=decide (b.pages.length<=20)&&b.pages.all fun p=>decide (p.length<=300)
def Kl(c:CV):Bool:=decide (c.blocks.length<=40)&&decide (c.aU.length<=80)&&c.blocks.all Rq
theorem amM{c:CV}:Kl c=true↔c.blocks.length<=40/\c.aU.length<=80/\ ∀b∈c.blocks,b.pages.length<=20/\ ∀p∈b.pages,p.length<=300:=by
 simp only[Kl,Rq,alM,decide_eq_true_eq,aq8,and_assoc]
def yg(l:List (List UInt8))(i:Nat):Bool:=decide ((bC (l.getD i [])).2=0)&&(List.range l.length).all fun k=> !(decide ((bC (l.getD k [])).2=0)&&(decide ((bC (l.getD i [])).1.gen<(bC (l.getD k [])).1.gen)||(decide ((bC (l.getD k [])).1.gen=(bC (l.getD i [])).1.gen)&&decide (i<k))))
theorem Km(l:List (List UInt8)): ∀k,k<=l.length->
  ((du l k).found=true-> ∃i,i<k/\(du l k).at_=(i:Int)/\(bC (l.getD i [])).2=0/\(du l k).new=(bC (l.getD i [])).1/\ ∀j,j<k->(bC (l.getD j [])).2=0->(bC (l.getD j [])).1.gen<(bC (l.getD i [])).1.gen\/((bC (l.getD j [])).1.gen=(bC (l.getD i [])).1.gen/\j<=i))/\
  ((du l k).found=false-> ∀j,j<k->(bC (l.getD j [])).2≠0)/\(du l k).blank=(l.take k).all jT
 |0,_=>⟨fun h=>by simp[du]at h,fun _ j hj=>by omega,by simp[du]⟩
 |k+1,hk=>by
  obtain⟨h1,h2,h3⟩:=Km l k (by omega);obtain⟨b,hb⟩:=get_some (xs:=l) (i:=k) (by omega);have hg:l.getD k []=b:=by simp[List.getD,hb]
  have dP:(l.take (k+1)).all jT=((l.take k).all jT&&jT b):=by rw[aq0,hb];simp
  by_cases hq:(bC b).2=0/\((du l k).found=false\/(du l k).new.gen<=(bC b).1.gen)
  ·
   rw[Qz hb hq,h3,dP];refine⟨fun _=>⟨k,by omega,rfl,by rw[hg];exact hq.1,by rw[hg],fun j hj hv=>?_⟩,fun h=>by simp at h,rfl⟩;rw[hg]
   by_cases e:j=k
   ·
    subst e;rw[hg];exact .inr ⟨rfl,aqY _⟩
   ·
    have DT:j<k:=by omega
    rcases hq.2 with hf|hf
    ·
     exact absurd hv (h2 hf j DT)
    ·
     cases kN:(du l k).found with
     |false=>exact absurd hv (h2 kN j DT)
     |true=>
      obtain⟨i,hi,ha,ER,hn,iG⟩:=h1 kN;rw[hn]at hf;rcases iG j DT hv with g|g
      ·
       exact .inl (by omega)
      ·
       by_cases bb:(bC (l.getD j [])).1.gen<(bC b).1.gen
       ·
        exact .inl bb
       ·
        exact .inr ⟨by omega,by omega⟩
  ·
   rw[QA hb hq];refine⟨fun kN=>?_,fun kN j hj=>?_,by simp only[h3,dP]⟩
   ·
    obtain⟨i,hi,ha,ER,hn,iG⟩:=h1 kN;refine⟨i,by omega,ha,ER,hn,fun j hj hv=>?_⟩
    by_cases e:j=k
    ·
     subst e;rw[hg]at hv⊢;have: ¬(du l j).new.gen<=(bC b).1.gen:=fun h=>hq ⟨hv, .inr h⟩;rw[hn]at this;exact .inl (by omega)
    ·
     exact iG j (by omega) hv
   ·
    by_cases e:j=k
    ·
     subst e;rw[hg];exact fun hv=>hq ⟨hv, .inl kN⟩
    ·
     exact h2 kN j (by omega)
theorem FZ{l:List (List UInt8)}{i:Nat}:yg l i=true↔(bC (l.getD i [])).2=0/\ ∀k,k<l.length->(bC (l.getD k [])).2=0-> ¬((bC (l.getD i [])).1.gen<(bC (l.getD k [])).1.gen\/((bC (l.getD k [])).1.gen=(bC (l.getD i [])).1.gen/\i<k)):=by
 simp only[yg,alM,decide_eq_true_eq,aq8,arw,arX,Bool.and_eq_false_iff,Bool.or_eq_false_iff,decide_eq_false_iff_not];constructor
 ·
  rintro⟨h1,h2⟩;refine⟨h1,fun k hk hv hc=>?_⟩;rcases h2 k hk with g|g
  ·
   exact g hv
  rcases hc with c|c
  ·
   exact g.1 c
  rcases g.2 with g|g
  ·
   exact g c.1
  exact g c.2
 rintro⟨h1,h2⟩;refine⟨h1,fun k hk=>?_⟩
 by_cases hv:(bC (l.getD k [])).2=0
 ·
  have:=h2 k hk hv;refine .inr ⟨fun c=>this (.inl c),?_⟩
  by_cases e:(bC (l.getD k [])).1.gen=(bC (l.getD i [])).1.gen
  ·
   exact .inr fun c=>this (.inr ⟨e,c⟩)
  exact .inl e
 exact .inl hv
theorem Rr{l:List (List UInt8)}{i:Nat}(hi:i<l.length)(h:yg l i=true):fU l=((i:Int),(bC (l.getD i [])).1,0):=by
 obtain⟨h1,h2⟩:=FZ.1 h;obtain⟨s1,s2,s3⟩:=Km l l.length (aqY _)
 cases hf:(du l l.length).found with
 |false=>exact absurd h1 (s2 hf i hi)
 |true=>
  obtain⟨j,hj,ha,hv,hn,iG⟩:=s1 hf;have e:j=i:=by
   have g1:=iG i hi h1;have g2:=h2 j hj hv;omega
  subst e;rw[fU,if_pos hf,ha,hn]
theorem abo{l:List (List UInt8)}(h: ∀i,i<l.length->yg l i=false):fU l=(0,gY,if l.all jT=true then 6 else 2):=by
 obtain⟨s1,s2,s3⟩:=Km l l.length (aqY _);rw[ark]at s3
 cases hf:(du l l.length).found with
 |false=>
  rw[fU,if_neg (by rw[hf];simp),s3];split<;>rfl
 |true=>
  obtain⟨j,hj,ha,hv,hn,iG⟩:=s1 hf;have:yg l j=true:=FZ.2 ⟨hv,fun k hk hvk hc=>by have:=iG k hk hvk;omega⟩;rw[h j hj]at this;cases this
def u9(c:CV):VV×Int:=
 if(bO c).2.2≠0 then(lr,(bO c).2.2)else if mv c=false then(lr,2)else(⟨c,(bO c).2.1.at_,(bO c).2.1.gen,(bO c).1/c.pages⟩,0)
theorem Rs{c:CV}{l:List Int}{i:Nat}{y:Int}(h:l.getD i 0=y):re c l i=(decide (y=0)||(!(l.take i).contains y&&nN c (i:Int) y)):=by rw[re,h]
theorem abp(c:CV):bE c=if fV c=false then(lr,1)else if c.off=true then(lr,7)else u9 c:=rfl
theorem abq(x:VV):lY x=(fV x.ae&&(decide ((u9 x.ae).2=0)&&decide (x.at_=(u9 x.ae).1.at_)&&decide (x.gen=(u9 x.ae).1.gen)&&decide (x.last=(u9 x.ae).1.last))):=by
 have hb:fV {x.ae with off:=false}=fV x.ae:=rfl
 have fk:mv {x.ae with off:=false}=mv x.ae:=rfl
 have AB:bO {x.ae with off:=false}=bO x.ae:=rfl
 rw[lY,abp,hb]
 cases h:fV x.ae with
 |false=>rw[if_pos rfl];rfl
 |true=>
  rw[if_neg (by simp),if_neg (by simp),u9,u9,AB,fk]
  by_cases h1:(bO x.ae).2.2≠0
  ·
   rw[if_pos h1,if_pos h1,decide_eq_false h1];rfl
  rw[if_neg h1,if_neg h1]
  by_cases h2:mv x.ae=false
  ·
   rw[if_pos h2,if_pos h2];rfl
  rw[if_neg h2,if_neg h2];rw[atx];simp only[alM,decide_eq_true_eq,true_and,arH];constructor
  ·
   rintro⟨⟨g1,g2⟩,g3⟩;exact⟨⟨g3.symm,g1.symm⟩,g2.symm⟩
  rintro⟨⟨g1,g2⟩,g3⟩;exact⟨⟨g2.symm,g3.symm⟩,g1.symm⟩
theorem abr{c:CV}(h:(bE c).2≠0):(bE c).1=lr:=by
 rw[bE]at h⊢
 repeat' split
 all_goals first|rfl|(exfalso;simp_all)
theorem abt(c:CV):(if(bE c).2=0 then(bE c).1 else lr)=(bE c).1:=by
 by_cases h:(bE c).2=0
 ·
  rw[if_pos h]
 rw[if_neg h,abr h]
def Kn(pages:Int)(l:List Int)(i:Nat)(n:Nat):Nat:=((List.range n).filter fun j=>decide (0<l.getD j 0)&&decide ((l.getD j 0 -1)/pages=(i:Int)+2)).length
theorem abu{v:VV}(h:lY v=true)(i:Nat):jU v.ae.pages v.at_ v.at_.length i=Kn v.ae.pages v.at_ i v.at_.length:=by
 obtain⟨-,h2,h3⟩:=Cy h;rw[jU,Kn];congr 1;refine List.filter_congr fun j hj=>?_;have iP:j<v.at_.length:=arw.1 hj;have hp:=Cv.1 h2 j iP;have hr:=h3 (v.at_.getD j 0) (by rw[show v.at_.getD j 0=v.at_[j] by simp[List.getD,iP]];exact asG _);congr 1;rw[re]at hp;rw[mX]
 by_cases h0:v.at_.getD j 0=0
 ·
  rw[h0];simp
 rw[decide_eq_true h0,decide_eq_true (show 0<v.at_.getD j 0 by omega)];rw[decide_eq_false h0,atp,alM]at hp;rw[hp.1];rfl
def rl(t:List Rt)(n id:Nat):List UInt8:=((t.drop (id*n)).take n).flatMap eV
def lC(t:List Rt)(ids n:Nat):List (List UInt8):=(List.range ids).map (rl t n)
def jl(a b:Int):Int:=if a<1\/64<a\/b<20\/240<b then 0 else min (a*(b/20)) 256
def jZ(t:List Rt)(ids room:Int):Int:=if bJ t=false\/jl ids room=0 then 1 else if jl ids room<t.length then 5 else 0
def kO(t:List Rt)(ids room:Int):List (List UInt8):=if jZ t ids room=0 then lC t ids.toNat (room/20).toNat else[]
theorem wK(t:List Rt)(ids n:Nat):(lC t ids n).length=ids:=by simp[lC]
theorem abv(l:List Rt):(l.flatMap eV).length=20*l.length:=by
 induction l with
 |nil=>rfl
 |cons a l ih=>rw[atB,af0,ih,qq,aqQ];omega
theorem abw(t:List Rt)(n id:Nat):(rl t n id).length=20*min n (t.length -id*n):=by
 rw[rl,abv,aqT,aq9]
theorem Ko(t:List Rt)(n id:Nat):(rl t n id).length<=20*n:=by rw[abw];omega
theorem F0{a b:Int}(h: ¬jl a b=0):1<=a/\a<=64/\20<=b/\b<=240/\jl a b=min (a*(b/20)) 256/\1<=b/20/\b/20<=12:=by
 unfold jl at h⊢;split at h
 ·
  exact absurd rfl h
 rename_i hn;rw[if_neg hn];have:1<=b/20/\b/20<=12:=by omega
 exact⟨by omega,by omega,by omega,by omega,rfl,this.1,this.2⟩
theorem abx{t:List Rt}{r:Rt}{i n id:Nat}(hn:0<n)(hr:t[i]? =some r):rl (t.take (i+1)) n id=rl (t.take i) n id++(if id=i/n then eV r else[]):=by
 have bb:i<t.length:=(ad2.1 hr).1;have e1:t.take (i+1)=t.take i++[r]:=by rw[aq0,hr];rfl
 have hd:=asY i n;have hm:=asX i hn;have hc:n*(i/n)=i/n*n:=asj _ _;unfold rl;have l1:(t.take i).length=i:=by rw[aqT];omega
 rw[e1]
 by_cases h1:id=i/n
 ·
  subst h1;have e2:(t.take i++[r]).drop (i/n*n)=(t.take i).drop (i/n*n)++[r]:=List.drop_append_of_le_length (by rw[l1];omega);have e3:((t.take i).drop (i/n*n)++[r]).take n=(t.take i).drop (i/n*n)++[r]:=aq5 (by rw[af0,aq9,l1];simp only[aqQ,aqS];omega);have e4:((t.take i).drop (i/n*n)).take n=(t.take i).drop (i/n*n):=aq5 (by rw[aq9,l1];omega);rw[if_pos rfl,e2,e3,e4];simp
 rw[if_neg h1,arL];rcases atL h1 with h2|h2
 ·
  have:(id+1)*n<=i/n*n:=ara _ h2;rw[ars]at this;rw[List.drop_append_of_le_length (by rw[l1];omega),List.take_append_of_le_length (by rw[aq9,l1];omega)]
 have:(i/n+1)*n<=id*n:=ara _ h2;rw[ars]at this;rw[atP (by rw[af0,l1];simp;omega),atP (by rw[l1];omega)]
theorem aby{t:List Rt}{r:Rt}{i n ids:Nat}{x:List UInt8}(hn:0<n)(hr:t[i]? =some r)(hx:(lC (t.take i) ids n)[i/n]? =some x):
  lC (t.take (i+1)) ids n=(lC (t.take i) ids n).set (i/n) (x++eV r):=by
 refine arS fun j=>?_;rw[arD];have hk:i/n<ids:=by have:=(ad2.1 hx).1;rwa [wK]at this
 by_cases hj:j<ids
 ·
  have e: ∀t',(lC t' ids n)[j]? =some (rl t' n j):=fun t'=>by simp[lC,hj]
  rw[e,abx hn hr]
  by_cases h:i/n=j
  ·
   subst h;rw[e]at hx;rw[if_pos rfl,if_pos rfl,if_pos (by rw[wK];exact hk)];rw[aqP hx]
  ·
   rw[if_neg (fun e=>h e.symm),if_neg h,arL,e]
 ·
  rw[aqV (by rw[wK];omega),if_neg (by omega),aqV (by rw[wK];omega)]
theorem abz(t:List Rt)(ids n:Nat):lC (t.take 0) ids n=List.replicate ids []:=by
 refine List.eq_replicate_iff.2 ⟨wK _ _ _,fun x hx=>?_⟩;obtain⟨j,_,rfl⟩:=ar0.1 hx;simp[rl]
theorem abA(t:List Rt)(id n:Nat):lC t (id+1) n=lC t id n++[rl t n id]:=by simp[lC,ar1]
def qw(b:List UInt8):Rt:=⟨⟨if b.getD 0 0=1 then 128 else 32,(b.getD 1 0).toNat,nw fun i=>(b.getD (2+i) 0).toNat⟩,UInt16.ofNat ((b.getD 18 0).toNat*256+(b.getD 19 0).toNat)⟩
def rd(b:List UInt8):Option Rt:=if b.getD 0 0<=1 then some (qw b)else none
def mA(b:List UInt8):Option (List Rt):=
 if h:b.length<20 then(if b.length=0 then some []else none)
 else match rd (b.take 20),mA (b.drop 20)with
  |some r,some l=>some (r::l)
  |_,_=>none
termination_by b.length
decreasing_by rw[aq9];omega
theorem Ru:mA []=some []:=by rw[mA];simp
theorem Kq{b:List UInt8}(h:20<=b.length):mA b=(rd (b.take 20)).bind fun r=>(mA (b.drop 20)).map (r:: ·):=by
 rw[mA,dif_neg (by omega)]
 cases rd (b.take 20)<;>simp
 cases mA (b.drop 20)<;>simp
theorem Rv: ∀(k:Nat) (b:List UInt8),b.length<=k-> ¬b.length%20=0->mA b=none
 |0,b,h,hm=>by have:b.length=0:=by omega
               rw[this]at hm;simp at hm
 |k+1,b,h,hm=>by
  by_cases h2:b.length<20
  ·
   rw[mA,dif_pos h2,if_neg (fun e=>by rw[e]at hm;simp at hm)]
  rw[Kq (by omega),Rv k (b.drop 20) (by rw[aq9];omega) (by rw[aq9];omega)]
  cases rd (b.take 20)<;>rfl
def gI:List (List UInt8)->Option (List Rt)
 |[]=>some []
 |b::r=>(mA b).bind fun l=>(gI r).map (l++ ·)
theorem F1: ∀a b:List (List UInt8),gI (a++b)=(gI a).bind fun l=>(gI b).map (l++ ·)
 |[],b=>by simp[gI]
 |x::a,b=>by
  rw[asc,gI,gI,F1 a b]
  cases mA x<;>simp
  cases gI a<;>simp
  cases gI b<;>simp
theorem Kr{bs:List (List UInt8)}{i:Nat}{b:List UInt8}(h:bs[i]? =some b):gI (bs.take (i+1))=(gI (bs.take i)).bind fun l=>(mA b).map (l++ ·):=by
 rw[aq0,h,atN,F1,gI,gI]
 cases gI (bs.take i)with
 |none=>rfl
 |some l=>cases mA b<;>simp
theorem Rw{bs:List (List UInt8)}{i:Nat}(h:gI (bs.take i)=none):gI bs=none:=by
 rw[←arC i bs,F1,h];rfl
def jE(bs:List (List UInt8)):List Rt:=match gI bs with
 |some t=>if bJ t=true then t else[]
 |none=>[]
def kP(bs:List (List UInt8)):Int:=match gI bs with
 |some t=>if bJ t=true then 0 else 2
 |none=>2
theorem F2{bs:List (List UInt8)}(h:gI bs=none):jE bs=[]/\kP bs=2:=by simp[jE,kP,h]
theorem Rx{bs:List (List UInt8)}{t:List Rt}(h:gI bs=some t)(hr:bJ t=false):jE bs=[]/\kP bs=2:=by simp[jE,kP,h,hr]
theorem Ks{bs:List (List UInt8)}{t:List Rt}(h:gI bs=some t)(hr:bJ t=true):jE bs=t/\kP bs=0:=by simp[jE,kP,h,hr]
def tI(a b:List (List UInt8))(i:Nat):Option (Int×List UInt8):=if a.getD i []=b.getD i []then none else some ((i:Int),b.getD i [])
def nS(a b:List (List UInt8))(n:Nat):List (Int×List UInt8):=(List.range n).filterMap (tI a b)
def eW(a b:List (List UInt8)):List (Int×List UInt8):=nS a b (max a.length b.length)
theorem Rz{a b:List (List UInt8)}{n:Nat}(h:a.getD n []=b.getD n []):nS a b (n+1)=nS a b n:=by
 have e:tI a b n=none:=by rw[tI,if_pos h]
 simp[nS,ar1,e]
theorem RA{a b:List (List UInt8)}{n:Nat}(h: ¬a.getD n []=b.getD n []):nS a b (n+1)=nS a b n++[((n:Int),b.getD n [])]:=by
 have e:tI a b n=some ((n:Int),b.getD n []):=by rw[tI,if_neg h]
 simp[nS,ar1,e]
theorem F3(a b:List (List UInt8))(n:Nat):(nS a b n).length<=n:=by
 have:=List.length_filterMap_le (tI a b) (List.range n);simpa[nS]using this
def qx(b:List UInt8):Bool:=decide (b.getD 0 0<=1)
def rdv(b:List UInt8):Rt:=if qx b=true then qw b else iS
theorem RB(b:List UInt8):rd b=if qx b=true then some (qw b)else none:=by simp[rd,qx]
theorem abB(b:List UInt8):(qw b).cx=s9 (b.getD 18 0) (b.getD 19 0):=rfl
theorem abC{b:List UInt8}(hb:b.length=20)(v:Int)(hv:v=if b.getD 0 0=1 then 128 else 32):
  (over (((aA iS).setIfInBounds 0 (.int .i64 v)).setIfInBounds 1 (.int .i64 (b.getD 1 0).toNat)) 2 (aJ aN ((b.drop 2).take 16)).toArray).setIfInBounds 18 (.int .u16 (s9 (b.getD 18 0) (b.getD 19 0)).toNat)=aA (qw b):=by
 have hk:(aJ aN ((b.drop 2).take 16)).toArray.size=16:=by rw[arO,gQ,aqT,aq9,hb];rfl
 have h0:(aA iS).size=19:=k8 _;have hs:2+(aJ aN ((b.drop 2).take 16)).toArray.size<=(((aA iS).setIfInBounds 0 (.int .i64 v)).setIfInBounds 1 (.int .i64 (b.getD 1 0).toNat)).size:=by rw[hk];simp[h0]
 refine asv fun j=>?_;rw[arW,og hs,uu hs,hk]
 by_cases Cs:18=j
 ·
  subst Cs;rw[if_pos rfl,zL,abB];simp[h0]
 rw[if_neg Cs]
 by_cases h2:2<=j/\j<2+16
 ·
  rw[if_pos h2,pv _ j (by omega),show j=2+(j -2) by omega,qS,jQ _ _ (by omega),show 2+(j -2) -2=j -2 by omega];have hg:((b.drop 2).take 16)[j -2]? =some (b.getD j 0):=by
   rw[as1,if_pos (by omega),asa,show 2+(j -2)=j by omega,List.getD,aqR (by omega)];rfl
  have:=np (enc:=aN) ((b.drop 2).take 16) (j -2) _ hg 0 (by decide);simp only[ass,arP]at this;rw[show(aJ aN ((b.drop 2).take 16)).toArray[j -2]? =(aJ aN ((b.drop 2).take 16))[j -2]?by simp,this];have e:aW (qw b).p.key (j -2)=(b.getD j 0).toNat:=by
   show aW (nw fun i=>(b.getD (2+i) 0).toNat) (j -2)=_;rw[te _ _ (by omega),show 2+(j -2)=j by omega];have:=(b.getD j 0).toNat_lt;omega
  rw[e];rfl
 rw[if_neg h2,arW]
 by_cases h1:1=j
 ·
  subst h1;rw[if_pos rfl,pv _ 1 (by decide),xG];simp[h0,qw]
 rw[if_neg h1,arW]
 by_cases hj:0=j
 ·
  subst hj;rw[if_pos rfl,pv _ 0 (by decide),xF];simp[h0,qw,hv]
 ·
  rw[if_neg hj,ar7 (by rw[h0];omega),ar7 (by rw[k8];omega)]
theorem RC{t:List Rt}{ids room:Int}(h:jl ids room=0\/bJ t=false):jZ t ids room=1/\kO t ids room=[]:=by
 have e:jZ t ids room=1:=if_pos h.symm;exact⟨e,by rw[kO,e];rfl⟩
theorem RD{t:List Rt}{ids room:Int}(h: ¬jl ids room=0)(h':bJ t=true)(h2:jl ids room<t.length):jZ t ids room=5/\kO t ids room=[]:=by
 have e:jZ t ids room=5:=by
  rw[jZ,if_neg (by simp[h,h']),if_pos h2]
 exact⟨e,by rw[kO,e];rfl⟩
theorem Kt{t:List Rt}{ids room:Int}(h: ¬jl ids room=0)(h':bJ t=true)(h2: ¬jl ids room<t.length):jZ t ids room=0/\kO t ids room=lC t ids.toNat (room/20).toNat:=by
 have e:jZ t ids room=0:=by
  rw[jZ,if_neg (by simp[h,h']),if_neg h2]
 exact⟨e,by rw[kO,if_pos e]⟩
theorem abD{s:Sv}{xs:List (Sl UInt8)}{i:Nat}{y:Sl UInt8}:lx (⟨s,xs.set i y⟩:Sl (Sl UInt8))=(xs.map (·.xs)).set i y.xs:=by simp[lx,atd]
def tJ(m i:Nat)(nd:Nd)(b:Nat)(a:List Int):Option (List Int):=
 if(nd.sl b).len<0\/4*a.getD i 0+1<(nd.sl b).len then none
 else if nd.nx b=0 then some a
 else if nd.nx b<=(i:Int)\/(m:Int)<=nd.nx b\/a.getD (nd.nx b).toNat 0≠0 then none
 else some (a.set (nd.nx b).toNat (a.getD i 0+1))
def mB(m i:Nat)(nd:Nd):Nat->List Int->Option (List Int)
 |0,a=>some a
 |b+1,a=>(mB m i nd b a).bind (tJ m i nd b)
def kQ(bits:Int)(ns:List Nd):Nat->Option (List Int)
 |0=>some ((List.replicate ns.length 0).set 0 1)
 |i+1=>(kQ bits ns i).bind fun a=>if a.getD i 0=0\/bits/4<a.getD i 0 then none else mB ns.length i (ns.getD i Nd.zero) 16 a
def kR(bits:Int)(ns:List Nd):Option (List Int):=if(bits=32\/bits=128)/\1<=ns.length/\ns.length<=512 then kQ bits ns ns.length else none
theorem abE{bits:Int}{ns:List Nd}{i:Nat}(h:kQ bits ns i=none): ∀j,i<=j->kQ bits ns j=none:=by
 intro j hj
 induction j with
 |zero=>obtain rfl:i=0:=by omega
        exact h
 |succ j ih=>
  rcases aqX j i with h'|h'
  ·
   obtain rfl:i=j+1:=by omega
   exact h
  rw[kQ,ih h'];rfl
theorem abF{m i:Nat}{nd:Nd}{a:List Int}{b:Nat}(h:mB m i nd b a=none): ∀c,b<=c->mB m i nd c a=none:=by
 intro c hc
 induction c with
 |zero=>obtain rfl:b=0:=by omega
        exact h
 |succ c ih=>
  rcases aqX c b with h'|h'
  ·
   obtain rfl:b=c+1:=by omega
   exact h
  rw[mB,ih h'];rfl
theorem RE{bits:Int}{ns:List Nd}{i:Nat}(hi:i<=ns.length)(h:kQ bits ns i=none):kR bits ns=none:=by
 rw[kR];split
 ·
  exact abE h _ hi
 rfl
section
variable {bits:Int} {ns:List Nd} {i:Nat} {a a2:List Int} {nd:Nd}
theorem abG(hi:i<ns.length)(h:kQ bits ns i=some a)(hx:a.getD i 0=0\/bits/4<a.getD i 0):kR bits ns=none:=
 RE (i:=i+1) hi (by rw[kQ,h,asd,if_pos hx])
theorem RF{b:Nat}(hi:i<ns.length)(h:kQ bits ns i=some a)(hn:ns[i]? =some nd)(hb:b<16)(h2:mB ns.length i nd b a=some a2)(h3:tJ ns.length i nd b a2=none):kR bits ns=none:=
 RE (i:=i+1) hi (by
  rw[kQ,h,asd];split
  ·
   rfl
  have e:ns.getD i Nd.zero=nd:=by rw[arI,hn];rfl
  rw[e];exact abF (b:=b+1) (by rw[mB,h2,asd,h3]) _ hb)
theorem abH(h:kQ bits ns i=some a)(hn:ns[i]? =some nd)(hx: ¬(a.getD i 0=0\/bits/4<a.getD i 0))(h2:mB ns.length i nd 16 a=some a2):kQ bits ns (i+1)=some a2:=by
 have e:ns.getD i Nd.zero=nd:=by rw[arI,hn];rfl
 rw[kQ,h,asd,if_neg hx,e,h2]
theorem getD_some{α:Type}{xs:List α}{i:Nat}{x d:α}(h:xs[i]? =some x):xs.getD i d=x:=by rw[arI,h];rfl
end
def RG(ns:List Nd):Prop:= ∀(i:Nat) (nd:Nd),ns[i]? =some nd-> ∀b:Nat,b<16->0<=nd.nx b/\nd.nx b<ns.length
theorem abI{m i:Nat}{nd:Nd}{a a2:List Int}: ∀{n:Nat},mB m i nd n a=some a2-> ∀b,b<n->nd.nx b=0\/(i:Int)<nd.nx b/\nd.nx b<m:=by
 intro n
 induction n generalizing a2 with
 |zero=>intro _ b hb;omega
 |succ n ih=>
  intro h b hb;rw[mB]at h
  cases e:mB m i nd n a with
  |none=>rw[e]at h;cases h
  |some a3=>
   rcases aqX b n with h'|h'
   ·
    exact ih e b h'
   obtain rfl:b=n:=by omega
   rw[e,asd,tJ]at h;split at h
   ·
    cases h
   split at h
   ·
    left;assumption
   split at h
   ·
    cases h
   right;omega
theorem abJ{bits:Int}{ns:List Nd}{a:List Int}: ∀{n:Nat},kQ bits ns n=some a-> ∀i nd,i<n->ns[i]? =some nd-> ∀b,b<16->nd.nx b=0\/(i:Int)<nd.nx b/\nd.nx b<ns.length:=by
 intro n
 induction n generalizing a with
 |zero=>intro _ i nd hi;omega
 |succ n ih=>
  intro h i nd hi hn b hb;rw[kQ]at h
  cases e:kQ bits ns n with
  |none=>rw[e]at h;cases h
  |some a3=>
   rcases aqX i n with h'|h'
   ·
    exact ih e i nd h' hn b hb
   obtain rfl:i=n:=by omega
   rw[e,asd]at h;split at h
   ·
    cases h
   rw[getD_some hn]at h;exact abI h b hb
theorem F4{bits:Int}{ns:List Nd}(h:(kR bits ns).isSome=true):RG ns/\(bits=32\/bits=128)/\1<=ns.length/\ns.length<=512:=by
 rw[kR]at h;split at h
 ·
  rename_i hc;refine⟨fun i nd hi b hb=>?_,hc⟩;obtain⟨a,ha⟩:=arV.1 h;have dD:=(ad2.1 hi).1;rcases abJ ha i nd dD hi b hb with h1|h1
  ·
   omega
  omega
 cases h
theorem abK{m i:Nat}{nd:Nd}{a a2:List Int}: ∀{n:Nat},mB m i nd n a=some a2->a2.getD i 0=a.getD i 0/\ ∀b,b<n->0<=(nd.sl b).len/\(nd.sl b).len<=4*a.getD i 0+1:=by
 intro n
 induction n generalizing a2 with
 |zero=>intro h;rw[mB]at h;exact⟨by rw[aqP h],fun b hb=>by omega⟩
 |succ n ih=>
  intro h;rw[mB]at h
  cases e:mB m i nd n a with
  |none=>rw[e]at h;cases h
  |some a3=>
   obtain⟨Ku,ih2⟩:=ih e;rw[e,asd,tJ]at h;split at h
   ·
    cases h
   rename_i h1;have nP: ∀b,b<n+1->0<=(nd.sl b).len/\(nd.sl b).len<=4*a.getD i 0+1:=fun b hb=>by
    rcases aqX b n with h'|h'
    ·
     exact ih2 b h'
    obtain rfl:b=n:=by omega
    rw[←Ku];omega
   split at h
   ·
    exact⟨by rw[←aqP h];exact Ku,nP⟩
   split at h
   ·
    cases h
   refine⟨?_,nP⟩;rw[←aqP h,←Ku,arI,arI,arj (by omega)]
theorem abL{bits:Int}{ns:List Nd}{a:List Int}: ∀{n:Nat},kQ bits ns n=some a-> ∀(i:Nat) (nd:Nd),i<n->ns[i]? =some nd-> ∀b,b<16->0<=(nd.sl b).len/\(nd.sl b).len<=4*(bits/4)+1:=by
 intro n
 induction n generalizing a with
 |zero=>intro _ i nd hi;omega
 |succ n ih=>
  intro h i nd hi hn b hb;rw[kQ]at h
  cases e:kQ bits ns n with
  |none=>rw[e]at h;cases h
  |some a3=>
   rcases aqX i n with h'|h'
   ·
    exact ih e i nd h' hn b hb
   obtain rfl:i=n:=by omega
   rw[e,asd]at h;split at h
   ·
    cases h
   rw[getD_some hn]at h;have:=(abK h).2 b hb;omega
theorem abM{bits:Int}{ns:List Nd}(h:(kR bits ns).isSome=true){i:Nat}{nd:Nd}(hn:ns[i]? =some nd){b:Nat}(hb:b<16):0<=(nd.sl b).len/\(nd.sl b).len<=129:=by
 obtain⟨_,PQ,_⟩:=F4 h;rw[kR]at h;split at h
 ·
  obtain⟨a,ha⟩:=arV.1 h;have:=abL ha i nd (ad2.1 hn).1 hn b hb;omega
 cases h
def chain(ns:List Nd)(k:Key):Nat->Nat
 |0=>0
 |n+1=>((ns.getD (chain ns k n) Nd.zero).nx (gx k n)).toNat
theorem F5{ns:List Nd}{k:Key}(h:RG ns)(h0:0<ns.length): ∀n,chain ns k n<ns.length
 |0=>h0
 |n+1=>by
  have ih:=F5 (k:=k) h h0 n;obtain⟨nd,hn⟩: ∃nd,ns[chain ns k n]? =some nd:=⟨ns[chain ns k n],by simp[ih]⟩;have:=h _ nd hn (gx k n) (uN k n);rw[chain,getD_some hn];omega
def CJ(ns:List Nd)(k:Key)(n:Nat):Nat:=((List.range n).find? fun j=>chain ns k (j+1)==0).getD n
theorem abN{ns:List Nd}{k:Key}{n i:Nat}(hi:i<n)(h: ∀j,j<i->chain ns k (j+1)≠0)(h0:chain ns k (i+1)=0):CJ ns k n=i:=by
 unfold CJ;have:(List.range n).find? (fun j=>chain ns k (j+1)==0)=some i:=by
  rw[List.find?_range_eq_some];exact⟨by simpa using h0,by simpa using hi,fun j hj=>by simpa using h j hj⟩
 rw[this];rfl
theorem abO{ns:List Nd}{k:Key}{n:Nat}(h: ∀j,j<n->chain ns k (j+1)≠0):CJ ns k n=n:=by
 unfold CJ;have:(List.range n).find? (fun j=>chain ns k (j+1)==0)=none:=by
  rw[List.find?_range_eq_none];intro j hj;simpa using h j hj
 rw[this];rfl
def va(ns:List Nd)(k:Key)(n:Nat):List Int:=(List.range (n+1)).map fun j=>((chain ns k j:Nat):Int)
theorem abP(ns:List Nd)(k:Key)(n:Nat):va ns k (n+1)=va ns k n++[((chain ns k (n+1):Nat):Int)]:=by simp[va,ar1]
theorem CK(ns:List Nd)(k:Key)(n:Nat):(va ns k n).length=n+1:=by simp[va]
theorem RH{ns:List Nd}{k:Key}{n i:Nat}(h:i<=n):(va ns k n)[i]? =some ((chain ns k i:Nat):Int):=by
 simp[va,show i<n+1 by omega]
def su(bits:Int)(ns:List Nd)(k:Key):Bool:=(kR bits ns).isSome&&decide (dB k bits=k)
def mC(bits:Int)(ns:List Nd)(k:Key):List Int:=if su bits ns k=true then va ns k (CJ ns k (bits/4).toNat)else[]
def oS(ns:List Nd)(k:Key):Nat->gf
 |0=>gf.no
 |n+1=>let s:=(ns.getD (chain ns k n) Nd.zero).sl (gx k n)
  if(oS ns k n).len<s.len then s else oS ns k n
theorem RI{bits:Int}{ns:List Nd}{k:Key}(h:(kR bits ns).isSome=true): ∀n,0<=(oS ns k n).len/\(oS ns k n).len<=129
 |0=>by simp[oS,gf.no]
 |n+1=>by
  obtain⟨h1,_,h3,_⟩:=F4 h;have ih:=RI (k:=k) h n;have hl:=F5 (k:=k) h1 (by omega) n;obtain⟨nd,hn⟩: ∃nd,ns[chain ns k n]? =some nd:=⟨ns[chain ns k n],by simp[hl]⟩;have:=abM h hn (uN k n);simp only[oS,getD_some hn];split<;>omega
theorem RJ{bits:Int}{ns:List Nd}{k:Key}:(mC bits ns k).length=0↔su bits ns k=false:=by
 unfold mC;split
 ·
  rename_i h;simp[CK,h]
 rename_i h;simpa using h
theorem abQ{bits:Int}{ns:List Nd}{k:Key}{i:Nat}(h:i<(mC bits ns k).length):(mC bits ns k)[i]? =some ((chain ns k i:Nat):Int):=by
 unfold mC at h⊢;split at h
 ·
  rename_i hk;rw[if_pos hk];rw[CK]at h;exact RH (by omega)
 simp at h
def yh(bits:Int)(ns:List Nd)(k:Key):gf:=oS ns k (mC bits ns k).length
def rn(bits:Int)(ns:List Nd)(k:Key):Int:=if su bits ns k=true then(if(yh bits ns k).len=0 then 6 else 0)else 1
def yi(bits:Int)(ns:List Nd)(k:Key):Int:=if rn bits ns k=0 then(yh bits ns k).len -1 else 0
def yj(bits:Int)(ns:List Nd)(k:Key):UInt16:=if rn bits ns k=0 then(yh bits ns k).cx else 0
section
variable {bits:Int} {W:List Wy} {R:List Rt}
end
section
variable {bits:Int} {t:List Rt}
end
def lD(p:Nat->Bool):Nat->Nat->Nat->Nat
 |0,i,_=>i
 |f+1,i,j=>if i<j then(if p ((i+j)/2)=true then lD p f i ((i+j)/2)else lD p f ((i+j)/2+1) j)else i
def bs(p:Nat->Bool)(n:Nat):Nat:=lD p (n+1) 0 n
theorem F6(p:Nat->Bool): ∀(f g i j:Nat),j -i<f->j -i<g->lD p f i j=lD p g i j
 |0,_,_,_,h,_=>by omega
 |_+1,0,_,_,_,h=>by omega
 |f+1,g+1,i,j,h1,h2=>by
  rw[lD,lD];split
  ·
   split
   ·
    exact F6 p f g _ _ (by omega) (by omega)
   exact F6 p f g _ _ (by omega) (by omega)
  rfl
theorem RL{p:Nat->Bool}{f i j:Nat}(h:i<j)(hf:j -i<f):lD p f i j=if p ((i+j)/2)=true then lD p f i ((i+j)/2)else lD p f ((i+j)/2+1) j:=by
 match f,hf with
 |f+1,hf=>
  rw[lD,if_pos h];split
  ·
   exact F6 p f (f+1) _ _ (by omega) (by omega)
  exact F6 p f (f+1) _ _ (by omega) (by omega)
theorem abR{p:Nat->Bool}{f i j:Nat}(h: ¬i<j)(hf:0<f):lD p f i j=i:=by
 match f,hf with
 |f+1,_=>rw[lD,if_neg h]
theorem Kv{p:Nat->Bool}{n:Nat}(hm: ∀a b,a<=b->b<n->p a=true->p b=true): ∀(f i j:Nat),j -i<f->i<=j->j<=n->(∀a,a<i->p a=false)->(∀a,j<=a->a<n->p a=true)->
  lD p f i j<=n/\(∀a,a<lD p f i j->p a=false)/\ ∀a,lD p f i j<=a->a<n->p a=true
 |0,_,_,h,_,_,_,_=>by omega
 |f+1,i,j,h,ni,vI,h1,h2=>by
  rw[lD];split
  ·
   rename_i bb;split
   ·
    rename_i hp;exact Kv hm f _ _ (by omega) (by omega) (by omega) h1 fun a ha han=>hm _ a ha han hp
   ·
    rename_i hp;refine Kv hm f _ _ (by omega) (by omega) vI (fun a ha=>?_) h2
    cases qy:p a with
    |false=>rfl
    |true=>exact absurd (hm a ((i+j)/2) (by omega) (by omega) qy) hp
  ·
   obtain rfl:i=j:=by omega
   exact⟨vI,h1,h2⟩
theorem RM{p:Nat->Bool}{n:Nat}(hm: ∀a b,a<=b->b<n->p a=true->p b=true):bs p n<=n/\(∀a,a<bs p n->p a=false)/\ ∀a,bs p n<=a->a<n->p a=true:=
 Kv hm (n+1) 0 n (by omega) (arn _) (aqY _) (fun a ha=>by omega) (fun a h1 h2=>by omega)
def behind(t:List Rt)(q:bo)(j:Nat):Bool:=match t[j]?with
 |some r=> !dt r.p q
 |none=>true
def cK(t:List Rt)(q:bo):Nat:=bs (behind t q) t.length
def ko(t:List Rt)(q:bo):Bool:=match t[cK t q]?with
 |some r=>decide (r.p=q)
 |none=>false
theorem Kw{p:Nat->Bool}: ∀(f i j:Nat),i<=j->lD p f i j<=j
 |0,_,_,h=>h
 |f+1,i,j,h=>by
  rw[lD];split
  ·
   split
   ·
    exact atu (Kw f _ _ (by omega)) (by omega)
   exact Kw f _ _ (by omega)
  exact h
theorem Kx(t:List Rt)(q:bo):cK t q<=t.length:=Kw _ _ _ (arn _)
theorem abS(t:List Rt)(q:bo):ko t q=(decide (((cK t q:Nat):Int)<(t.length:Int))&&decide ((t.getD (cK t q) iS).p=q)):=by
 rcases aqX (cK t q) t.length with h|h
 ·
  have e:t[cK t q]? =some t[cK t q]:=by simp[h]
  rw[ko,e,arI,e];simp[h]
 rw[ko,aqV h,decide_eq_false (by omega)];rfl
theorem F7{t:List Rt}(h:bJ t=true): ∀(i j:Nat) (a b:Rt),i<j->t[i]? =some a->t[j]? =some b->dt a.p b.p=true:=by
 intro i j
 induction j with
 |zero=>intro a b ni;omega
 |succ j ih=>
  intro a b ni ha hb;have iO:=(ad2.1 hb).1;obtain⟨c,hc⟩: ∃c,t[j]? =some c:=⟨t[j],by simp[show j<t.length by omega]⟩;have oT:dt c.p b.p=true:=by
   cases hx:dt c.p b.p with
   |true=>rfl
   |false=>
    have:=EC iO (by rw[ED hb hc,hx];simp);rw[this]at h;cases h
  rcases aqX i j with h1|h1
  ·
   have hac:=ih a c h1 ha hc;have m1:=tq h (anc ha);have m2:=tq h (anc hb);have m3:=tq h (anc hc);rw[mS m1 m3]at hac;rw[mS m3 m2]at oT;rw[mS m1 m2];omega
  obtain rfl:i=j:=by omega
  obtain rfl:=aqP (ha.symm.trans hc);exact oT
theorem oU{p:bo}(h:bj p=true):dt p p=false:=by
 cases hx:dt p p with
 |false=>rfl
 |true=>rw[mS h h]at hx;omega
theorem RN{t:List Rt}(h:bJ t=true){q:bo}(hq:bj q=true)(a b:Nat)(ue:a<=b)(hb:b<t.length)(ha:behind t q a=true):behind t q b=true:=by
 obtain⟨x,hx⟩: ∃x,t[a]? =some x:=⟨t[a],by simp[show a<t.length by omega]⟩;obtain⟨y,hy⟩: ∃y,t[b]? =some y:=⟨t[b],by simp[hb]⟩;simp only[behind,hx,hy,arX]at ha⊢;rcases aqX a b with h1|h1
 ·
  have hl:=F7 h a b x y h1 hx hy;have m1:=tq h (anc hx);have m2:=tq h (anc hy)
  cases hz:dt y.p q with
  |false=>rfl
  |true=>
   rw[mS m1 m2]at hl;rw[mS m2 hq]at hz;have:dt x.p q=true:=by rw[mS m1 hq];omega
   rw[this]at ha;cases ha
 obtain rfl:a=b:=by omega
 obtain rfl:=aqP (hx.symm.trans hy);exact ha
theorem F8{t:List Rt}(h:bJ t=true){q:bo}(hq:bj q=true){r:Rt}(hr:r∈t)(e:r.p=q):t[cK t q]? =some r/\ko t q=true:=by
 obtain⟨h1,h2,h3⟩:=RM (p:=behind t q) (n:=t.length) fun a b=>RN h hq a b;obtain⟨i,hi⟩:=ash.1 hr;have dD:=(ad2.1 hi).1;have e1:cK t q=i:=by
  have RO:behind t q i=true:=by simp only[behind,hi,e,oU hq];rfl
  rcases atC (cK t q) i with h4|h4|h4
  ·
   obtain⟨x,hx⟩: ∃x,t[cK t q]? =some x:=⟨t[cK t q],by simp[show cK t q<t.length by omega]⟩;have h5:=h3 (cK t q) (aqY _) (by omega);have h6:=F7 h _ _ x r h4 hx hi;simp only[behind,hx]at h5;rw[e]at h6;rw[h6]at h5;cases h5
  ·
   exact h4
  have:=h2 i h4;rw[this]at RO;cases RO
 rw[ko,e1,hi];exact⟨rfl,by simp[e]⟩
theorem yk{t:List Rt}{q:bo}(h:ko t q=true): ∃r∈t,t[cK t q]? =some r/\r.p=q:=by
 rw[ko]at h
 cases e:t[cK t q]?with
 |none=>rw[e]at h;cases h
 |some r=>rw[e]at h;exact⟨r,anc e,rfl,by simpa using h⟩
section
variable {t:List Rt} {k:Key} {bits:Int}
end
structure Ord(t:List Rt):Prop where
 may: ∀r∈t,bj r.p=true
 less:t.Pairwise fun a b=>dt a.p b.p=true
theorem kr{t:List Rt}(h:bJ t=true):Ord t:=⟨fun _ hr=>tq h hr,by
 rw[ar3];intro i j hi hj ni;exact F7 h i j _ _ ni (by simp[hi]) (by simp[hj])⟩
theorem RP{t:List Rt}(h:Ord t)(hl:t.length<=256):bJ t=true:=by
 refine Oj hl ?_;have key: ∀n,n<=t.length->rO t n=true:=by
  intro n
  induction n with
  |zero=>intro _;rfl
  |succ n ih=>
   intro hn;rw[IH,ih (by omega),arH];have hi:t[n]? =some t[n]:=by simp[show n<t.length by omega]
   have hm:=h.may _ (anc hi)
   cases n with
   |zero=>rw[II hi,hm]
   |succ m=>
    have hq:t[m]? =some t[m]:=by simp[show m<t.length by omega]
    rw[ED hi hq,hm,arH];exact(ar3.1 h.less) m (m+1) (by omega) (by omega) (by omega)
 exact key _ (aqY _)
theorem Ord.sub{s t:List Rt}(h:Ord t)(hs:s.Sublist t):Ord s:=⟨fun r hr=>h.may r (hs.subset hr),h.less.sublist hs⟩
theorem Ord.uniq{t:List Rt}(h:Ord t){a b:Rt}(ha:a∈t)(hb:b∈t)(e:a.p=b.p):a=b:=by
 obtain⟨i,hi,rfl⟩:=asq ha;obtain⟨j,hj,rfl⟩:=asq hb;have hp:=ar3.1 h.less;have hm:=h.may _ hb;rcases atC i j with h1|h1|h1
 ·
  have:=hp i j hi hj h1;rw[e,oU hm]at this;cases this
 ·
  subst h1;rfl
 have:=hp j i hj hi h1;rw[e,oU hm]at this;cases this
theorem Ord.nodup{t:List Rt}(h:Ord t):t.Nodup:=h.less.imp_of_mem fun{a b} ha _ ue e=>by
 subst e;rw[oU (h.may _ ha)]at ue;cases ue
def cov(r:Rt)(p:bo):Bool:=decide (r.p≠p)&&Xr r.p p
def abT(t:List Rt)(p:bo):Option Rt:=t.reverse.find? fun r=>cov r p
def amN(t:List Rt)(r:Rt):Bool:=match abT t r.p with
 |none=>true
 |some o=> !decide (o.cx=r.cx)
def wL(t:List Rt)(p:bo):Bool:=bJ t&&bj p
def ym(t:List Rt)(p:bo):Option Rt:=if ko t p=true then t[cK t p]?else none
def yn(t:List Rt)(p:bo):UInt16:=if wL t p=true then((ym t p).getD iS).cx else 0
def vb(t:List Rt)(p:bo):Int:=if wL t p=true then(if(ym t p).isSome=true then 0 else 6)else 1
theorem abU{t:List Rt}(h:bJ t=true){r:Rt}(hr:r∈t):ym t r.p=some r:=by
 obtain⟨h1,h2⟩:=F8 h (tq h hr) hr rfl;rw[ym,if_pos h2,h1]
theorem RQ{t:List Rt}(h:bJ t=true){r:Rt}(hr:r∈t):vb t r.p=0/\yn t r.p=r.cx:=by
 have bF:wL t r.p=true:=by rw[wL,h,tq h hr];rfl
 rw[vb,yn,if_pos bF,if_pos bF,abU h hr];exact⟨rfl,rfl⟩
theorem abV{t:List Rt}(h:bJ t=true){p:bo}(he:vb t p=0): ∃r∈t,r.p=p/\yn t p=r.cx:=by
 unfold vb at he;split at he
 ·
  rename_i bF;split at he
  ·
   rename_i hs;obtain⟨r,hr⟩:=arV.1 hs;unfold ym at hr;split at hr
   ·
    rename_i hp;obtain⟨q,h1,h2,h3⟩:=yk hp;rw[h2]at hr;cases hr;exact⟨r,h1,h3,by rw[yn,if_pos bF,ym,if_pos hp,h2];rfl⟩
   cases hr
  cases he
 cases he
structure Ch where
 r:Rt
 gone:Bool
 deriving DecidableEq
def RR:Ch:=⟨iS,false⟩
def ia(x:Ch):Array Value:=aA x.r++ #[.bool x.gone]
theorem RS(x:Ch):(ia x).size=20:=by unfold ia;rw[atn,k8];rfl
theorem RT(x:Ch)(j:Nat)(h:j<19):(ia x)[j]? =(aA x.r)[j]? :=by
 unfold ia;rw[asO (by rw[k8];exact h)]
theorem abW(x:Ch):(ia x)[19]? =some (.bool x.gone):=by
 unfold ia;rw[Array.getElem?_append_right (by rw[k8];omega),k8];rfl
def dU(t:List Rt)(c:Ch):Int:=if bj c.r.p=true then(if ko t c.r.p=true then 0 else if c.gone=true then 6 else if 256<=t.length then 5 else 0)else 1
def gJ(t:List Rt)(c:Ch):List Rt:=
 if dU t c=0 then(if c.gone=true then t.take (cK t c.r.p)++t.drop (cK t c.r.p+1)else if ko t c.r.p=true then t.set (cK t c.r.p) c.r else t.take (cK t c.r.p)++c.r::t.drop (cK t c.r.p))else t
theorem RU{t:List Rt}(h:t.length<=256)(c:Ch):(gJ t c).length<=256:=by
 unfold gJ;split
 ·
  rename_i he;split
  ·
   simp only[af0,aqT,aq9];omega
  split
  ·
   simpa using h
  rename_i h1 h2;have:t.length<256:=by
   apply arf;intro hn;unfold dU at he;rw[if_neg h2,if_neg h1,if_pos (show 256<=t.length by omega)]at he;split at he<;>omega
  have hp:=Kx t c.r.p;simp only[af0,aqT,aqQ,aq9];omega
 exact h
def gK:List Rt->List Ch->List Rt×Int
 |t,[]=>(t,0)
 |t,c::l=>if dU t c=0 then gK (gJ t c) l else(t,dU t c)
theorem RW{t:List Rt}{l:List Ch}{i:Nat}{c:Ch}(hc:l[i]? =some c):gK t (l.drop i)=if dU t c=0 then gK (gJ t c) (l.drop (i+1))else(t,dU t c):=by
 obtain⟨hi,rfl⟩:=ad2.1 hc;rw[asV hi,gK]
def dm(t:List Rt)(l:List Ch):Int:=if bJ t=true then(gK t l).2 else 1
def cf(t:List Rt)(l:List Ch):List Rt:=if dm t l=0 then(gK t l).1 else t
end Go.Kb
namespace Go.ax
def vc:Nat->Value->Value->Prop
 |0, .int k _, .int k' _=>k=k'
 |1, .bool _, .bool _=>True
 |2, .string _, .string _=>True
 |_,_,_=>False
def qz:Value->Bool
 | .agg _=>true
 |_=>false
def AD(P:Program)(d:Nat)(t:TypeId)(j6:Bool)(ks:List Nat):Prop:=
 ∀(w:World) (x y:Value),qz x=j6->qz y=j6->x.cells.size=ks.length->y.cells.size=ks.length->
  (∀(i k:Nat),ks[i]? =some k-> ∃u v,x.cells[i]? =some u/\y.cells[i]? =some v/\vc k u v)->
  ∃r:Bool,(Op.equalIn d t x y).run P w= .ok r w/\(r=true↔ ∀i,i<ks.length->x.cells[i]? =y.cells[i]?)
section
variable {P:Program} {d:Nat} {t:TypeId}
theorem cells_one{x:Value}(h:qz x=false):x.cells= #[x]:=by
 cases x<;>simp_all[qz,Value.cells]
theorem Ky{q:IntKind}(hu:P.underlying t=some (.int q)):AD P (d+1) t false [0]:=fun w x y hx hy _ _ hk=>by
 obtain⟨u,v,h1,h2,h3⟩:=hk 0 0 rfl;rw[cells_one hx]at h1⊢;rw[cells_one hy]at h2⊢;simp at h1 h2;subst h1 h2
 cases x<;>cases y<;>simp only[vc]at h3
 subst h3;exact⟨_,run_equalIn_int w d t _ q _ _ hu,by simp⟩
theorem RX{e:TypeId}{j6:Bool}{n:Nat}(hA: ∃de,P.underlying e=some de/\vJ de=j6)(hn:(P.info? e).map (·.size)=some n)(h1:j6=false->n=1)
  {xs:Array Value} {off:Nat} (bb:off+n<=xs.size) (hp: ∀i u,off<=i->i<off+n->xs[i]? =some u->qz u=false) (w:World):
  ∃a,(part e xs off).run P w= .ok a w/\qz a=j6/\a.cells.size=n/\ ∀i,i<n->a.cells[i]? =xs[off+i]? :=by
 obtain⟨de,hu,hr⟩:=hA
 cases j6 with
 |true=>
  refine⟨.agg (xs.extract off (off+n)),?_,rfl,by simp[Value.cells];omega,fun i hi=>?_⟩
  ·
   simp only[part,Sem.run_bind,BC w hu,hr,Result.andThen_ok,if_true,kY w hn,Sem.run_pure]
  ·
   simp[Value.cells,Array.getElem?_extract];intro h;omega
 |false=>
  have:=h1 rfl;subst this;have hx:xs[off]? =some xs[off]:=by simp[show off<xs.size by omega]
  have Kz:=hp off _ (aqY _) (by omega) hx;refine⟨xs[off],?_,Kz,by rw[cells_one Kz];rfl,fun i hi=>?_⟩
  ·
   simp only[part,Sem.run_bind,BC w hu,hr,Result.andThen_ok,hx,arv,if_false,Sem.run_pure]
  ·
   obtain rfl:i=0:=by omega
   rw[cells_one Kz,arP,hx];rfl
theorem RY{k:Nat}{u v:Value}(h:vc k u v):qz u=false/\qz v=false:=by
 unfold vc at h;split at h<;>simp_all[qz]
structure tK(P:Program)(d:Nat)(e:TypeId)(j6:Bool)(ks:List Nat):Prop where
 row: ∃de,P.underlying e=some de/\vJ de=j6
 size:(P.info? e).map (·.size)=some ks.length
 one:j6=false->ks.length=1
 eq:AD P d e j6 ks
theorem RZ{e:TypeId}{j6:Bool}{ks:List Nat}(he:tK P d e j6 ks){xs ys:Array Value}{off:Nat}(hx:off+ks.length<=xs.size)(hy:off+ks.length<=ys.size)
  (hk: ∀(i k:Nat),ks[i]? =some k-> ∃u v,xs[off+i]? =some u/\ys[off+i]? =some v/\vc k u v) (w:World):
  ∃a b r,(part e xs off).run P w= .ok a w/\(part e ys off).run P w= .ok b w/\(Op.equalIn d e a b).run P w= .ok r w/\(r=true↔ ∀i,i<ks.length->xs[off+i]? =ys[off+i]?):=by
 have plain: ∀i,off<=i->i<off+ks.length-> ∃u v k,xs[i]? =some u/\ys[i]? =some v/\vc k u v:=fun i h1 h2=>by
  obtain⟨u,v,h3,h4,h5⟩:=hk (i -off) _ (aqR (by omega));rw[show off+(i -off)=i by omega]at h3 h4;exact⟨u,v,_,h3,h4,h5⟩
 obtain⟨a,a1,a2,a3,a4⟩:=RX he.row he.size he.one hx (fun i u h1 h2 h3=>by
  obtain⟨u',v,k,h4,h5,h6⟩:=plain i h1 h2;rw[h4]at h3;cases h3;exact(RY h6).1) w
 obtain⟨b,b1,b2,b3,b4⟩:=RX he.row he.size he.one hy (fun i u h1 h2 h3=>by
  obtain⟨u',v,k,h4,h5,h6⟩:=plain i h1 h2;rw[h5]at h3;cases h3;exact(RY h6).2) w
 obtain⟨r,r1,r2⟩:=he.eq w a b a2 b2 a3 b3 (fun i k nB=>by
  obtain⟨u,v,h1,h2,h3⟩:=hk i k nB;have hi:i<ks.length:=(ad2.1 nB).1;exact⟨u,v,by rw[a4 i hi];exact h1,by rw[b4 i hi];exact h2,h3⟩)
 refine⟨a,b,r,a1,b1,r1,r2.trans ⟨fun h i hi=>?_,fun h i hi=>?_⟩⟩
 ·
  rw[←a4 i hi,←b4 i hi];exact h i hi
 ·
  rw[a4 i hi,b4 i hi];exact h i hi
theorem R0{e:TypeId}{j6:Bool}{ks:List Nat}(he:tK P d e j6 ks){xs ys:Array Value}(w:World): ∀(is:List Nat),
  (∀j∈is,j*ks.length+ks.length<=xs.size/\j*ks.length+ks.length<=ys.size/\ ∀(i k:Nat),ks[i]? =some k-> ∃u v,xs[j*ks.length+i]? =some u/\ys[j*ks.length+i]? =some v/\vc k u v)->
  ∃r:Bool,(Op.eqItems d e ks.length xs ys is).run P w= .ok r w/\(r=true↔ ∀j∈is,∀i,i<ks.length->xs[j*ks.length+i]? =ys[j*ks.length+i]?)
 |[],_=>⟨true,by simp[Op.eqItems],by simp⟩
 |j::is,h=>by
  obtain⟨h1,h2,h3⟩:=h j (by simp);obtain⟨a,b,r,p1,p2,p3,vd⟩:=RZ he h1 h2 h3 w;obtain⟨r',KA,KB⟩:=R0 he w is (fun j' iP=>h j' (by simp[iP]));simp only[Op.eqItems,Sem.run_bind,p1,p2,p3,Result.andThen_ok]
  cases r
  ·
   refine⟨false,by simp,?_⟩;simp only[arv,false_iff];intro e;exact absurd (vd.2 (e j (by simp))) (by simp)
  ·
   refine⟨r',by simpa using KA,?_⟩;rw[KB];have:=vd.1 rfl;constructor
   ·
    intro e j' iP;rcases aqW.1 iP with rfl|iP
    ·
     exact this
    ·
     exact e j' iP
   ·
    intro e j' iP;exact e j' (by simp[iP])
theorem Ah{ks:List Nat}: ∀{n j i:Nat},j<n->i<ks.length->(List.replicate n ks).flatten[j*ks.length+i]? =ks[i]?
 |0,j,i,h,_=>by omega
 |n+1,0,i,_,hi=>by
  rw[atJ,asl,Nat.zero_mul,ary,aq4 hi]
 |n+1,j+1,i,h,hi=>by
  rw[atJ,asl,aq3 (by rw[ars];omega),ars,show j*ks.length+1*ks.length+i -ks.length=j*ks.length+i by omega];exact Ah (by omega) hi
theorem abX{e:TypeId}{n:Nat}{j6:Bool}{ks:List Nat}(hu:P.underlying t=some (.array n e))(he:tK P d e j6 ks):AD P (d+1) t true (List.replicate n ks).flatten:=fun w x y hx hy sx sy hk=>by
 cases x<;>simp only[qz,arv]at hx
 cases y<;>simp only[qz,arv]at hy
 rename_i xs ys;simp only[Value.cells]at sx sy hk⊢;have hl:(List.replicate n ks).flatten.length=n*ks.length:=by simp
 rw[hl]at sx sy⊢;obtain⟨i,hi⟩: ∃i,P.info? e=some i:=by
  cases h:P.info? e with
  |none=>have:=he.size;simp[h]at this
  |some i=>exact⟨i,rfl⟩
 have hc:P.cellsOf e=ks.length:=by have:=he.size;simp[Program.cellsOf,hi]at this⊢;exact this
 have bound: ∀j,j<n->j*ks.length+ks.length<=n*ks.length:=fun j hj=>by
  rw[←Nat.succ_mul];exact ara _ hj
 obtain⟨r,hr,vd⟩:=R0 he (xs:=xs) (ys:=ys) w (List.range n) (fun j hj=>by
  have iP:=arw.1 hj;have:=bound j iP;refine⟨by omega,by omega,fun i k nB=>?_⟩;have dD:i<ks.length:=(ad2.1 nB).1;exact hk (j*ks.length+i) k (by rw[Ah iP dD];exact nB))
 refine⟨r,by rw[run_equalIn_array w d xs ys hu hi,hc];exact hr,vd.trans ⟨fun h q hq=>?_,fun h j hj i hi=>?_⟩⟩
 ·
  have Aw:0<ks.length:=by
   rcases asm ks.length with h0|h0
   ·
    rw[h0]at hq;omega
   exact h0
  have h1:q/ks.length<n:=atG (by rw[asj];exact hq);have h2:=h (q/ks.length) (arw.2 h1) (q%ks.length) (asX _ Aw);rw[Nat.div_add_mod']at h2;exact h2
 have:=bound j (arw.1 hj);exact h _ (by omega)
def F9(P:Program)(d:Nat):Nat->List Field->List Nat->Prop
 |_,[],ks=>ks=[]
 |off,f::fs,ks=>f.name≠ "_" ∧f.offset=off∧ ∃j6 k1 k2,ks=k1++k2∧tK P d f.type j6 k1∧F9 P d (off+k1.length) fs k2
theorem R5{xs ys:Array Value}(w:World): ∀(fs:List Field) (off:Nat) (ks:List Nat),F9 P d off fs ks->off+ks.length<=xs.size->off+ks.length<=ys.size->
  (∀(i k:Nat),ks[i]? =some k-> ∃u v,xs[off+i]? =some u/\ys[off+i]? =some v/\vc k u v)->
  ∃r:Bool,(Op.eqFields d xs ys fs).run P w= .ok r w/\(r=true↔ ∀i,i<ks.length->xs[off+i]? =ys[off+i]?)
 |[],off,ks,h,_,_,_=>by
  simp only[F9]at h;subst h;exact⟨true,by simp[Op.eqFields],by simp⟩
 |f::fs,off,ks,h,hx,hy,hk=>by
  obtain⟨hn,ho,j6,k1,k2,rfl,hp,ES⟩:=h;simp only[af0]at hx hy;obtain⟨a,b,r,p1,p2,p3,vd⟩:=RZ hp (xs:=xs) (ys:=ys) (off:=off) (by omega) (by omega) (fun i k nB=>by
   have hi:i<k1.length:=(ad2.1 nB).1;exact hk i k (by rw[aq4 hi];exact nB)) w
  obtain⟨r',KA,KB⟩:=R5 (xs:=xs) (ys:=ys) w fs (off+k1.length) k2 ES (by omega) (by omega) (fun i k nB=>by
   have:=hk (k1.length+i) k (by rw[aq3 (by omega)];simpa using nB);rw[ast];exact this)
  subst ho;simp only[Op.eqFields,hn,ne_eq,not_false_eq_true,if_true,Sem.run_bind,p1,p2,p3,Result.andThen_ok]
  cases r
  ·
   refine⟨false,by simp,?_⟩;simp only[arv,false_iff];intro e;exact absurd (vd.2 fun i hi=>e i (by simp;omega)) (by simp)
  ·
   refine⟨r',by simpa using KA,?_⟩;rw[KB];have:=vd.1 rfl;simp only[af0];constructor
   ·
    intro e i hi
    by_cases h1:i<k1.length
    ·
     exact this i h1
    ·
     have:=e (i -k1.length) (by omega);rw[show f.offset+k1.length+(i -k1.length)=f.offset+i by omega]at this;exact this
   ·
    intro e i hi;have:=e (k1.length+i) (by omega);rw[ast];exact this
theorem R6{fs:Array Field}{ks:List Nat}(hu:P.underlying t=some (.struct fs))(hp:P.stoodInHeld t=false)(hf:F9 P d 0 fs.toList ks):AD P (d+1) t true ks:=fun w x y hx hy sx sy hk=>by
 cases x<;>simp only[qz,arv]at hx
 cases y<;>simp only[qz,arv]at hy
 rename_i xs ys;simp only[Value.cells]at sx sy hk⊢;have kN:P.fieldsOf t=fs:=by simp[Program.fieldsOf,hu]
 obtain⟨r,hr,vd⟩:=R5 (xs:=xs) (ys:=ys) w fs.toList 0 ks hf (by omega) (by omega) (fun i k nB=>by
  have:=hk i k nB;simpa using this)
 refine⟨r,?_,by simpa using vd⟩;rw[run_equalIn_struct w d t xs ys (by rw[kN];exact hu) hp,kN];exact hr
theorem AD.val{j6:Bool}{ks:List Nat}(h:AD P 10000 t j6 ks)(hA:j6=true)(hg:P.eqGuardType P.depth t=false){xs ys:Array Value}{r:Bool}(sx:xs.size=ks.length)(sy:ys.size=ks.length)
  (hk: ∀(i k:Nat),ks[i]? =some k-> ∃u v,xs[i]? =some u/\ys[i]? =some v/\vc k u v) (hr:xs=ys↔r=true):zd P t (.agg xs) (.agg ys) r where
 h w:=by
  subst hA;obtain⟨q,h1,h2⟩:=h w (.agg xs) (.agg ys) rfl rfl sx sy hk;have:q=r:=by
   rw[atx,h2,←hr];simp only[Value.cells];constructor
   ·
    intro e;apply asv;intro i
    by_cases hi:i<ks.length
    ·
     exact e i hi
    ·
     simp[show ¬i<xs.size by omega,show ¬i<ys.size by omega]
   ·
    rintro rfl i _;rfl
  rw[h1,this]
 plain:=hg
 agg:=⟨xs,ys,rfl,rfl⟩
end
end Go.ax
namespace Go.Proofs.YtkggjjnhnjjokaaGreatDoor
open Go.ax Go.Kb
instance (k:Key):fP (bN k) 16:=⟨fR k,by
 rw[arx];intro v hv;simp only[bN,List.mem_toArray,ar0]at hv;obtain⟨i,_,rfl⟩:=hv;rfl⟩
instance (p:bo):fP (db p) 18:=⟨qd p,by
 have h:(bN p.key).all (·.oneCell')=true:=(inferInstance:fP (bN p.key) 16).one;rw[db,Array.all_append,h];simp[Value.oneCell']⟩
instance (p:bo):cg (db p) 0 (.int .i64 p.bits):=⟨xF p⟩
instance (p:bo):cg (db p) 1 (.int .i64 p.len):=⟨xG p⟩
instance (p:bo):nk (db p) 2 16 (bN p.key):=⟨fR _,fun j _=>qS p j⟩
theorem abY(d:Nat):tK Tryz.prog (d+1) 5 false [0]:=⟨⟨_,Tryz.underlying5,rfl⟩,by kernel_rfl,fun _=>rfl,Ky Tryz.underlying5⟩
theorem R7(d:Nat):tK Tryz.prog (d+1) 3 false [0]:=⟨⟨_,Tryz.underlying3,rfl⟩,by kernel_rfl,fun _=>rfl,Ky Tryz.underlying3⟩
theorem R8(d:Nat):tK Tryz.prog (d+1+1) 25 true (List.replicate 16 [0]).flatten:=⟨⟨_,Tryz.underlying25,rfl⟩,by kernel_rfl,(fun h=>by cases h),abX Tryz.underlying25 (abY d)⟩
theorem abZ:Tryz.prog.stoodInHeld 32=false:=by kernel_rfl
theorem R9(d:Nat):tK Tryz.prog (d+1+1+1) 32 true ([0]++([0]++((List.replicate 16 [0]).flatten++[]))):=⟨⟨_,Tryz.underlying32,rfl⟩,by kernel_rfl,(fun h=>by cases h),
 R6 Tryz.underlying32 abZ ⟨by decide,rfl,_,_,_,rfl,R7 _,by decide,rfl,_,_,_,rfl,R7 _,by decide,rfl,_,_,_,rfl,R8 _,rfl⟩⟩
theorem ab0:Tryz.prog.eqGuardType Tryz.prog.depth 25=false:=by kernel_rfl
theorem ab1:Tryz.prog.eqGuardType Tryz.prog.depth 32=false:=by kernel_rfl
instance (a b:Key):zd Tryz.prog 25 (.agg (bN a)) (.agg (bN b)) (decide (a=b)):=
 (R8 9998).eq.val rfl ab0 (fR a) (fR b) (fun i k hk=>by
  have hi:i<16:=(ad2.1 hk).1;have h0:k=0:=by
   have:k∈(List.replicate 16 [0]).flatten:=anc hk;simpa using this
  subst h0;exact⟨_,_,jQ a i hi,jQ b i hi,rfl⟩) (by rw[decide_eq_true_iff];exact⟨Oa,fun h=>by rw[h]⟩)
instance (a b:bo):zd Tryz.prog 32 (.agg (db a)) (.agg (db b)) (decide (a=b)):=
 (R9 9997).eq.val rfl ab1 (qd a) (qd b) (fun i k hk=>by
  have h0:k=0:=by
   have:k∈([0]++([0]++((List.replicate 16 [0]).flatten++[]))):=anc hk;simpa using this
  subst h0;have hi:i<18:=(ad2.1 hk).1
  match i,hi with
  |0,_=>exact⟨_,_,xF a,xF b,rfl⟩
  |1,_=>exact⟨_,_,xG a,xG b,rfl⟩
  |j+2,hi=>rw[atS j 2];exact⟨_,_,(qS a j).trans (jQ _ j (by omega)),(qS b j).trans (jQ _ j (by omega)),rfl⟩) (by rw[decide_eq_true_iff];exact⟨Oc,fun h=>by rw[h]⟩)
theorem wM:bN 0#128=(List.replicate 16 (Value.int .u8 0)).toArray:=by
 apply atF;simp only[bN];refine List.eq_replicate_iff.2 ⟨by simp,fun v hv=>?_⟩;simp only[ar0]at hv;obtain⟨i,_,rfl⟩:=hv;simp[aW]
instance (n m:Int)(k:Key):p8 Tryz.prog 32 [(0, .int .i64 n),(1, .int .i64 m),(2, .agg (bN k))] (.agg (db ⟨n,m,k⟩)):=⟨fun w=>by kernel_rfl⟩
instance:eI Tryz.prog 25 (.agg (bN 0#128)):=⟨by rw[wM];kernel_rfl⟩
instance:eI Tryz.prog 32 (.agg (db ⟨0,0,0#128⟩)):=⟨by unfold db;rw[wM];kernel_rfl⟩
end Go.Proofs.YtkggjjnhnjjokaaGreatDoor
