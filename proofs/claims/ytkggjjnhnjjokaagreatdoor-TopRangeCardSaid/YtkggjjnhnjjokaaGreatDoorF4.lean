/- Part of a proof. -/
import Derived.Test.YtkggjjnhnjjokaaGreatDoorF3
import Derived.Test.YtkggjjnhnjjokaaGreatDoorF1
import Derived.Test.YtkggjjnhnjjokaaGreatDoorF2
import Derived.Maps.Keyed
set_option maxRecDepth 20000
set_option linter.unusedSimpArgs false
set_option linter.unusedVariables false
namespace Go.Proofs.YtkggjjnhnjjokaaGreatDoor
open Go.au Go.Kb
instance ai8:eF Tryz.prog 22 34 19 40:=⟨Tryz.underlying22,by kernel_rfl⟩
instance ai9:eF Tryz.prog 42 32 18 32:=⟨Tryz.underlying42,by kernel_rfl⟩
instance aja:eF Tryz.prog 45 47 20 48:=⟨Tryz.underlying45,by kernel_rfl⟩
instance ajb:dB Tryz.prog 53 (.slice none 0 0):=⟨by kernel_rfl⟩
instance ajc:eF Tryz.prog 53 5 1 1:=⟨Tryz.underlying53,by kernel_rfl⟩
instance ajd:eF Tryz.prog 56 180 4 48:=⟨Tryz.underlying56,by kernel_rfl⟩
instance aje:eF Tryz.prog 57 97 4 16:=⟨Tryz.underlying57,by kernel_rfl⟩
instance ajf:eF Tryz.prog 60 3 1 8:=⟨Tryz.underlying60,by kernel_rfl⟩
instance ajg:eF Tryz.prog 122 225 48 384:=⟨Tryz.underlying122,by kernel_rfl⟩
instance ajh:eF Tryz.prog 178 53 1 24:=⟨Tryz.underlying178,by kernel_rfl⟩
instance aji:eF Tryz.prog 191 269 2 32:=⟨Tryz.underlying191,by kernel_rfl⟩
instance ajj:eF Tryz.prog 366 60 1 24:=⟨Tryz.underlying366,by kernel_rfl⟩
instance ajk:eF Tryz.prog 396 178 1 24:=⟨Tryz.underlying396,by kernel_rfl⟩
instance ajl:eF Tryz.prog 399 402 4 32:=⟨Tryz.underlying399,by kernel_rfl⟩
instance ajm:eF Tryz.prog 443 433 1 8:=⟨Tryz.underlying443,by kernel_rfl⟩
instance:bo ao 19:=⟨jU,fun r=>by
 have h:(aT r.p).all (·.oneCell')=true:=(inferInstance:eZ (aT r.p) 18).one;rw[ao,Array.all_append,h];simp[Value.oneCell']⟩
instance:Deep Rt:=Deep.flat ao 19
instance:fw Rt ao 19:=⟨rfl,fun _=>rfl⟩
instance (r:Rt):eZ (ao r) 19:=⟨jU r,bo.one r⟩
instance (r:Rt):lQ (ao r) 0 18 (aT r.p):=⟨ku _,fun j hj=>by rw[anG];exact nJ r j hj⟩
instance (r:Rt):bT (ao r) 18 (.int .u16 r.hop.toNat):=⟨yr r⟩
instance (r:Rt):bT (ao r) 0 (.int .i64 r.p.bits):=⟨(nJ r 0 (by decide)).trans (wF r.p)⟩
instance (r:Rt):bT (ao r) 1 (.int .i64 r.p.len):=⟨(nJ r 1 (by decide)).trans (wG r.p)⟩
instance (r:Rt):lQ (ao r) 2 16 (aY r.p.key):=⟨fg _,fun j hj=>(nJ r (2+j) (by omega)).trans (pA r.p j)⟩
theorem YD(d:Nat):sa Tryz.prog (d+1) 27 false [0]:=⟨⟨_,Tryz.underlying27,rfl⟩,by kernel_rfl,fun _=>rfl,Is Tryz.underlying27⟩
theorem YE:Tryz.prog.stoodInHeld 34=false:=by kernel_rfl
theorem YF(d:Nat):sa Tryz.prog (d+1+1+1+1) 34 true (([0]++([0]++((List.replicate 16 [0]).flatten++[])))++([0]++[])):=⟨⟨_,Tryz.underlying34,rfl⟩,by kernel_rfl,(fun h=>by cases h),
 Po Tryz.underlying34 YE ⟨by decide,rfl,_,_,_,rfl,Pr _,by decide,rfl,_,_,_,rfl,YD _,rfl⟩⟩
theorem YG:Tryz.prog.eqGuardType Tryz.prog.depth 34=false:=by kernel_rfl
instance (a b:Rt):xY Tryz.prog 34 (.agg (ao a)) (.agg (ao b)) (decide (a=b)):=
 (YF 9996).eq.val rfl YG (jU a) (jU b) (fun i k hk=>by
  have h0:k=0:=by
   have:k∈(([0]++([0]++((List.replicate 16 [0]).flatten++[])))++([0]++[])):=alM hk;simpa using this
  subst h0;have hi:i<19:=(ad2.1 hk).1
  match i,hi with
  |0,_=>exact⟨_,_,(inferInstance:bT (ao a) 0 _).h,(inferInstance:bT (ao b) 0 _).h,rfl⟩
  |1,_=>exact⟨_,_,(inferInstance:bT (ao a) 1 _).h,(inferInstance:bT (ao b) 1 _).h,rfl⟩
  |j+2,hi=>
   rcases anl j 16 with h|h
   ·
    rw[Nat.add_comm j 2];exact⟨_,_,(nJ a _ (by omega)).trans ((pA a.p j).trans (gU _ j h)),(nJ b _ (by omega)).trans ((pA b.p j).trans (gU _ j h)),rfl⟩
   obtain rfl:j=16:=by omega
   exact⟨_,_,yr a,yr b,rfl⟩) (by rw[decide_eq_true_iff];exact⟨TI,fun h=>by rw[h]⟩)
instance:nF Tryz.prog 34 [] (.agg (ao c8)):=⟨fun w=>by unfold ao aT c8;rw[tK];kernel_rfl⟩
instance (p:aJ)(h:UInt16):nF Tryz.prog 34 [(0, .agg (aT p)),(1, .int .u16 h.toNat)] (.agg (ao ⟨p,h⟩)):=⟨fun w=>by kernel_rfl⟩
instance:dB Tryz.prog 34 (.agg (ao c8)):=⟨by unfold ao aT c8;rw[tK];kernel_rfl⟩
end Go.Proofs.YtkggjjnhnjjokaaGreatDoor
namespace Go.Kb
open Go.au
instance:Plain Rt:=⟨fun _=>rfl⟩
instance:fq Rt:=fq.flat fun _ _=>trivial
structure cZ where
 aE:bV
 table:Sl Rt
def dv(x:cZ):Array Value:= #[.int .i64 x.aE.aj.ab, .int .i64 x.aE.aj.size,x.aE.aj.blocks.sv.val, .int .i64 x.aE.aj.ops, .bool x.aE.aj.off,x.aE.aj.bc.sv.val,x.aE.at_.sv.val, .int .u64 x.aE.gen.toNat, .int .i64 x.aE.last,x.table.sv.val]
instance:bo dv 10:=⟨fun _=>rfl,fun x=>by
 simp only[dv,aoR,aoZ,ao8,Sv.one,tg,th,aoT]⟩
instance (x:cZ):eZ (dv x) 10:=⟨rfl,bo.one x⟩
instance (x:cZ):bT (dv x) 1 (.int .i64 x.aE.aj.size):=⟨rfl⟩
instance (x:cZ):bT (dv x) 6 (x.aE.at_.sv.val):=⟨rfl⟩
instance (x:cZ):bT (dv x) 7 (.int .u64 x.aE.gen.toNat):=⟨rfl⟩
instance (x:cZ):bT (dv x) 8 (.int .i64 x.aE.last):=⟨rfl⟩
instance (x:cZ):bT (dv x) 9 (x.table.sv.val):=⟨rfl⟩
instance (x:cZ):lQ (dv x) 0 9 (bX x.aE):=⟨rfl,fun j hj=>by
 match j,hj with
 |0,_=>rfl
 |1,_=>rfl
 |2,_=>rfl
 |3,_=>rfl
 |4,_=>rfl
 |5,_=>rfl
 |6,_=>rfl
 |7,_=>rfl
 |8,_=>rfl⟩
instance (x:cZ):lQ (dv x) 0 6 (aR x.aE.aj):=⟨rfl,fun j hj=>by
 match j,hj with
 |0,_=>rfl
 |1,_=>rfl
 |2,_=>rfl
 |3,_=>rfl
 |4,_=>rfl
 |5,_=>rfl⟩
instance:Deep cZ where
 c:=10
 cells:=dv
 size:=bo.size
 one:=bo.one
 dO h x:=Deep.dO h x.aE/\Deep.dO h x.table
 bU x:= .two (Deep.bU x.aE) (Deep.bU x.table)
 iW h x hs:=⟨Deep.iW h x.aE hs.1,Deep.iW h x.table hs.2.1⟩
 mono w w' x hg hb:=⟨Deep.mono w w' x.aE hg.1 hb,Deep.mono w w' x.table hg.2 hb⟩
instance:fq cZ where
 reach x k:=fq.reach x.aE k\/fq.reach x.table k
 congr h h' x e hg:=⟨fq.congr h h' x.aE (fun k hk=>e k (.inl hk)) hg.1,fq.congr h h' x.table (fun k hk=>e k (.inr hk)) hg.2⟩
variable {w0:World}{L:List ai}
instance{x:cZ}[q:aS w0 L x]:aS w0 L x.aE:=⟨fun w hw=>(q.h w hw).1⟩
instance{x:cZ}[q:aS w0 L x]:aS w0 L x.table:=⟨fun w hw=>(q.h w hw).2⟩
instance{aE:bV}{table:Sl Rt}[q0:aS w0 L aE][q1:aS w0 L table]:aS w0 L (cZ.mk aE table):=⟨fun w hw=>⟨q0.h w hw,q1.h w hw⟩⟩
def mn:cZ:=⟨kD,⟨Sv.none,[]⟩⟩
structure FV where
 aE:VV
 table:List Rt
 deriving DecidableEq
def cy(f:cZ):FV:=⟨vv f.aE,f.table.xs⟩
def pR:FV:=⟨l5,[]⟩
def Bq(b p s:Int):Int:=min (xm b p/2) (lE s)
def Iz(b p s:Int):Int:=mh (Bq b p s) (fy s)
def hG(c:CV):Int:=Bq c.blocks.length c.ab c.size
def qH(c:CV):Int:=Iz c.blocks.length c.ab c.size
def j9(c:CV)(y:Int):List UInt8:=if y -1<0 then[]else kT c y
def oZ(v:VV):List (List UInt8):=v.at_.map (j9 v.aj)
def dR(c:CV):FV×Int:=
 if qH c=0 then(pR,1)
 else if(bL c).2≠0 then(pR,(bL c).2)
 else if((bL c).1.at_.length:Int)≠hG c then(pR,2)
 else if oW (oZ (bL c).1)≠0 then(pR,2)
 else(⟨(bL c).1,mi (oZ (bL c).1)⟩,0)
def kK(c:CV):List (List UInt8):=if(dR c).2=0 then oZ (bL c).1 else[]
theorem Pw{c:CV}(h:qH c=0):dR c=(pR,1)/\kK c=[]:=by
 have e:dR c=(pR,1):=by rw[dR,if_pos h]
 exact⟨e,by rw[kK,e];rfl⟩
theorem Px{c:CV}(h: ¬qH c=0)(h1:(bL c).2≠0):dR c=(pR,(bL c).2)/\kK c=[]:=by
 have e:dR c=(pR,(bL c).2):=by rw[dR,if_neg h,if_pos h1]
 exact⟨e,by rw[kK,e,if_neg h1]⟩
theorem Py{c:CV}(h: ¬qH c=0)(h1:(bL c).2=0)(h2:((bL c).1.at_.length:Int)≠hG c):dR c=(pR,2)/\kK c=[]:=by
 have e:dR c=(pR,2):=by rw[dR,if_neg h,if_neg (fun g=>g h1),if_pos h2]
 exact⟨e,by rw[kK,e];rfl⟩
theorem Pz{c:CV}(h: ¬qH c=0)(h1:(bL c).2=0)(h2:((bL c).1.at_.length:Int)=hG c)(h3:oW (oZ (bL c).1)≠0):dR c=(pR,2)/\kK c=[]:=by
 have e:dR c=(pR,2):=by rw[dR,if_neg h,if_neg (fun g=>g h1),if_neg (fun g=>g h2),if_pos h3]
 exact⟨e,by rw[kK,e];rfl⟩
theorem YH{c:CV}(h: ¬qH c=0)(h1:(bL c).2=0)(h2:((bL c).1.at_.length:Int)=hG c)(h3:oW (oZ (bL c).1)=0):dR c=(⟨(bL c).1,mi (oZ (bL c).1)⟩,0)/\kK c=oZ (bL c).1:=by
 have e:dR c=(⟨(bL c).1,mi (oZ (bL c).1)⟩,0):=by rw[dR,if_neg h,if_neg (fun g=>g h1),if_neg (fun g=>g h2),if_neg (fun g=>g h3)]
 exact⟨e,by rw[kK,e,if_pos rfl]⟩
theorem YI{c:CV}(h:(dR c).2=0): ¬qH c=0/\(bL c).2=0/\((bL c).1.at_.length:Int)=hG c/\oW (oZ (bL c).1)=0:=by
 by_cases h0:qH c=0
 ·
  rw[(Pw h0).1]at h;cases h
 by_cases h1:(bL c).2=0
 ·
  by_cases h2:((bL c).1.at_.length:Int)=hG c
  ·
   by_cases h3:oW (oZ (bL c).1)=0
   ·
    exact⟨h0,h1,h2,h3⟩
   rw[(Pz h0 h1 h2 h3).1]at h;cases h
  rw[(Py h0 h1 h2).1]at h;cases h
 rw[(Px h0 h1).1]at h;exact absurd h h1
def kY(f:FV):Bool:=decide ((dR {f.aE.aj with off:=false}).2=0)&&decide (f.aE.gen=(dR {f.aE.aj with off:=false}).1.aE.gen)&&decide (f.aE.last=(dR {f.aE.aj with off:=false}).1.aE.last)&&decide (f.aE.at_=(dR {f.aE.aj with off:=false}).1.aE.at_)&&decide (f.table=(dR {f.aE.aj with off:=false}).1.table)
theorem YJ{f:FV}:kY f=true↔(dR {f.aE.aj with off:=false}).2=0/\f.aE.gen=(dR {f.aE.aj with off:=false}).1.aE.gen/\f.aE.last=(dR {f.aE.aj with off:=false}).1.aE.last/\f.aE.at_=(dR {f.aE.aj with off:=false}).1.aE.at_/\f.table=(dR {f.aE.aj with off:=false}).1.table:=by
 simp only[kY,anc,decide_eq_true_eq,and_assoc]
def kZ(f:FV)(l:List Ch):FV×Int:=
 if kY f=false then(f,1)
 else if eC f.table l≠0 then(f,eC f.table l)
 else if j7 (cT f.table l) (hG f.aE.aj) (fy f.aE.aj.size)≠0 then(f,j7 (cT f.table l) (hG f.aE.aj) (fy f.aE.aj.size))
 else if kJ (kK {f.aE.aj with off:=false}) (kV (cT f.table l) (hG f.aE.aj) (fy f.aE.aj.size))=[]then(⟨f.aE,cT f.table l⟩,0)
 else(⟨(ic f.aE (kJ (kK {f.aE.aj with off:=false}) (kV (cT f.table l) (hG f.aE.aj) (fy f.aE.aj.size)))).1,if(ic f.aE (kJ (kK {f.aE.aj with off:=false}) (kV (cT f.table l) (hG f.aE.aj) (fy f.aE.aj.size)))).2≠0 then f.table else cT f.table l⟩,(ic f.aE (kJ (kK {f.aE.aj with off:=false}) (kV (cT f.table l) (hG f.aE.aj) (fy f.aE.aj.size)))).2)
def tL(c:CV):FV×Int:=if qH c=0 then(⟨⟨c,[],0,0⟩,[]⟩,1)else(⟨(nr c (hG c)).1,[]⟩,(nr c (hG c)).2)
theorem Br{w0 w:World}{L:List ai}{a:Sl Rt}(h:Mem w0 (own ao 19 a.sv a.xs::L) w):Mem w0 (fz a::L) w:=DJ (fun _ _ h=>h) (fun _ _=>trivial) h
theorem En{w0 w:World}{L:List ai}{f:cZ}(h:Mem w0 (fz f.aE.aj::fz f.aE.at_::fz f.table::L) w):Mem w0 (fz f::L) w:=by
 refine Mem.freeze (es:=[fz f.aE.aj,fz f.aE.at_,fz f.table]) f ⟨⟨h.sat (fz f.aE.aj) (by simp),h.sat (fz f.aE.at_) (by simp)⟩,h.sat (fz f.table) (by simp)⟩ (fun k hk=>?_) h;rcases hk with(hk|hk)|hk
 ·
  exact⟨fz f.aE.aj,by simp,hk⟩
 ·
  exact⟨fz f.aE.at_,by simp,hk⟩
 exact⟨fz f.table,by simp,hk⟩
theorem PA{w0 w:World}{L:List ai}{f:cZ}(h:Mem w0 (fz f.aE.aj::own bt 1 f.aE.at_.sv f.aE.at_.xs::own ao 19 f.table.sv f.table.xs::L) w):Mem w0 (fz f::L) w:=by
 have h1:=wW (a:=f.aE.at_) (h.perm (List.Perm.swap _ _ _));have h2:=Br (a:=f.table) (h1.perm ((List.Perm.cons _ (List.Perm.swap _ _ _)).trans (List.Perm.swap _ _ _)));exact En (h2.perm ((List.Perm.cons _ (List.Perm.swap _ _ _)).trans ((List.Perm.swap _ _ _).trans (List.Perm.cons _ (List.Perm.swap _ _ _)))))
theorem Eo{w0 w:World}{L:List ai}(h:Mem w0 L w):Mem w0 (fz mn::L) w:=
 Mem.freeze (es:=[]) mn ⟨⟨⟨wC,wC⟩,wC⟩,wC⟩ (fun k hk=>by
  rcases hk with(((⟨cc,_⟩|⟨x,hx,_⟩)|⟨cc,_⟩|⟨x,hx,_⟩)|⟨cc,_⟩|⟨x,hx,_⟩)|⟨cc,_⟩|⟨x,hx,_⟩
  all_goals first|exact absurd rfl cc|cases hx) h
theorem zm{w0 w:World}{L:List ai}:Mem w0 L w->Mem w0 (fz (⟨Sv.none,[]⟩:Sl (Sl UInt8))::L) w:=
 Mem.freeze (es:=[]) _ wC (fun k hk=>by
  rcases hk with⟨cc,_⟩|⟨x,hx,_⟩
  ·
   exact absurd rfl cc
  cases hx)
theorem PB(s:Int):0<=lE s/\lE s<=64:=by
 rw[lE,fy];split
 ·
  rename_i h;have:=A7.1 h;omega
 omega
theorem PC(c:CV):hG c<=64:=by
 have:=PB c.size;rw[hG,Bq];omega
theorem YK(b p:Int):0<=xm b p/\xm b p<=448:=by
 rw[xm];split
 ·
  omega
 rename_i h;have h1:0<=b -4/\b -4<=28:=by omega
 have h2:1<=p/\p<=16:=by omega
 exact⟨Int.mul_nonneg h1.1 (by omega),Int.le_trans (ap1 h1.2 h2.2 (by omega) (by omega)) (by decide)⟩
theorem YL{c:CV}(h:(bL c).2=0):(bL c).1.aj=c:=by
 obtain⟨_,_,e⟩:=HQ h;rw[e]
theorem YM{c:CV}(h:(bL c).2=0):c.off=false:=by
 cases ho:c.off with
 |false=>rfl
 |true=>rw[bL,if_neg (by rw[HP h];simp),if_pos ho]at h;cases h
theorem YN{c:CV}(h:(bL c).2=0):pM (bL c).1=true:=by
 have e:{(bL c).1.aj with off:=false}=c:=by rw[YL h,←YM h]
 simp only[pM,e,h,decide_true,aoT]
theorem YO(c:CV)(n:Int):(kT c n).length<=65536:=by
 rw[kT];split
 ·
  exact HJ _
 simp
theorem YP(v:VV):(oZ v).length=v.at_.length:=by rw[oZ,anJ]
theorem YQ(c:CV)(n:Int):(j9 c n).length<=65536:=by
 rw[j9];split
 ·
  simp
 exact YO c n
theorem YR(c:CV):(kK c).length<=64:=by
 rw[kK];split
 ·
  rename_i h;obtain⟨g0,g1,g2,g3⟩:=YI h;have:=PC c;rw[YP];omega
 simp
def mo(f:FV):List (List UInt8):=kK {f.aE.aj with off:=false}
def zn(f:FV)(l:List Ch):Int:=j7 (cT f.table l) (hG f.aE.aj) (fy f.aE.aj.size)
def lK(f:FV)(l:List Ch):List (List UInt8):=kV (cT f.table l) (hG f.aE.aj) (fy f.aE.aj.size)
theorem YS{f:FV}{l:List Ch}(h0:kY f=false):kZ f l=(f,1):=by rw[kZ,if_pos h0]
theorem Ep(f:FV)(l:List Ch):kZ f l=(if kY f=false then(f,1)
 else if eC f.table l≠0 then(f,eC f.table l)
 else if zn f l≠0 then(f,zn f l)
 else if kJ (mo f) (lK f l)=[]then(⟨f.aE,cT f.table l⟩,0)
 else(⟨(ic f.aE (kJ (mo f) (lK f l))).1,if(ic f.aE (kJ (mo f) (lK f l))).2≠0 then f.table else cT f.table l⟩,(ic f.aE (kJ (mo f) (lK f l))).2)):=rfl
theorem YT{f:FV}{l:List Ch}(h0:kY f=true)(h1:eC f.table l≠0):kZ f l=(f,eC f.table l):=by
 rw[Ep,if_neg (by rw[h0];simp),if_pos h1]
theorem YU{f:FV}{l:List Ch}(h0:kY f=true)(h1:eC f.table l=0)(h2:zn f l≠0):kZ f l=(f,zn f l):=by
 rw[Ep,if_neg (by rw[h0];simp),if_neg (fun h=>h h1),if_pos h2]
theorem YV{f:FV}{l:List Ch}(h0:kY f=true)(h1:eC f.table l=0)(h2:zn f l=0)(h3:kJ (mo f) (lK f l)=[]):kZ f l=(⟨f.aE,cT f.table l⟩,0):=by
 rw[Ep,if_neg (by rw[h0];simp),if_neg (fun h=>h h1),if_neg (fun h=>h h2),if_pos h3]
theorem YW{f:FV}{l:List Ch}(h0:kY f=true)(h1:eC f.table l=0)(h2:zn f l=0)(h3: ¬kJ (mo f) (lK f l)=[]):kZ f l=(⟨(ic f.aE (kJ (mo f) (lK f l))).1,if(ic f.aE (kJ (mo f) (lK f l))).2≠0 then f.table else cT f.table l⟩,(ic f.aE (kJ (mo f) (lK f l))).2):=by
 rw[Ep,if_neg (by rw[h0];simp),if_neg (fun h=>h h1),if_neg (fun h=>h h2),if_neg h3]
def PD(f:FV):Bool:=bl f.aE.aj&&decide (f.aE.at_.length<=1000000)&&decide (f.table.length<=1000000)
end Go.Kb
namespace Go.au
open Go.RowKit
theorem zo{P:Program}{fn:Func}{N:bO}{env:Env}{w0:World}{L:List ai}(hf:fn.results= #[]): ∀a w,cm N env a->Mem w0 L w->(results fn a.tmps).run P w= .ok (.tuple #[]) w:=fun a w _ _=>by
 simp[results,hf]
section
variable {P:Program} {w0:World} {env:Env}
theorem Er{N:bO}{L:List ai}{d:Option Tmp}{ty:TypeId}{ps:String}{af:Array Edge}{gd:Option (Nat×Bool)}{t:TypeId}{x:Operand}{p:Addr}{v:Value}[ht:eY P t](hx:ev env x=some (.pointer (some p)))(hc:w0.cell? p=some v):Ry P N w0 env L ⟨d, .load t x,ty,ps,af,gd⟩ v:=
 xZ ht hx fun w hw=>(hw.below.cell (by
  unfold World.cell? at hc
  cases ho:w0.heap[p.block]?with
  |none=>simp[ho]at hc
  |some o=>exact(aoN.1 ho).1)).trans hc
end
section
variable {P:Program} {N:bO} {w0:World} {env:Env} {L:List ai} {l:List Oper} {Q:Exit->Act->World->Prop} {rest:List Oper} {d:Option Tmp} {ty:TypeId} {ps:String} {af:Array Edge} {K:Value->List ai->Prop}
instance bT.one{v:Value}:bT #[v] 0 v:=⟨rfl⟩
theorem PE{t:TypeId}{x:Operand}{v:Value}(hc:v.cells= #[v])(hx:ev env x=some v)(hk: ∀b,Sq P N w0 l Q rest (bZ env d (.pointer (some ⟨b,0,none⟩))) (an b #[v] t::L))(hd:cL N d=true:=by rfl):
  Sq P N w0 l Q (⟨d, .box t x,ty,ps,af,none⟩::rest) env L:=FP hx (by rw[hc];exact hk) hd
theorem PF{t:TypeId}{z:Value}[hz:dB P t z](hc:z.cells= #[z])(hk: ∀b,Sq P N w0 l Q rest (bZ env d (.pointer (some ⟨b,0,none⟩))) (an b #[z] t::L))(hd:cL N d=true:=by rfl):
  Sq P N w0 l Q (⟨d, .alloc t,ty,ps,af,none⟩::rest) env L:=KE (z:=z) (by rw[hc];exact hk) hd
theorem IA{t:TypeId}{x y:Operand}{i b:Nat}{u:Value}{T:TypeId}{v:Value}(hv:v.oneCell'=true)(hx:ev env x=some (.pointer (some ⟨b,0,none⟩)))(hy:ev env y=some v)[ht:eY P t][hh:Has L b #[u] T i]{L':List ai}[hu:eM L i (an b #[v] T) L'](hk:Sq P N w0 l Q rest env L'):
  Sq P N w0 l Q (⟨none, .store t x y,ty,ps,af,none⟩::rest) env L:=dN (cs':= #[v]) hx hy (by show 0<1;decide) hv rfl hk
end
theorem YX{P:Program}{N:bO}{w0:World}{env:Env}{L:List ai}{l:List Oper}{Q:Exit->Act->World->Prop}{rest:List Oper}{ty:TypeId}{ps:String}{af:Array Edge}{t:TypeId}{x y:Operand}{i k p:Nat}{s:Sv}{xs:List UInt8}{a v:UInt8}[ht:eY P t](hx:ev env x=some (.pointer (some ⟨s.b,p,none⟩)))(hy:ev env y=some (.int .u8 v.toNat))[q:dV L s aP 1 xs i](ha:xs[k]? =some a)(fb:p=s.o+k*1){L':List ai}[hu:eM L i (own aP 1 s (xs.set k v)) L'](hk:Sq P N w0 l Q rest env L'):
  Sq P N w0 l Q (⟨none, .store t x y,ty,ps,af,none⟩::rest) env L:=
 jy (j:=0) (n:=1) (a':=v) ht.size hx hy (q:=q) (by omega) ha (by simp[Value.cells,Value.oneCell']) rfl (by omega) (by rfl) hk
def ig(D l:Nat)(r:Loop):ai:=⟨fun k=>k=D\/k=l,fun h=>h D=some (.deferred (some []))/\h l=some (.loop r),fun h h' e s=>by
 rw[e D (.inl rfl),e l (.inr rfl)];exact s⟩
def zp(D:Nat):ai:=⟨fun k=>k=D,fun h=>h D=some (.deferred (some [])),fun _ _ e s=>by rw[e D rfl];exact s⟩
variable {w0:World}{L:List ai}
theorem Mem.putObj{w:World}{e e':ai}{l:Nat}{o:Obj}(h:Mem w0 (e::L) w)(sE: ∀k,e'.fp k->e.fp k)(hl:e.fp l)
  (Fy:e'.sat fun k=>(w.putObj l o).heap[k]?):Mem w0 (e'::L) (w.putObj l o):=
 h.change (i:=0) rfl sE (fun k hk=>World.putObj_heap_other (fun wK=>hk (wK▸hl))) World.putObj_size ⟨rfl,rfl,rfl⟩ Fy
theorem ig.get{w:World}{D l:Nat}{r:Loop}(h:Mem w0 (ig D l r::L) w):w.heap[D]? =some (.deferred (some []))/\w.heap[l]? =some (.loop r):=h.sat (ig D l r) (by simp)
theorem ig.ne{w:World}{D l:Nat}{r:Loop}(h:Mem w0 (ig D l r::L) w):D≠l:=fun e=>by
 have:=ig.get h;rw[e,this.2]at this;cases this.1
theorem Mem.IB{w:World}{D l:Nat}{r:Loop}(r':Loop)(h:Mem w0 (ig D l r::L) w):Mem w0 (ig D l r'::L) (w.putObj l (.loop r')):=by
 have h1:=ig.get h;refine h.putObj (fun k hk=>hk) (.inr rfl) ⟨(World.putObj_heap_other (ig.ne h)).trans h1.1,World.putObj_heap_same (aoN.1 h1.2).1⟩
theorem Mem.PG{w:World}{D l:Nat}{r:Loop}(o:Obj)(h:Mem w0 (ig D l r::L) w):Mem w0 (zp D::L) (w.putObj l o):=by
 have h1:=ig.get h;refine h.putObj (fun k hk=> .inl hk) (.inr rfl) ((World.putObj_heap_other (ig.ne h)).trans h1.1)
theorem Mem.YY{w:World}(r:Loop)(h:Mem w0 L w):Mem w0 (ig w.heap.size (w.heap.size+1) r::L) ((w.alloc (.deferred (some []))).alloc (.loop r)):=by
 refine h.call (E:=[ig w.heap.size (w.heap.size+1) r]) ⟨((Below.refl _ w).alloc (anm _) _).alloc (by simp) _,fun e he=>?_,fun e he k hk=>?_,by simp⟩
 ·
  obtain rfl:e=ig w.heap.size (w.heap.size+1) r:=by simpa using he
  refine⟨(Below.heap_alloc _ _ _ (by simp)).trans (World.alloc_heap_new w _),?_⟩;have:=World.alloc_heap_new (w.alloc (.deferred (some []))) (.loop r);rwa [World.size_alloc]at this
 obtain rfl:e=ig w.heap.size (w.heap.size+1) r:=by simpa using he
 rw[World.size_alloc,World.size_alloc];rcases hk with rfl|rfl<;>omega
def Iter(P:Program)(gf:FuncId)(lb:Array Value)(YZ:Nat->Array Value)(n:Nat)(Es:World->Prop):Prop:=
 ∀(l:Nat) (J Jx:Nat->World->Prop) (W:World),(∀k A B,J k A->Below A.heap.size A B->J k B)->(∀k A B,Jx k A->Below A.heap.size A B->Jx k B)->(∀k A,J k A->Es A)->
  (∀k A,k<n->J k A->YieldAt (gQ none) 0 P l (YZ k) A fun e B=>(e= .returned (.bool true)/\J (k+1) B)\/(e= .returned (.bool false)/\Jx (k+1) B))->J 0 W->
  Calls P gf (#[.func (.yield l) #[] #[]]++lb) W fun e B=>(∃v,e= .returned v)/\(J n B\/ ∃k,Jx k B)
section
variable {P:Program} {N:bO} {w0:World} {env:Env} {L:List ai} {Q:Exit->Act->World->Prop}
def zq{X Y:Type}(w0:World)(r:ai)(LI:X->List ai)(inv:X->Prop)(LJ:Y->List ai)(jn:Y->Prop):Exit->Act->World->Prop
 | .normal,_,w=> ∃x,inv x/\Mem w0 (r::LI x) w
 | .ret,_,w=> ∃y,jn y/\Mem w0 (r::LJ y) w
 |_,_,_=>False
instance ir.round{X Y:Type}{r:ai}{LI:X->List ai}{inv:X->Prop}{LJ:Y->List ai}{jn:Y->Prop}:ir (zq w0 r LI inv LJ jn):=⟨fun _ _ h=>h⟩
def Et:Exit->Act->World->Prop:=fun _ _ _=>False
instance ir.Et:ir Et:=⟨fun _ _ h=>h⟩
def PH(ps:List Tmp)(vs:List Value)(env:Env):Env:=(ps.zip vs).foldl (fun e p=>(p.1,p.2)::e) env
theorem PI{ro:Option Nat}{ds:List Deferred}{n:Nat}: ∀(l:List (Tmp×Value)) (t:Array Value) (env:Env),(∀d v,look env d=some v->t[d]? =some v)->t.size=n->(∀p∈l,p.1<n)->
  (∀d v,look (l.foldl (fun e p=>(p.1,p.2)::e) env) d=some v->(l.foldl (fun t p=>t.setIfInBounds p.1 p.2) t)[d]? =some v)/\(l.foldl (fun t p=>t.setIfInBounds p.1 p.2) t).size=n
 |[],_,_,h,hs,_=>⟨h,hs⟩
 |p::r,t,env,h,hs,hp=>by
  refine PI (ro:=ro) (ds:=ds) r _ _ (fun d v hv=>?_) (by simp[hs]) (fun q hq=>hp q (by simp[hq]));have aZ:p.1<n:=hp p (by simp);simp only[look]at hv;rw[anY]
  by_cases he:p.1=d
  ·
   subst he;simp at hv;simp[hv,hs,aZ]
  ·
   have:Nat.beq p.1 d=false:=Cv he;rw[this]at hv;rw[if_neg he];exact h d v hv
theorem Y0{n:Nat}{ds:List Nat}{g:Operand}{ps:List Tmp}{assign body:Code}{gf:FuncId}{lb:Array Value}[hf:aD P gf]{vals:Nat->List Value}{m:Nat}{Es:World->Prop}
  (hg:ev env g=some (.func (.func gf) #[] lb)) (hit:Iter P gf lb (fun k=>(vals k).toArray) m Es) (xu: ∀k,(vals k).length=ps.length) (PJ: ∀p∈ps,p<n) {jk:Env} (hs:Sub jk env)
  {X Y:Type} (LI:Nat->X->List ai) (inv:Nat->X->Prop) (x0:X) (h0:inv 0 x0) (hL: ∀w,Mem w0 L w->Mem w0 (LI 0 x0) w) (Y1: ∀k x w,inv k x->Mem w0 (LI k x) w->Es w)
  (LJ:Y->List ai) (jn:Y->Prop)
  (Y2: ∀l k x r0,k<m->inv k x->Cw P ⟨n,[],some l⟩ w0 (Exit.then (fun a w=> ∃E LE,cm ⟨n,[],some l⟩ E a/\Mem w0 (r0::LE) w/\ ∀r1,Cw P ⟨n,[],some l⟩ w0 (zq w0 r1 (LI (k+1)) (inv (k+1)) LJ jn) body E (r1::LE)) Et) assign (PH ps (vals k) jk) (r0::LI k x))
  (G1: ∀D x,inv m x->Ex ⟨n,D::ds,none⟩ w0 Q .normal jk (zp D::LI m x))
  (Y3: ∀D y,jn y->Ex ⟨n,D::ds,none⟩ w0 Q .ret jk (zp D::LJ y)):
  Cw P ⟨n,ds,none⟩ w0 Q (.rangeFunc g ps.toArray assign body) env L:=fun a w ha hw=>by
 refine wpIn_rangeFunc (F:=gQ none) (n:=0) fun fn _=>?_;obtain⟨rc,sd⟩: ∃rc:LoopState->Option Code->Loop,rc=fun st pe=>{state:=st,pending:=pe,fn,tmps:=a.tmps,params:=ps.toArray,assign,body,defers:=w.heap.size}:=⟨_,rfl⟩;obtain⟨W1,PK⟩: ∃W1,(w.alloc (.deferred (some []))).alloc (.loop (rc .ready none))=W1:=⟨_,rfl⟩;have Y4:Mem w0 (ig w.heap.size (w.heap.size+1) (rc .ready none)::LI 0 x0) W1:=PK▸(hL _ hw).YY _;refine⟨w.heap.size+1,[mark w.heap.size],W1,{target:= .fn (.func gf) lb,args:= #[.func (.yield (w.heap.size+1)) #[] #[]]},W1,gf,
  #[.func (.yield (w.heap.size+1)) #[] #[]]++lb,W1,?_,?_,?_,?_,fun h=>(by cases h),?_⟩
 ·
  rw[←PK,sd];exact run_enterLoop_outer _ _ _ _ _
 ·
  simp only[resolve,ha.ev hg];simp[go_sem]
 ·
  intro _ _;trivial
 ·
  obtain⟨fu,h1,h2,h3⟩:=hf.fn;have Ah: ¬fu.body=none:=fun e=>by simp[e]at h2
  have uz: ¬fu.name= "runtime.NumGoroutine" :=by simpa using h3
  simp[invoke,callFunc,h1,Ah,uz,Result.andThen]
 ·
  refine Ki ((hit (w.heap.size+1) (fun k W=> ∃x,inv k x/\Mem w0 (ig w.heap.size (w.heap.size+1) (rc .ready none)::LI k x) W)
   (fun _ W=> ∃y,jn y/\Mem w0 (ig w.heap.size (w.heap.size+1) (rc .done (some .ret))::LJ y) W) _
   (fun k A B ⟨x,h1,h2⟩ hb=>⟨x,h1,h2.step hb⟩) (fun k A B ⟨y,h1,h2⟩ hb=>⟨y,h1,h2.step hb⟩)
   (fun k A ⟨x,h1,h2⟩=>Y1 k x A h1 (h2.sub (anT _ _))) ?_ ⟨x0,h0,Y4⟩).mono ?_)
  ·
   rintro k W hk ⟨x,hi,hm⟩;have hl:=(ig.get hm).2;have hy:=run_yield (P:=P) (args:=(vals k).toArray) hl (by rw[sd];simp[xu k]);rw[sd]at hy;refine⟨fn,_,assign,body,hy,roundIn_of_wpIn (F:=gQ none) trivial (wpIn_mono (Y2 (w.heap.size+1) k x _ hk hi _ W ?_ hm) ?_)⟩
   ·
    have hp:=PI (ro:=none) (ds:=[]) (ps.zip (vals k)) a.tmps jk (ha.sub hs).get ha.size (fun p hp=>PJ _ (List.of_mem_zip hp).1);simp only[List.zip_toArray,List.foldl_toArray'];exact⟨by simpa using hp.2,by simpa[PH]using hp.1,rfl⟩
   ·
    rintro e a1 W1 hq
    cases e with
    |normal=>
     obtain⟨E,LE,fJ,vz,Y5⟩:=hq;have py:=(ig.get vz).2;refine⟨_,run_beginRound py (by rw[sd]),wpIn_mono (Y5 _ a1 _ fJ (vz.IB _)) ?_⟩;rintro e a2 W2 qd
     cases e with
     |normal=>
      obtain⟨x',lO,se⟩:=qd;have qI:=(ig.get se).2;have he:=run_endRound (P:=P) none qI;refine⟨_,_,he, .inl ⟨rfl,x',lO,?_⟩⟩;have:=se.IB (rc .ready none);rw[sd]at this⊢;exact this
     |ret=>
      obtain⟨y,hj,se⟩:=qd;have qI:=(ig.get se).2;have he:=run_endRound (P:=P) (some .ret) qI;refine⟨_,_,he, .inr ⟨rfl,y,hj,?_⟩⟩;have:=se.IB (rc .done (some .ret));rw[sd]at this⊢;exact this
     |exit id=>exact qd.elim
     |goto t=>exact qd.elim
     |panic c=>exact qd.elim
     |outgrown=>exact qd.elim
    |exit id=>exact hq.elim
    |goto t=>exact hq.elim
    |ret=>exact hq.elim
    |panic c=>exact hq.elim
    |outgrown=>exact hq.elim
  ·
   rintro e W2 ⟨⟨v,rfl⟩,⟨x,hi,hm⟩|⟨_,y,hj,hm⟩⟩
   ·
    have hl:=(ig.get hm).2;have he:=run_endLoop (P:=P) hl (by rw[sd];simp);rw[sd]at he;refine⟨none,_,he,G1 w.heap.size x hi _ _ ⟨ha.size,(ha.sub hs).get,?_⟩ (hm.PG _)⟩;simp[ha.defers]
   ·
    have hl:=(ig.get hm).2;have he:=run_endLoop (P:=P) hl (by rw[sd];simp);rw[sd]at he;refine⟨some .ret,_,he,wpIn_ret (Y3 w.heap.size y hj _ _ ⟨ha.size,(ha.sub hs).get,?_⟩ (hm.PG _))⟩;simp[ha.defers]
theorem PL{n i D:Nat}{L':List ai}{fn:Func}{R:Ending->World->Prop}{e:Exit}(he:e= .ret\/e= .normal){v:Value}[k1:At L (zp D) i][k2:cI L i L'](hr: ∀a w,cm ⟨n,[],none⟩ env a->Mem w0 L' w->(results fn a.tmps).run P w= .ok v w)(h: ∀w,Mem w0 L' w->R (.returned v) w):Ex ⟨n,[D],none⟩ w0 (n9 P fn R) e env L:=fun a w ha hw=>by
 have hm:Mem w0 (zp D::L') w:=by have:=hw.perm (lU k1.h);rwa [k2.h]at this
 have hD:w.heap[D]? =some (.deferred (some [])):=hm.sat (zp D) (by simp);have se:Mem w0 L' (w.putObj D (.deferred none)):=(hm.putObj (e':= .emp) (fun _ hk=>hk.elim) rfl trivial).sub (anT _ _);have key:LeavesInM (gQ none) 0 P fn a.tmps R a.defers .returning w:=by
  rw[ha.defers];exact⟨by simp, .inl ⟨D,_,rfl,run_takeDeferred hD,v,hr {tmps:=a.tmps,defers:=[]} _ ⟨ha.size,ha.get,rfl⟩ se,h _ se⟩⟩
 rcases he with rfl|rfl
 ·
  exact⟨.inr rfl,key⟩
 exact⟨.inl rfl,key⟩
theorem Y6{X Y:Type}{r:ai}{LI:X->List ai}{inv:X->Prop}{LJ:Y->List ai}{jn:Y->Prop}{NN:bO}(x:X)(hi:inv x)(hL: ∀w,Mem w0 L w->Mem w0 (r::LI x) w):Ex NN w0 (zq w0 r LI inv LJ jn) .normal env L:=fun _ w _ hw=>⟨x,hi,hL w hw⟩
theorem Y7{X Y:Type}{r:ai}{LI:X->List ai}{inv:X->Prop}{LJ:Y->List ai}{jn:Y->Prop}{NN:bO}(y:Y)(hj:jn y)(hL: ∀w,Mem w0 L w->Mem w0 (r::LJ y) w):Ex NN w0 (zq w0 r LI inv LJ jn) .ret env L:=fun _ w _ hw=>⟨y,hj,hL w hw⟩
theorem Y8{NN:bO}{X Y:Type}{LI:X->List ai}{inv:X->Prop}{LJ:Y->List ai}{jn:Y->Prop}{r0:ai}{body:Code}(LE:List ai)(hL: ∀w,Mem w0 L w->Mem w0 (r0::LE) w)(h: ∀r1,Cw P NN w0 (zq w0 r1 LI inv LJ jn) body env (r1::LE)):
  Ex NN w0 (Exit.then (fun a w=> ∃E LE,cm NN E a/\Mem w0 (r0::LE) w/\ ∀r1,Cw P NN w0 (zq w0 r1 LI inv LJ jn) body E (r1::LE)) Et) .normal env L:=fun _ w ha hw=>⟨env,LE,ha,hL w hw,h⟩
end
section
variable {P:Program} {n:Nat} {w0:World} {env:Env} {L:List ai} {Q:Exit->Act->World->Prop} {l:List Oper} {k:Nat} {rest:List Oper}
def Si(P:Program)(n:Nat)(w0:World)(l:List Oper)(Q:Exit->Act->World->Prop)(k:Nat)(rest:List Oper)(env:Env):Prop:=
 l.drop k=rest-> ∀a w,cm ⟨n,[],none⟩ env a->Mem w0 [] w->wpOpsIn (gQ none) 0 P l.toArray Q (List.range' k rest.length) a w
theorem drop_at{α:Type}{l rest:List α}{k:Nat}{o:α}(h:l.drop k=o::rest):l[k]? =some o/\l.drop (k+1)=rest:=by
 constructor
 ·
  have:=congrArg (·[0]?) h;simpa using this
 have:=congrArg (List.drop 1) h;simpa[ap0,Nat.add_comm]using this
theorem Y9{id:Nat}(h:Si P n w0 l Q 0 l env):Cw P ⟨n,[],none⟩ w0 Q (.region id l.toArray false) env []:=fun a w ha hw=>
 wpIn_region (by have:=h rfl a w ha hw;rw[List.range_eq_range'];simpa using this)
theorem PM(h:Ex ⟨n,[],none⟩ w0 Q .normal env []):Si P n w0 l Q k [] env:=fun _ a w ha hw=>h a w ha hw
theorem vA{o:Oper}{v:Value}(h:Ry P ⟨n,[],none⟩ w0 env [] o v)(hk:Si P n w0 l Q (k+1) rest (bZ env o.dst v))(hg:o.guard=none:=by rfl)(hd:cL ⟨n,[],none⟩ o.dst=true:=by rfl):Si P n w0 l Q k (o::rest) env:=fun hl a w ha hw=>by
 obtain⟨h1,h2⟩:=drop_at hl;rw[ang,List.range'_succ];unfold wpOpsIn;simp only[aol,h1];rw[if_pos (oh hg)];refine⟨fun _ _=>trivial,?_⟩;have:=h a w ha hw;rw[show(gQ none).round=none from rfl,Oper.semAt_none,this];exact hk h2 _ _ (ha.put hd v) hw
theorem Za{d:Option Tmp}{ty:TypeId}{ps:String}{af:Array Edge}{t:Tmp}{xs:List Operand}{ts:Array TypeId}{vs:List Value}{lp:Nat}{J Jx:World->Prop}
  (ht:look env t=some (.func (.yield lp) #[] #[])) (hx:ff env xs=some vs) (hy: ∀w,Mem w0 [] w->YieldAt (gQ none) 0 P lp vs.toArray w fun e B=>(e= .returned (.bool true)/\J B)\/(e= .returned (.bool false)/\Jx B))
  (h1: ∀W,J W->Si P n W l Q (k+1) rest (bZ env d (.bool true))) (h2: ∀W,Jx W->Si P n W l Q (k+1) rest (bZ env d (.bool false))) (hd:cL ⟨n,[],none⟩ d=true:=by rfl):
  Si P n w0 l Q k (⟨d, .call {callee:= .value (.tmp t),args:=xs.toArray,argTypes:=ts},ty,ps,af,none⟩::rest) env:=fun hl a w ha hw=>by
 obtain⟨g1,g2⟩:=drop_at hl;rw[ang,List.range'_succ];unfold wpOpsIn;simp only[aol,g1];rw[if_pos (oh rfl)];refine⟨fun _ _=>trivial,?_⟩;obtain⟨fn,tmps,assign,body,e1,e2⟩:=hy w hw;have et:a.eval (.tmp t)= .func (.yield lp) #[] #[]:=ha.ev (x:= .tmp t) ht;have ex:xs.map a.eval=vs:=ha.ff hx;have e3:(execOp a.eval ⟨d, .call {callee:= .value (.tmp t),args:=xs.toArray,argTypes:=ts},ty,ps,af,none⟩).run P w= .ok (.round lp fn tmps assign body) w:=by
  simp[execOp,resolve,et,Deferred.ofValue,invoke,callFunc,ex,e1,Result.andThen]
 rw[show(gQ none).round=none from rfl,Oper.semAt_none,e3];refine⟨fun h=>(by cases h),e2.mono fun e W hW=>?_⟩;rcases hW with⟨rfl,hj⟩|⟨rfl,hj⟩
 ·
  exact h1 W hj g2 _ W (ha.put hd _) (Mem.init W)
 ·
  exact h2 W hj g2 _ W (ha.put hd _) (Mem.init W)
theorem Zb{X:Type}{c:Code}(jk:X->Env)(I:X->World->Prop)(m:X->Nat)(x0:X)(hs:Sub (jk x0) env)(h0: ∀w,Mem w0 L w->I x0 w)
  (round: ∀x W,I x W->Cw P ⟨n,[],none⟩ W (Exit.then (fun a w=> ∃x',m x'<m x/\cm ⟨n,[],none⟩ (jk x') a/\I x' w) Q) c (jk x) []):Cw P ⟨n,[],none⟩ w0 Q (.loop c) env L:=by
 intro a0 w1 FT oo b k cs FU hb hr;have key: ∀n' x,m x=n'-> ∀a w,cm ⟨n,[],none⟩ (jk x) a->I x w->
   ∃e a' w',Q e a' w'/\ArrivesIn (Machine.fenced P (gQ none)) P (lone (b.atR a (.code c:: .inLoop c::k)) cs w) b k cs e a' w':=by
  intro n'
  induction n' using Nat.strongRecOn with
  |_ n' ih=>
   intro x hm a w ha hI;obtain⟨e,oq,ot,hq,ll⟩:=round x w hI a w ha (Mem.init w) b (.inLoop c::k) cs FU hb hr
   cases e with
   |normal=>
    obtain⟨x',aZ,yf,FW⟩:=hq;obtain⟨FX,FY,FZ,F0,F1⟩:=ih (m x') (hm▸aZ) x' rfl oq ot yf FW;exact⟨FX,FY,FZ,F0, .of_steps (StepsIn.trans ll (.one (fenced_calm hb hr rfl) stepR_inLoop)) F1⟩
   |exit id=>exact⟨_,oq,ot,hq, .pass (x:= .inLoop c) rfl (fun _ _=> .inl (by simp)) ll⟩
   |goto l=>exact⟨_,oq,ot,hq, .pass (x:= .inLoop c) rfl (fun _ _=> .inl (by simp)) ll⟩
   |ret=>exact⟨_,oq,ot,hq, .pass (x:= .inLoop c) rfl (fun _ _=> .inl (by simp)) ll⟩
   |panic ch=>exact⟨_,oq,ot,hq, .pass (x:= .inLoop c) rfl (fun _ _=> .inl (by simp)) ll⟩
   |outgrown=>exact⟨_,oq,ot,hq, .pass (x:= .inLoop c) rfl (fun _ _=> .inl (by simp)) ll⟩
 obtain⟨e,a',w',hq,ll⟩:=key _ x0 rfl a0 w1 (FT.sub hs) (h0 w1 oo);exact⟨e,a',w',hq, .of_steps (.one (fenced_calm hb hr rfl) stepR_loop) ll⟩
theorem Zc{X:Type}{jk:X->Env}{I:X->World->Prop}{m:X->Nat}{x:X}(x':X)(hm:m x'<m x)(hs:Sub (jk x') env)(hI: ∀w,Mem w0 [] w->I x' w):
  Ex ⟨n,[],none⟩ w0 (Exit.then (fun a w=> ∃x',m x'<m x/\cm ⟨n,[],none⟩ (jk x') a/\I x' w) Q) .normal env []:=fun _ w ha hw=>⟨x',hm,ha.sub hs,hI w hw⟩
end
def omap(P:Program)(k:TypeId){α β:Type}(cK:α->Value)(dI:β->Value)(b:Nat)(f:α->Option β):ai:=
  ⟨fun i=>i=b,fun h=> ∃(es:Array MapEntry) (clock:Nat) (m:List (α×β)),h b=some (.map es clock)/\es.toList.map (fun e=>(e.key,e.val))=m.map (fun p=>(cK p.1,dI p.2))/\
    (∀p∈m,∃l,keyOf P k (cK p.1)=some l)/\(m.map Prod.fst).Nodup/\(∀x v,f x=some v↔(x,v)∈m),
   fun h h' e st=>by rw[e b rfl];exact st⟩
class zr(P:Program)(t:TypeId)(k e:outParam TypeId):Prop where
  dU:P.underlying t=some (.map k e)
class Bs(P:Program)(k:TypeId):Prop where
  K:Maps.Keyed P k
class Bt{α:Type}(cK:α->Value):Prop where
  inj: ∀{a b:α},cK a=cK b->a=b
class vB(P:Program)(L:List ai)(b:Nat){α β:outParam Type}(k:TypeId)(cK:outParam (α->Value))(dI:outParam (β->Value))(f:outParam (α->Option β))(i:outParam Nat):Prop where
  h:L[i]? =some (omap P k cK dI b f)
instance (priority:=high) vB.here {P:Program}{L:List ai}{b:Nat}{α β:Type}{k:TypeId}{cK:α->Value}{dI:β->Value}{f:α->Option β}:vB P (omap P k cK dI b f::L) b k cK dI f 0:=⟨rfl⟩
instance vB.there{P:Program}{L:List ai}{e:ai}{b:Nat}{α β:Type}{k:TypeId}{cK:α->Value}{dI:β->Value}{f:α->Option β}{i:Nat}[q:vB P L b k cK dI f i]:vB P (e::L) b k cK dI f (i+1):=⟨by simpa using q.h⟩
theorem PN{P:Program}{k:TypeId}{α β:Type}{cK:α→Value}{dI:β→Value}{f:α→Option β}[K:Bs P k][I:Bt cK]{es:Array MapEntry}{m:List (α×β)}(h1:es.toList.map (fun e=>(e.key,e.val))=m.map (fun p=>(cK p.1,dI p.2)))
    (h2: ∀p∈m,∃l,keyOf P k (cK p.1)=some l) (h3: ∀x v,f x=some v↔(x,v)∈m) {x:α} (hx: ∃l,keyOf P k (cK x)=some l) (w:World):
    ((Instr.findKey k (cK x) es.toList).run P w= .ok none w/\f x=none/\ ∀v,(x,v)∉m)\/ ∃(j:Nat) (v:β),(Instr.findKey k (cK x) es.toList).run P w= .ok (some (j,dI v)) w/\m[j]? =some (x,v)/\f x=some v/\(es[j]?).map (·.key)=some (cK x):=by
  have nV: ∀j:Nat,(es.toList[j]?).map (fun e=>(e.key,e.val))=(m[j]?).map (fun p=>(cK p.1,dI p.2)):=fun j=>by rw[←anA,←anA,h1]
  have mD: ∀e∈es.toList,∃l,keyOf P k e.key=some l:=fun e he=>by
    obtain⟨j,hj,rfl⟩:=aoc he;have:=nV j;rw[anC hj]at this
    cases hm:m[j]?with
    |none=>rw[hm]at this;cases this
    |some p=>
     rw[hm]at this;simp only[an8,aoM,ap8]at this;rw[this.1];exact h2 p (alM hm)
  obtain⟨lx,tM⟩:=hx;rcases K.K.find w tM es.toList mD with⟨hr,hn⟩|⟨j,e,hr,hj,hk⟩
  ·have ka: ∀v,(x,v)∉m:=fun v hv=>by
      obtain⟨j,hj,Zd⟩:=aoc hv;have:=nV j;rw[anC hj,Zd]at this
      cases he:es.toList[j]?with
      |none=>rw[he]at this;cases this
      |some e=>
       rw[he]at this;simp only[an8,aoM,ap8]at this;exact hn e (alM he) this.1
   refine .inl ⟨hr,?_,ka⟩
   cases hf:f x with
   |none=>rfl
   |some v=>exact absurd ((h3 x v).1 hf) (ka v)
  ·have:=nV j
   rw[hj]at this
   cases hm:m[j]?with
   |none=>rw[hm]at this;cases this
   |some p=>
    rw[hm]at this;simp only[an8,aoM,ap8]at this;have hp:p.1=x:=I.inj (this.1.symm.trans hk);refine .inr ⟨j,p.2,by rw[hr,this.2],by rw[hm,←hp],(h3 x p.2).2 (by rw[←hp];exact alM hm),?_⟩;have jw:es[j]? =some e:=by simpa using hj
    rw[jw,an8,hk]
section
variable {P:Program} {N:bO} {w0:World} {env:Env} {L:List ai} {d:Option Tmp} {ty:TypeId} {ps:String} {af:Array Edge} {gd:Option (Nat×Bool)} {α β:Type} {cK:α->Value} {dI:β->Value} {f:α->Option β}
theorem run_getObj_map{w:World}{b:Nat}{es:Array MapEntry}{clock:Nat}(h:w.heap[b]? =some (.map es clock)):(getObj b).run P w= .ok (.map es clock) w:=by simp[getObj,Sem.run,h]
theorem run_setObj_map{w:World}{b:Nat}{es:Array MapEntry}{clock:Nat}(o:Obj)(h:w.heap[b]? =some (.map es clock)):(setObj b o).run P w= .ok () (w.putObj b o):=by simp[setObj,Sem.run,h,World.putObj]
theorem IC{t k e:TypeId}{m x:Operand}{b i:Nat}{z:β}{v:α}[ht:zr P t k e][K:Bs P k][I:Bt cK][hz:dB P e (dI z)](hm:ev env m=some (.map (some b)))(hx:ev env x=some (cK v))[q:vB P L b k cK dI f i](hv: ∃l,keyOf P k (cK v)=some l):
    Ry P N w0 env L ⟨d, .lookup t m x true,ty,ps,af,gd⟩ (.tuple #[dI ((f v).getD z), .bool (f v).isSome]):=fun a w ha hw=>by
  obtain⟨es,clock,ml,h0,h1,h2,_,h3⟩:=hw.get q.h;obtain⟨l,hl⟩:=hv;have hc:=K.K.check w es.isEmpty hl;simp only[execOp,ha.ev hm,ha.ev hx,Instr.lookup,Sem.run_bind,run_underlying ht.dU,Result.andThen,run_getObj_map h0,Sem.run_pure,hc];rcases PN (P:=P) (k:=k) h1 h2 h3 ⟨l,hl⟩ w with⟨hr,hf,_⟩|⟨j,u,hr,_,hf,_⟩
  ·simp only[hr,hf,Option.getD_none,Cz w hz,Sem.run_bind,Result.andThen,Sem.run_pure];rfl
  ·simp only[hr,hf,apu,Sem.run_pure];rfl
end
section
variable {P:Program} {N:bO} {w0:World} {env:Env} {L:List ai} {l:List Oper} {Q:Exit->Act->World->Prop} {rest:List Oper} {d:Option Tmp} {ty:TypeId} {ps:String} {af:Array Edge} {α β:Type} {cK:α->Value} {dI:β->Value} {f:α->Option β}
theorem Mem.PO{w:World}(P:Program)(k:TypeId)(cK:α->Value)(dI:β->Value)(h:Mem w0 L w):Mem w0 (omap P k cK dI w.heap.size (fun _=>none)::L) (w.alloc (.map #[] 0)):=by
  refine h.call (E:=[omap P k cK dI w.heap.size (fun _=>none)]) ⟨(Below.refl _ _).alloc (anm _) _,fun e he=>?_,fun e he j hj=>?_,by simp⟩
  ·obtain rfl:e=omap P k cK dI w.heap.size (fun _=>none):=by simpa using he
   exact⟨#[],0,[],Below.Cj w _,rfl,by simp,by simp,by simp⟩
  ·obtain rfl:e=omap P k cK dI w.heap.size (fun _=>none):=by simpa using he
   have:j=w.heap.size:=hj;subst this;simp
theorem Ze{t k e:TypeId}(cK:α→Value)(dI:β→Value){r:Operand}{kk:IntKind}{n:Int}[ht:zr P t k e](hr:ev env r=some (.int kk n))(hk: ∀b,Sq P N w0 l Q rest (bZ env d (.map (some b))) (omap P k cK dI b (fun _=>none)::L))(hd:cL N d=true:=by rfl):
    Sq P N w0 l Q (⟨d, .makeMap t (some r),ty,ps,af,none⟩::rest) env L:=
  mE rfl hd fun a w ha hw=>⟨_,_,_,by
    simp only[execOp,an8,ha.ev hr,Instr.makeMap,Sem.run_bind,run_underlying ht.dU,Result.andThen,Sem.run_pure,asInt,asIntOf,newObj,Sem.run];rfl,hw.PO P k cK dI,hk _⟩
theorem PQ{t k e:TypeId}(cK:α→Value)(dI:β→Value)[ht:zr P t k e](hk: ∀b,Sq P N w0 l Q rest (bZ env d (.map (some b))) (omap P k cK dI b (fun _=>none)::L))(hd:cL N d=true:=by rfl):
    Sq P N w0 l Q (⟨d, .makeMap t none,ty,ps,af,none⟩::rest) env L:=
  mE rfl hd fun a w ha hw=>⟨_,_,_,by
    simp only[execOp,Option.map_none,Instr.makeMap,Sem.run_bind,Result.andThen,Sem.run_pure,newObj,Sem.run];rfl,hw.PO P k cK dI,hk _⟩
theorem Zf{t k e:TypeId}{m x y:Operand}{b i:Nat}{v:α}{u:β}[DecidableEq α][ht:zr P t k e][K:Bs P k][I:Bt cK](hm:ev env m=some (.map (some b)))(hx:ev env x=some (cK v))(hy:ev env y=some (dI u))[q:vB P L b k cK dI f i](hv: ∃l,keyOf P k (cK v)=some l)
    {L':List ai} [hu:eM L i (omap P k cK dI b (fun z=>if z=v then some u else f z)) L'] {a:Act} {w:World} (ha:cm N env a) (hw:Mem w0 L w):
    ∃w',(execOp a.eval ⟨none, .mapUpdate t m x y,ty,ps,af,none⟩).run P w= .ok .skip w'/\Mem w0 L' w':=by
  obtain⟨es,clock,ml,h0,h1,h2,ca,h3⟩:=hw.get q.h;obtain⟨lk,hl⟩:=hv;have hc:=K.K.check w false hl;have bw:=K.K.stays w hl;have step: ∀o:Obj,(omap P k cK dI b (fun z=>if z=v then some u else f z)).sat (fun j=>(w.putObj b o).heap[j]?)->Mem w0 L' (w.putObj b o):=fun o ho=>by
    rw[←hu.h];exact hw.change q.h (fun j hj=>hj) (fun j hj=>World.putObj_heap_other (fun e=>hj e)) World.putObj_size ⟨rfl,rfl,rfl⟩ ho
  have aZ:b<w.heap.size:=(aoN.1 h0).1;rcases PN (P:=P) (k:=k) h1 h2 h3 ⟨lk,hl⟩ w with⟨hr,hf,ka⟩|⟨j,u0,hr,hj,hf,Zg⟩
  ·refine⟨w.putObj b (.map (es.push {key:=cK v,val:=dI u,born:=clock}) (clock+1)),?_,step _ ⟨_,_,ml++[(v,u)],World.putObj_heap_same aZ,?_,?_,?_,?_⟩⟩
   ·simp only[execOp,ha.ev hm,ha.ev hx,ha.ev hy,Instr.mapUpdate,Sem.run_bind,run_underlying ht.dU,Result.andThen,run_getObj_map h0,hc,hr,run_setObj_map _ h0,Sem.run_pure]
   ·simp[h1]
   ·intro p hp
    rcases anu.1 hp with hp|hp
    ·exact h2 p hp
    ·obtain rfl:p=(v,u):=by simpa using hp
     exact⟨lk,hl⟩
   ·rw[an2,aoL]
    refine⟨ca,by simp,fun x1 vl y1 ID e1=>?_⟩;obtain rfl:y1=v:=by simpa using ID
    subst e1;obtain⟨p,hp,rfl⟩:=aoC.1 vl;exact ka p.2 hp
   ·intro x' v'
    show(if x'=v then some u else f x')=some v'↔_
    by_cases e:x'=v
    ·subst e;rw[if_pos rfl]
     constructor
     ·intro h;cases h;simp
     ·intro h
      rcases anu.1 h with h|h
      ·exact absurd h (ka v')
      ·simp at h;rw[h]
    ·rw[if_neg e,h3 x' v'];simp[e]
  ·have gO:j<ml.length:=(ad2.1 hj).1
   refine⟨w.putObj b (.map (es.modify j fun e=>{e with key:=cK v,val:=dI u}) clock),?_,step _ ⟨_,_,ml.set j (v,u),World.putObj_heap_same aZ,?_,?_,?_,?_⟩⟩
   ·simp only[execOp,ha.ev hm,ha.ev hx,ha.ev hy,Instr.mapUpdate,Sem.run_bind,run_underlying ht.dU,Result.andThen,run_getObj_map h0,hc,hr,Zg,apu,bw,run_setObj_map _ h0,Sem.run_pure]
   ·refine aok fun n=>?_
    have:=congrArg (·[n]?) h1;simp only[anA]at this⊢;rw[aof]
    by_cases e:j=n
    ·subst e
     rw[if_pos rfl,if_pos gO];rw[hj]at this
     cases he:es.toList[j]?with
     |none=>rw[he]at this;cases this
     |some e0=>
      have ow:es[j]? =some e0:=by simpa using he
      simp[Array.getElem?_modify,ow]
    ·rw[if_neg e,←this]
     simp[Array.getElem?_modify,e]
   ·intro p hp
    rcases anV hp with hp|rfl
    ·exact h2 p hp
    ·exact⟨lk,hl⟩
   ·rw[apn]
    have:(ml.map Prod.fst)[j]? =some v:=by rw[anA,hj];rfl
    rw[show(ml.map Prod.fst).set j (v,u).1=ml.map Prod.fst from by
        refine aok fun n=>?_;rw[aof]
        by_cases e:j=n
        ·subst e;rw[if_pos rfl,if_pos (by simpa using gO),this]
        ·rw[if_neg e]]
    exact ca
   ·intro x' v'
    have Zh: ∀n p,ml[n]? =some p→p.1=v→n=j:=fun n p hn hp=>by
        have a1:(ml.map Prod.fst)[n]? =some v:=by rw[anA,hn,an8,hp]
        have a2:(ml.map Prod.fst)[j]? =some v:=by rw[anA,hj];rfl
        exact(List.getElem?_inj (by simpa using(ad2.1 hn).1) ca).1 (a1.trans a2.symm)
    show(if x'=v then some u else f x')=some v'↔_
    by_cases e:x'=v
    ·subst e;rw[if_pos rfl]
     constructor
     ·intro h;cases h
      exact alM (i:=j) (by rw[aof,if_pos rfl,if_pos gO])
     ·intro h
      obtain⟨n,hn⟩:=aot.1 h;rw[aof]at hn
      by_cases en:j=n
      ·rw[if_pos en,if_pos gO]at hn;simp only[aoM,ap8,true_and]at hn;rw[hn]
      ·rw[if_neg en]at hn;exact absurd (Zh n _ hn rfl).symm en
    ·rw[if_neg e,h3 x' v']
     constructor
     ·intro h
      obtain⟨n,hn⟩:=aot.1 h;refine alM (i:=n) ?_;rw[aof,if_neg,hn];rintro rfl;rw[hj]at hn;simp only[aoM,ap8]at hn;exact e hn.1.symm
     ·intro h
      rcases anV h with h|h
      ·exact h
      ·simp only[ap8]at h;exact absurd h.1 e
theorem IE{t k e:TypeId}{m x y:Operand}{b i:Nat}{v:α}{u:β}[DecidableEq α][ht:zr P t k e][K:Bs P k][I:Bt cK](hm:ev env m=some (.map (some b)))(hx:ev env x=some (cK v))(hy:ev env y=some (dI u))[q:vB P L b k cK dI f i](hv: ∃l,keyOf P k (cK v)=some l)
    {L':List ai} [hu:eM L i (omap P k cK dI b (fun z=>if z=v then some u else f z)) L'] (hk:Sq P N w0 l Q rest env L'):
    Sq P N w0 l Q (⟨none, .mapUpdate t m x y,ty,ps,af,none⟩::rest) env L:=
  CC rfl rfl fun a w ha hw=>by
    obtain⟨w',h1,h2⟩:=Zf (t:=t) (k:=k) (e:=e) (ty:=ty) (ps:=ps) (af:=af) hm hx hy hv (L':=L') ha hw;exact⟨w',L',h1,h2,hk⟩
end
open Go.Kb
theorem zt{w0 w:World}{L R:List ai}{e:ai}{i:Nat}(q:L[i]? =some e)(d:L.eraseIdx i=R)(h:Mem w0 L w):Mem w0 (e::R) w:=by
 have:=h.perm (lU q);rwa [d]at this
theorem qJ{w0 w:World}{L R1 R2:List ai}{e1 e2:ai}{i j:Nat}(h1:L[i]? =some e1)(d1:L.eraseIdx i=R1)(h2:R1[j]? =some e2)(d2:R1.eraseIdx j=R2)(h:Mem w0 L w):Mem w0 (e1::e2::R2) w:=by
 subst d1;subst d2;exact h.perm ((lU h1).trans ((lU h2).cons _))
theorem Zi{p:aJ}(h:bg p=true):IntKind.i64.wrap (1*2^min (4 -(p.len -4*((bD p:Nat):Int))).toNat IntKind.i64.bits)=((2^kx p:Nat):Int):=by
 obtain⟨h1,h2⟩:=AZ h;have e:(4 -(p.len -4*((bD p:Nat):Int))).toNat=kx p:=rfl;rw[e];generalize kx p=x at h1
 match x,h1 with
 |0,_=>rfl
 |1,_=>rfl
 |2,_=>rfl
 |3,_=>rfl
 |4,_=>rfl
instance (priority:=low) ag.drop {L L':List ai}{e:ai}[k:ag L L']:ag (e::L) L':=⟨by
 obtain⟨R,hR⟩:=k.h;exact⟨e::R,(hR.cons e).trans ao7.symm⟩⟩
section
variable {P:Program} {N:bO} {w0:World} {env:Env} {L:List ai} {Q:Exit->Act->World->Prop} {d:Option Tmp} {ty:TypeId} {ps:String} {af:Array Edge} {gd:Option (Nat×Bool)} {K:Value->List ai->Prop}
theorem Ry.to{o:Oper}{v v':Value}(h:Ry P N w0 env L o v)(e:v=v'):Ry P N w0 env L o v':=e▸h
theorem Eu{f:FuncId}{x:Operand}{kb:Array Value}{xs:List Operand}{ts:Array TypeId}{vs:List Value}{v:Value}[hf:aD P f](hx:ev env x=some (.func (.func f) #[] kb))(Zj:ff env xs=some vs)
  (hc: ∀w,Mem w0 L w->Calls P f (vs++kb.toList).toArray w fun e w'=>e= .returned v/\Mem w [] w'):
  Yl P N w0 env L ⟨d, .call {callee:= .value x,args:=xs.toArray,argTypes:=ts},ty,ps,af,gd⟩ v:=fun a ha w hw=>by
 unfold Oper.quietAt;obtain⟨fn,h1,h2,h3⟩:=hf.fn;have Ah: ¬fn.body=none:=fun e=>by simp[e]at h2
 have uz: ¬fn.name= "runtime.NumGoroutine" :=by simpa using h3
 have e:(execOp a.eval ⟨d, .call {callee:= .value x,args:=xs.toArray,argTypes:=ts},ty,ps,af,gd⟩).run P w= .ok (.enter f (vs++kb.toList).toArray) w:=by
  have hm:=ha.ff Zj;simp[execOp,resolve,ha.ev hx,Deferred.ofValue,invoke,callFunc,h1,Ah,uz,Result.andThen,←hm]
 rw[e];exact⟨rfl,hc w hw⟩
theorem IF{f:Fn}{xs:List Operand}{vs:List Value}(hx:ff env xs=some vs):Ry P N w0 env L ⟨d, .makeFunc f #[] xs.toArray,ty,ps,af,gd⟩ (.func f #[] vs.toArray):=fun a w ha _=>by
 have hm:=ha.ff hx;simp[execOp,Instr.makeFunc,Result.andThen,←hm]
instance (s:Sv):bT (rj s) 0 s.val:=⟨rfl⟩
instance (s:Sv):bT s.val.cells 0 s.val:=⟨by rw[Sv.iz];rfl⟩
variable {s:Sv} {xs:List Nd} {a:Nd}
theorem Zk{t:TypeId}{x y:Operand}{i k p:Nat}{v:Int}[ht:eY P t](hx:ev env x=some (.pointer (some ⟨s.b,p,none⟩)))(hy:ev env y=some (.int .i64 v))[q:dV L s cU 48 xs i](ha:xs[k]? =some a)(b:Nat)(hb:b<16)(fb:p=s.o+k*48+32+b){L':List ai}[hu:eM L i (own cU 48 s (xs.set k (a.u7 b v))) L'](hk:K undef (L')):
  gG P N w0 env L ⟨none, .store t x y,ty,ps,af,none⟩ K:=
 rz (j:=32+b) (n:=1) (a':=a.u7 b v) ht.size hx hy (q:=q) (by omega) ha (by simp[Value.cells,Value.oneCell']) rfl (by omega) (VJ a hb v) hk
end
end Go.au
namespace Go.Proofs.YtkggjjnhnjjokaaGreatDoor
open Go.au Go.Kb Go.RowKit
instance:dB Tryz.prog 97 (.agg (dG yK)):=⟨by kernel_rfl⟩
instance:dB Tryz.prog 180 (.agg (bP oD)):=⟨by kernel_rfl⟩
instance:dB Tryz.prog 59 (.agg (aR fM)):=⟨by kernel_rfl⟩
instance:dB Tryz.prog 5 (.int .u8 0):=⟨by kernel_rfl⟩
instance:dB Tryz.prog 53 (.slice none 0 0):=⟨by kernel_rfl⟩
variable {w0:World}{L:List ai}
instance ajn{b:Int}{n:Int}{s:Int}:bW Tryz.prog 93 w0 L [.int .i64 b, .int .i64 n, .int .i64 s] (.bool (ti b n s)) (True):=⟨fun az w hw=>by
 refine rC Tryz.func93 rfl Tryz.ntmps93 rfl ?_;refine UI ?_;refine Gr fun w1 hw=>?_;exact⟨congrArg (fun b=>Ending.returned (Value.bool b)) (rfl),ag.mem hw⟩⟩
instance ajo{c:Cp}[hc:aS w0 L c]:bW Tryz.prog 106 w0 L [.agg (aR c)] (.bool (bl (cv c))) (True):=⟨fun az w hw=>by
 have hc:=hc.h w hw;have jP:cl w c:=⟨hc⟩;have eH:=fW c.blocks.xs;have bu:bl (cv c)=true↔ti c.blocks.xs.length c.ab c.size=true/\0<=c.ops/\c.ops<=dK/\c.bc.xs.length<=64/\ ∀b∈ia c.blocks.xs,oG c.ab c.size b=true:=by rw[eP];simp only[cv,eH]
 have vj:dK=1099511627776:=rfl;refine cd Tryz.func106 rfl Tryz.ntmps106 rfl ?_;refine Gc ?_;refine bx rfl fun b1=>UJ ?_;refine Gb (fun h0=>?_) fun h0=>?_
 ·
  have hz:bl (cv c)=false:=by
   cases hk:bl (cv c)with
   |false=>rfl
   |true=>
    have g:=bu.1 hk;rw[g.1]at h0;simp only[aoQ,false_or]at h0;omega
  refine ak ?_;refine Gr fun w1 hw=>?_;exact Ge (hz.symm) hw
 have g0:ti c.blocks.xs.length c.ab c.size=true/\0<=c.ops/\c.ops<=dK/\c.bc.xs.length<=64:=by
  cases hk:ti c.blocks.xs.length c.ab c.size with
  |false=>rw[hk]at h0;simp at h0
  |true=>rw[hk]at h0;simp only[aoQ,not_false_eq_true,true_and]at h0;exact⟨rfl,by omega,by omega,by omega⟩
 have gs:=kz.1 g0.1;refine aX ?_;refine bI (X:=Nat) (fun zz=>[(35, .int .i64 (zz:Nat)),(1, .pointer (some ⟨b1,0,none⟩)),(33,c.blocks.sv.val),(34, .int .i64 (c.blocks.xs.length:Nat))]) (fun zz=>[an b1 (aR c) 59]) (fun zz=>zz<=c.blocks.xs.length/\ ∀j b,j<zz->(ia c.blocks.xs)[j]? =Option.some b->oG c.ab c.size b=true) (fun zz=>c.blocks.xs.length -zz) 0 ⟨Nat.zero_le _,fun j b hj=>by first|omega|(simp only[];omega)⟩ sb (fun w hw=>ag.mem hw) ?_;rintro i ⟨aW,aB⟩;refine ak ?_;refine Gb (fun h1=>?_) fun h1=>?_
 ·
  refine lZ ?_;obtain⟨x,hx⟩:=get_some (xs:=c.blocks.xs) (i:=i) oM;refine ae (aV rfl rfl i rfl oM) (ae (fo rfl i hx rfl) ?_);have ajp:Mb x c.blocks:=⟨List.mem_of_getElem? hx⟩;refine ba fun b4=>UK ?_;refine Gb (fun h2=>?_) fun h2=>?_
  ·
   have hz:bl (cv c)=false:=by
    cases hk:bl (cv c)with
    |false=>rfl
    |true=>
     have g:=gy.1 ((bu.1 hk).2.2.2.2 (bv x) (alM (lD hx)));simp only[bv,mW]at g;omega
   refine ak ?_;refine Gr fun w1 hw=>?_;exact Ge (hz.symm) hw
  refine aX ?_;refine bI (X:=Nat) (fun zz=>[(70, .int .i64 (zz:Nat)),(1, .pointer (some ⟨b1,0,none⟩)),(33,c.blocks.sv.val),(34, .int .i64 (c.blocks.xs.length:Nat)),(35, .int .i64 (i:Nat)),(68,x.ab.sv.val),(69, .int .i64 (x.ab.xs.length:Nat))]) (fun zz=>[an b4 (bP x) 180,an b1 (aR c) 59]) (fun zz=>zz<=x.ab.xs.length/\ ∀k y,k<zz->(bv x).ab[k]? =Option.some y->(y.length:Int)=c.size) (fun zz=>x.ab.xs.length -zz) 0 ⟨Nat.zero_le _,fun k y hk=>by first|omega|(simp only[];omega)⟩ sb (fun w hw=>ag.mem hw) ?_;rintro j ⟨nW,fk⟩;refine ak ?_;refine Gb (fun h3=>?_) fun h3=>?_
  ·
   refine lZ ?_;obtain⟨y,hy⟩:=get_some (xs:=x.ab.xs) (i:=j) oM;refine ae (aV rfl rfl j rfl oM) (ae (bJ (j:=0) rfl j hy rfl (by decide)) ?_);have ajq:Mb y _:=⟨List.mem_of_getElem? hy⟩;refine eO ?_;refine Gb (fun h4=>?_) fun h4=>?_
   ·
    have hz:bl (cv c)=false:=by
     cases hk:bl (cv c)with
     |false=>rfl
     |true=>
      have g:=(gy.1 ((bu.1 hk).2.2.2.2 (bv x) (alM (lD hx)))).2.2.2.2.2 y.xs (alM (oE hy));omega
    refine ak ?_;refine Gr fun w1 hw=>?_;exact Ge (hz.symm) hw
   refine ak ?_;refine Gi ?_;exact bb (x:=(j)) (j+1) ⟨oF,fun k z hk hz=>if e:k=j then(by subst e;rw[show(bv x).ab=aL x.ab.xs from rfl,oE hy]at hz;cases hz;omega)else fk k z oF hz⟩ oF sb (fun w hw=>ag.mem hw)
  have za:oG c.ab c.size (bv x)=true:=gy.2 ⟨by simp only[bv,mW];omega,by simp only[bv];omega,by simp only[bv];omega,by simp only[bv];omega,by simp only[bv];omega,fun y hy=>by
   obtain⟨k,hk⟩:=aoi hy;exact fk k y (by have h:=(ad2.1 hk).1;simp only[bv,mW]at h;omega) hk⟩
  refine ak ?_;refine Gi ?_;exact bb (x:=(i)) (i+1) ⟨oF,fun j b hj hb=>if e:j=i then(by subst e;rw[lD hx]at hb;cases hb;exact za)else aB j b oF hb⟩ oF sb (fun w hw=>ag.mem hw)
 obtain rfl:i=c.blocks.xs.length:=by omega
 have hz:bl (cv c)=true:=bu.2 ⟨g0.1,g0.2.1,g0.2.2.1,g0.2.2.2,fun b hb=>by
  obtain⟨j,hj⟩:=aoi hb;exact aB j b (by have:=(ad2.1 hj).1;omega) hj⟩
 refine ak ?_;refine Gr fun w1 hw=>?_;exact⟨congrArg (fun b=>Ending.returned (Value.bool b)) (hz.symm),ag.mem hw⟩⟩
theorem Zl{xs:List UInt8}{k i:Nat}(h:k+i<xs.length):(xs.take k++(List.replicate i 255++xs.drop (k+i))).set (k+i) 255=xs.take k++(List.replicate (i+1) 255++xs.drop (k+(i+1))):=by
 rw[aoU _ _ (by rw[anj];omega),anj,apB oM,aoE,aoU _ _ (by simp),anZ,aoI,ao2 h,aoX,List.replicate_succ',anv,apD,aoD]
theorem Zm(w0 w:World)(L:List ai)(rm:Sv)(k:Nat)(n:Nat)(cap:Nat)(xs:List UInt8)(hw:Mem w0 (own aP 1 rm xs::L) w)(az:k+n<=xs.length/\n<=1000000):Calls Tryz.prog 94 #[.slice (some ⟨rm.b,rm.o+k,none⟩) n cap] w fun e w'=> ∃zz:Unit,e= .returned (.tuple #[])/\(True)/\Mem w0 (own aP 1 rm (xs.take k++(List.replicate n 255++xs.drop (k+n)))::L) w':=by
 obtain⟨eW,gJ⟩:=az;refine iI (args:=[_]) Tryz.func94 rfl Tryz.ntmps94 rfl hw ?_;change Cw _ _ _ _ _ [(0, .slice (some ⟨rm.b,rm.o+k,none⟩) n cap)] (own aP 1 rm xs::L);refine ar ?_;refine ae (wj rfl) (ar ?_);refine bI (X:=Nat×List UInt8) (fun zz=>[(5, .int .i64 (zz.1:Nat)),(0, .slice (some ⟨rm.b,rm.o+k,none⟩) n cap),(4, .int .i64 (n:Nat))]) (fun zz=>own aP 1 rm zz.2::L) (fun zz=>zz.1<=n/\zz.2=xs.take k++(List.replicate zz.1 255++xs.drop (k+zz.1))) (fun zz=>n -zz.1) (0,xs) ⟨Nat.zero_le _,by simp⟩ sb (fun w hw=>ag.mem hw) ?_;rintro⟨i,zs⟩ ⟨aW,aB⟩;dsimp only;simp only at aW aB;have xv:zs.length=xs.length:=by rw[aB];simp only[List.length_append,List.length_take,List.length_replicate,List.length_drop];omega
 refine ak ?_;refine Gb (fun h0=>?_) fun h0=>?_
 ·
  refine aX ?_;refine ae (Ku (b:=rm.b) (o:=rm.o+k) (len:=n) (cap:=cap) rfl rfl oM oM) ?_;obtain⟨z,hz⟩:=get_some (xs:=zs) (i:=k+i) oM;refine jy (s:=rm) (n:=1) (k:=k+i) (j:=0) (a:=z) (a':=(255:UInt8)) (xs:=zs) (enc:=aP) (c:=1) (v:= .int .u8 255) oK rfl rfl oM hz (by simp[Value.cells,Value.oneCell']) rfl oM (by rfl) (ak ?_);refine Gi ?_;exact bb (x:=(i,zs)) (i+1,zs.set (k+i) 255) ⟨oF,by rw[aB];exact Zl oF⟩ (by simp only;omega) sb (fun w hw=>ag.mem hw)
 obtain rfl:i=n:=by omega
 refine Gc ?_;refine dn (.inr rfl) (zo rfl) (fun w1 hw=>?_);exact⟨(),rfl,trivial,by rw[←aB];exact ag.mem hw⟩
instance Zn{w0:World}{L L2:List ai}{i:Nat}{rm:Sv}{k:Nat}{n:Nat}{cap:Nat}{xs:List UInt8}[q:dV L rm aP 1 xs i][d1:cI L i L2]:bK Tryz.prog 94 w0 L [.slice (some ⟨rm.b,rm.o+k,none⟩) n cap] (Unit) (fun zz=> .tuple #[]) (fun zz=>own aP 1 rm (xs.take k++(List.replicate n 255++xs.drop (k+n)))::L2) (fun zz=>True) (k+n<=xs.length/\n<=1000000):=⟨fun hp w hw=>Zm w0 w L2 rm k n cap xs (zt q.h d1.h hw) hp⟩
instance ajr{s:Sv}{ss:List Bk}[hs:cA w0 L bP 4 s ss]:bK Tryz.prog 162 w0 L [s.val] (Sv) (fun zz=>zz.val) (fun zz=>own bP 4 zz ss::L) (fun zz=>True) (ss.length<=1000000):=⟨fun az w hw=>Gk (fun zz=>[own bP 4 zz ss]) hw (by
 have hs:=hs.h w hw;have vC:Gv w s bP 4 ss:=⟨hs⟩;refine cd Tryz.func162 rfl Tryz.ntmps162 rfl ?_;refine aq ?_;refine ae (sR Tryz.underlying56 rfl) (Gc ?_);refine Gb (fun h0=>?_) fun h0=>?_
 ·
  have e0:ss=[]:=anB.1 (by have:=hs.ok.nil h0;have:=hs.len;omega);refine ak ?_;refine Gr fun w1 hw=>?_;exact⟨Sv.none,rfl,trivial,by rw[e0];exact(ag.mem hw:Mem w [] _).cz bP 4⟩
 refine Gc ?_;refine uN bP fun b5=>Gs ?_;refine iv (s:=⟨false,b5,0,0,0,none⟩) (enc:=bP) (ys:=ss) rfl rfl (by decide) (fun w hw=>gF (s:=s) Tryz.underlying56 (by decide) ((inferInstance:cA _ _ bP 4 s ss).h w hw)) (by simp only[anh];omega) (by simp only[anh];omega) fun s7 xw vD=>?_;refine ar ?_;refine Gr fun w1 hw=>?_;exact⟨s7,rfl,trivial,by rw[anR]at hw;exact ag.mem hw⟩)⟩
instance ajs{s:Sv}{ss:List Ft}[hs:cA w0 L dG 4 s ss]:bK Tryz.prog 107 w0 L [s.val] (Sv) (fun zz=>zz.val) (fun zz=>own dG 4 zz ss::L) (fun zz=>True) (ss.length<=1000000):=⟨fun az w hw=>Gk (fun zz=>[own dG 4 zz ss]) hw (by
 have hs:=hs.h w hw;have vC:Gv w s dG 4 ss:=⟨hs⟩;refine cd Tryz.func107 rfl Tryz.ntmps107 rfl ?_;refine aq ?_;refine ae (sR Tryz.underlying57 rfl) (Gc ?_);refine Gb (fun h0=>?_) fun h0=>?_
 ·
  have e0:ss=[]:=anB.1 (by have:=hs.ok.nil h0;have:=hs.len;omega);refine ak ?_;refine Gr fun w1 hw=>?_;exact⟨Sv.none,rfl,trivial,by rw[e0];exact(ag.mem hw:Mem w [] _).cz dG 4⟩
 refine Gc ?_;refine uN dG fun b5=>Gs ?_;refine iv (s:=⟨false,b5,0,0,0,none⟩) (enc:=dG) (ys:=ss) rfl rfl (by decide) (fun w hw=>gF (s:=s) Tryz.underlying57 (by decide) ((inferInstance:cA _ _ dG 4 s ss).h w hw)) (by simp only[anh];omega) (by simp only[anh];omega) fun s7 xw vD=>?_;refine ar ?_;refine Gr fun w1 hw=>?_;exact⟨s7,rfl,trivial,by rw[anR]at hw;exact ag.mem hw⟩)⟩
instance ajt{ps:Sl (Sl UInt8)}[xu:aS w0 L ps]:bK Tryz.prog 179 w0 L [ps.sv.val] (Sl (Sl UInt8)) (fun zz=>zz.sv.val) (fun zz=>eG zz::L) (fun zz=>aL zz.xs=aL ps.xs) (M9 (aL ps.xs)):=⟨fun az w hw=>Gk (fun zz=>[eG zz]) hw (by
 have xu:=xu.h w hw;have aju:cl w ps:=⟨xu⟩;obtain⟨eW,gJ⟩:=az;have gP:=mW ps.xs;rw[gP]at eW;refine cd Tryz.func179 rfl Tryz.ntmps179 rfl ?_;refine aq ?_;refine ae (sR Tryz.underlying178 rfl) (Gc ?_);refine Gb (fun h0=>?_) fun h0=>?_
 ·
  have e0:ps.xs=[]:=anB.1 (by have:=xu.1.ok.nil h0;have:=xu.1.len;omega);refine ak ?_;refine Gr fun w1 hw=>?_;exact⟨⟨Sv.none,[]⟩,rfl,by rw[e0],VZ (Mem.cz (bQ (τ:=UInt8)) 1 (ag.mem hw:Mem w [] _))⟩
 refine cx ?_;refine bI (X:=Nat×Nat) (fun zz=>[(15, .int .i64 (zz.1:Nat)),(3, .int .i64 (zz.2:Nat)),(0,ps.sv.val),(13,ps.sv.val),(14, .int .i64 (ps.xs.length:Nat))]) (fun zz=>[]) (fun zz=>zz.1<=ps.xs.length/\zz.2=((aL ps.xs).take zz.1).flatten.length) (fun zz=>ps.xs.length -zz.1) (0,0) ⟨Nat.zero_le _,by simp⟩ sb (fun w hw=>ag.mem hw) ?_;rintro⟨i,mm⟩ ⟨aW,aB⟩;dsimp only;simp only at aW aB;refine ak ?_;refine Gb (fun h1=>?_) fun h1=>?_
 ·
  obtain⟨y,hy⟩:=get_some (xs:=ps.xs) (i:=i) oM;have PR:Mb y ps:=⟨List.mem_of_getElem? hy⟩;have zu:=A3 (oE hy);have gC:=A4 (aL ps.xs) (i+1);refine Gc ?_;refine ae (aV rfl rfl i rfl oM) (ae (bJ (j:=0) rfl i hy rfl (by decide)) ?_);have ajv:Mb y _:=⟨List.mem_of_getElem? hy⟩;refine pD ?_;refine Gi ?_;exact bb (x:=(i,mm)) (i+1,mm+y.xs.length) ⟨oF,by rw[aB,zu]⟩ (by simp only;omega) sb (fun w hw=>ag.mem hw)
 obtain rfl:i=ps.xs.length:=by omega
 rw[List.take_of_length_le oM]at aB;have hN:mm=(aL ps.xs).flatten.length:=aB;refine ar ?_;refine ri (enc:=aP) (n:=0) (cap:=mm) 0 rfl rfl rfl rfl rfl oM oM oM fun tN=>aq ?_;refine ri (enc:=bQ (τ:=UInt8)) (n:=ps.xs.length) (cap:=ps.xs.length) (⟨Sv.none,[]⟩:Sl UInt8) rfl rfl rfl rfl rfl oM oM oM fun nX=>aX ?_;refine bI (X:=Nat×Nat×List UInt8×List (Sl UInt8)) (fun zz=>[(31, .int .i64 (zz.1:Nat)),(6,(⟨false,tN,0,zz.2.1,mm,none⟩:Sv).val),(7,(⟨false,nX,0,ps.xs.length,ps.xs.length,none⟩:Sv).val),(29,ps.sv.val),(30, .int .i64 (ps.xs.length:Nat))]) (fun zz=>[own aP 1 ⟨false,tN,0,zz.2.1,mm,none⟩ zz.2.2.1,own (bQ (τ:=UInt8)) 1 ⟨false,nX,0,ps.xs.length,ps.xs.length,none⟩ zz.2.2.2]) (fun zz=>zz.1<=ps.xs.length/\zz.2.1=zz.2.2.1.length/\zz.2.2.1=((aL ps.xs).take zz.1).flatten/\zz.2.2.2=cV ⟨false,tN,0,mm,mm,none⟩ 0 ((aL ps.xs).take zz.1)++List.replicate (ps.xs.length -zz.1) (⟨Sv.none,[]⟩:Sl UInt8)) (fun zz=>ps.xs.length -zz.1) (0,0,List.replicate 0 0,List.replicate ps.xs.length (⟨Sv.none,[]⟩:Sl UInt8)) ⟨Nat.zero_le _,rfl,by simp,by simp[cV]⟩ sb (fun w hw=>ag.mem hw) ?_;rintro⟨i,m,r,zs⟩ ⟨aW,aB,bm,cJ⟩;dsimp only;simp only at aW aB bm cJ;refine ak ?_;refine Gb (fun h2=>?_) fun h2=>?_
 ·
  obtain⟨y,hy⟩:=get_some (xs:=ps.xs) (i:=i) oM;have PR:Mb y ps:=⟨List.mem_of_getElem? hy⟩;have zu:=A3 (oE hy);have gC:=A4 (aL ps.xs) (i+1);have vE:r.length+y.xs.length<=mm:=by rw[hN,bm,←zu];exact gC
  have vF:=get_some (xs:=zs) (i:=i) (by rw[cJ,af0,Hv,anj,anZ];omega);obtain⟨z,hz⟩:=vF;have xv:i<zs.length:=(ad2.1 hz).1;refine ar ?_;refine ae (aV rfl rfl i rfl oM) (ae (bJ (j:=0) rfl i hy rfl (by decide)) ?_);have ajw:Mb y _:=⟨List.mem_of_getElem? hy⟩;refine gV ?_;refine VX (s:=⟨false,tN,0,m,mm,none⟩) (enc:=aP) (xs:=r) (ys:=y.xs) rfl rfl (fun w hw=>gF (s:=y.sv) Tryz.underlying53 (by decide) ((inferInstance:cA _ _ aP 1 y.sv y.xs).h w hw)) rfl (by simp only;omega) (by simp only;omega) ?_;refine pD ?_;refine ae (Ry.to (v':=(win (⟨false,tN,0,mm,mm,none⟩:Sv) r.length (r.length+y.xs.length)).val) (Mp (l:=r.length) (h:=(r++y.xs).length) (m:=(r++y.xs).length) rfl rfl rfl rfl rfl rfl rfl (by simp) (by simp) (by simp)) (by simp[win,Sv.sub,Sv.top])) (ae (aV rfl rfl i rfl oM) (CR (s:=⟨false,nX,0,ps.xs.length,ps.xs.length,none⟩) (xs:=zs) (k:=i) (a:=z) (⟨(win (⟨false,tN,0,mm,mm,none⟩:Sv) r.length (r.length+y.xs.length)),y.xs⟩:Sl UInt8) oK rfl rfl oM hz (ak ?_)));refine Gi ?_;exact bb (x:=(i,m,r,zs)) (i+1,m+y.xs.length,r++y.xs,zs.set i ⟨(win (⟨false,tN,0,mm,mm,none⟩:Sv) r.length (r.length+y.xs.length)),y.xs⟩) ⟨oF,by rw[af0,aB],by rw[bm,anq,oE hy];simp,by rw[cJ];exact V1 (by rw[gP]) bm (oE hy)⟩ (by simp only;omega) sb (fun w hw=>ag.mem hw)
 obtain rfl:i=ps.xs.length:=by omega
 rw[anx oM]at bm cJ;rw[aoI,List.replicate_zero,anN]at cJ;refine aq ?_;refine Gr fun w1 hw=>?_;exact⟨⟨⟨false,nX,0,ps.xs.length,ps.xs.length,none⟩,zs⟩,rfl,by rw[cJ,va],M8 (rm:=⟨false,tN,0,mm,mm,none⟩) cJ rfl (by rw[show m=mm by rw[aB,bm,hN],bm]at hw;exact ag.mem hw)⟩)⟩
instance ajx{c:Cp}[hc:aS w0 L c]:bK Tryz.prog 105 w0 L [.agg (aR c)] (Cp) (fun zz=> .agg (aR zz)) (fun zz=>own bP 4 zz.blocks.sv zz.blocks.xs::ai.all (zz.blocks.xs.map fun b:Bk=>eG b.ab)::own dG 4 zz.bc.sv zz.bc.xs::L) (fun zz=>cv zz=cv c) (fX c):=⟨fun az w hw=>Gk (fun zz:Cp=>[own bP 4 zz.blocks.sv zz.blocks.xs,ai.all (zz.blocks.xs.map fun b:Bk=>eG b.ab),own dG 4 zz.bc.sv zz.bc.xs]) hw (by
 have hc:=hc.h w hw;have jP:cl w c:=⟨hc⟩;obtain⟨eW,gJ,kc⟩:=az;refine cd Tryz.func105 rfl Tryz.ntmps105 rfl ?_;refine Gc ?_;refine bx rfl fun b1=>ba fun b2=>ak ?_;refine bf rfl oM fun x6 PS=>Gs ?_;refine dN (cs':=aR (⟨c.ab,c.size,⟨x6,c.blocks.xs⟩,c.ops,c.off,c.bc⟩:Cp)) rfl rfl (by show 2<6;decide) (by first|rfl|exact Sv.one _) rfl (aX ?_);refine bI (X:=Nat×List Bk) (fun zz=>[(11, .int .i64 (zz.1:Nat)),(1, .pointer (some ⟨b1,0,none⟩)),(2, .pointer (some ⟨b2,0,none⟩)),(10, .int .i64 (c.blocks.xs.length:Nat))]) (fun zz=>[own bP 4 x6 zz.2,ai.all ((zz.2.take zz.1).map fun b:Bk=>eG b.ab),an b2 (aR fM) 59,an b1 (aR (⟨c.ab,c.size,⟨x6,zz.2⟩,c.ops,c.off,c.bc⟩:Cp)) 59]) (fun zz=>zz.1<=c.blocks.xs.length/\zz.2.length=c.blocks.xs.length/\ia zz.2=ia c.blocks.xs/\ ∀j,zz.1<=j->zz.2[j]? =c.blocks.xs[j]?) (fun zz=>c.blocks.xs.length -zz.1) (0,c.blocks.xs) ⟨Nat.zero_le _,rfl,rfl,fun _ _=>rfl⟩ sb (fun w hw=>by
  simp only[anP,aou];exact ag.mem (Mem.wS hw)) ?_
 rintro⟨i,zs⟩ ⟨aW,aB,bm,cJ⟩;dsimp only;simp only at aW aB bm cJ;refine ak ?_;refine Gb (fun h0=>?_) fun h0=>?_
 ·
  obtain⟨z,hz⟩:=get_some (xs:=zs) (i:=i) oM;have vG:Mb z c.blocks:=⟨List.mem_of_getElem? (by rw[←cJ i (anm _)];exact hz)⟩;refine ak ?_;refine jB ?_;refine Dl (s:=x6) (enc:=bP) (c:=4) (xs:=zs) inferInstance oM fun hn6 hs6 Zo Zp=>?_;refine gx [9,12,1003,1004,1006,1007,1008,1010,1011] [[],[],[],[],[3],[],[3,4],[3,4,6],[3,4,6,7],[3,4,6,7,8],[3,4,6,7,8,9],[3,4,6,7,8,9,10],[3,4,6,7,8,9,10,11]] [0,1,2,3,4,5,6,7,8,9,10,11,12] [an b1 (aR (⟨c.ab,c.size,⟨x6,zs⟩,c.ops,c.off,c.bc⟩:Cp)) 59] (fun _ hw=>ag.mem hw) oK oK (al rfl (aH (o':=2) rfl rfl) (al rfl (bC rfl) (al rfl (aK rfl) (gw rfl (aH (o':=2) rfl rfl) (gw rfl (bC rfl) (al rfl (aK rfl) (gw rfl (aV rfl rfl i rfl oM) (gw rfl (aH rfl rfl) (gw rfl (bJ (j:=0) rfl i hz rfl (by decide)) (cO rfl (lX rfl (kc z vG.h) fun mq Ev=>⟨fun _ hw=>ag.mem hw,?_⟩)))))))))));refine gw rfl (kP (s:=x6) (i:=i) rfl rfl rfl Zo oM) (gw rfl (aH rfl rfl) ?_);refine cO rfl (rz (n:=1) (k:=i) (j:=0) (a:=z) (a':=({z with ab:=mq}:Bk)) (xs:=zs) (enc:=bP) (c:=4) (v:=mq.sv.val) oK rfl rfl rfl hz (by rw[Sv.iz];simp[Sv.one]) (by rw[Sv.iz];rfl) (by decide) (by rw[Sv.iz];rfl) ⟨fun _ hw=>ag.mem hw,?_⟩)
  refine ak ?_;refine Gi ?_;exact bb (x:=(i,zs)) (i+1,zs.set i ({z with ab:=mq}:Bk)) ⟨oF,by rw[aoa];exact aB,by rw[wZ,←bm,show bv ({z with ab:=mq}:Bk)=bv z from by rw[bv,bv,Ev],←wZ,yO hz],fun j hj=>by rw[aox oF];exact cJ j oF⟩ (by simp only;omega) sb (fun w hw=>by
   have h1:=Mem.yN (e:=eG mq) (es:=(zs.take i).map fun b:Bk=>eG b.ab) (ag.mem hw:Mem _ (eG mq::ai.all ((zs.take i).map fun b:Bk=>eG b.ab)::[own bP 4 x6 (zs.set i ({z with ab:=mq}:Bk)),an b2 (aR fM) 59,an b1 (aR (⟨c.ab,c.size,⟨x6,zs⟩,c.ops,c.off,c.bc⟩:Cp)) 59]) _)
   rw[V8 (z':=({z with ab:=mq}:Bk)) hz]at h1
   exact(ag.mem h1:Mem _ [own bP 4 x6 (zs.set i ({z with ab:=mq}:Bk)),ai.all (((zs.set i ({z with ab:=mq}:Bk)).take (i+1)).map fun b:Bk=>eG b.ab),an b2 (aR fM) 59,an b1 (aR (⟨c.ab,c.size,⟨x6,zs⟩,c.ops,c.off,c.bc⟩:Cp)) 59] _))
 obtain rfl:i=zs.length:=by omega
 rw[anx (anm _)]at*;refine ar ?_;refine ae (Ry.to (v':=c.bc.sv.val) (bC rfl) rfl) (bf rfl oM fun zv IG=>Gs ?_);refine dN (cs':=aR (⟨c.ab,c.size,⟨x6,zs⟩,c.ops,c.off,⟨zv,c.bc.xs⟩⟩:Cp)) rfl rfl (by show 5<6;decide) (by first|rfl|exact Sv.one _) rfl (aq ?_);refine Gr fun w1 hw=>?_;exact⟨⟨c.ab,c.size,⟨x6,zs⟩,c.ops,c.off,⟨zv,c.bc.xs⟩⟩,rfl,by simp only[cv,bm],ag.mem hw⟩)⟩
instance ajy{c:Cp}{b:Int}[hc:aS w0 L c]:bW Tryz.prog 298 w0 L [.agg (aR c), .int .i64 b] (.bool (kA (cv c) b)) (True):=⟨fun az w hw=>by
 have hc:=hc.h w hw;have jP:cl w c:=⟨hc⟩;refine cq Tryz.func298 rfl Tryz.ntmps298 rfl ?_;refine Gc ?_;refine bx rfl fun b2=>Mh ?_;refine Gr fun w1 hw=>?_;exact⟨congrArg (fun b=>Ending.returned (Value.bool b)) ((by simp only[kA,cv,fW])),ag.mem hw⟩⟩
instance ajz{c:Cp}[hc:aS w0 L c]:bW Tryz.prog 299 w0 L [.agg (aR c)] (.tuple #[.agg (dG ((bE (cv c)).1)), .bool ((bE (cv c)).2)]) (c.bc.xs.length<=1000000):=⟨fun az w hw=>by
 have hc:=hc.h w hw;have jP:cl w c:=⟨hc⟩;refine cd Tryz.func299 rfl Tryz.ntmps299 rfl ?_;refine Gc ?_;refine bx rfl fun b1=>ba fun b2=>cx ?_;refine bI (X:=Nat) (fun zz=>[(9, .int .i64 (zz:Nat)),(1, .pointer (some ⟨b1,0,none⟩)),(2, .pointer (some ⟨b2,0,none⟩)),(7,c.bc.sv.val),(8, .int .i64 (c.bc.xs.length:Nat))]) (fun zz=>[an b2 (dG yK) 97,an b1 (aR c) 59]) (fun zz=>zz<=c.bc.xs.length/\ ∀j f,j<zz->c.bc.xs[j]? =Option.some f->f.op≠c.ops) (fun zz=>c.bc.xs.length -zz) 0 ⟨Nat.zero_le _,fun j f hj=>by first|omega|(simp only[];omega)⟩ sb (fun w hw=>ag.mem hw) ?_;rintro i ⟨aW,aB⟩;refine ak ?_;refine Gb (fun h0=>?_) fun h0=>?_
 ·
  refine lZ ?_;obtain⟨f,hf⟩:=get_some (xs:=c.bc.xs) (i:=i) oM;refine ae (aV rfl rfl i rfl oM) (ae (fo rfl i hf rfl) (ba fun b5=>eO ?_));refine Gb (fun h1=>?_) fun h1=>?_
  ·
   have hs:bE (cv c)=(f,f.cut||f.fail):=Wa hf aB h1;refine Gi ?_;refine gx [7] [[],[],[],[],[],[],[],[],[7]] [0,1,2,3,4,5,6,7,8] [an b5 (dG f) 97,an b1 (aR c) 59] (fun _ hw=>ag.mem hw) oK oK (al rfl (dw rfl) (al rfl (aH (o':=2) rfl rfl) (al rfl (bC rfl) (al rfl (aK rfl) (Md rfl rfl rfl rfl (fun hg=>(Ry.yl (aH (o':=1) rfl rfl))) (Md rfl rfl rfl rfl (fun hg=>(Ry.yl (bC (aw hg rfl)))) (al rfl (wi rfl rfl rfl) (cO rfl (mQ rfl rfl ⟨fun _ hw=>ag.mem hw,?_⟩)))))))));refine al rfl (c0 rfl) (Gc ?_);refine Gr fun w1 hw=>?_;exact⟨(by rw[hs]),ag.mem hw⟩
  refine ak ?_;refine Gi ?_;exact bb (x:=(i)) (i+1) ⟨oF,fun j g hj hg=>if e:j=i then(by subst e;rw[hf]at hg;cases hg;exact h1)else aB j g oF hg⟩ oF sb (fun w hw=>ag.mem hw)
 obtain rfl:i=c.bc.xs.length:=by omega
 have hs:bE (cv c)=(yK,false):=V9 (fun f hf=>by
  obtain⟨j,hj⟩:=aoi hf;exact aB j f (ad2.1 hj).1 hj)
 refine Gc ?_;refine ae (cG (v:= .agg (dG yK)) rfl (fun w=>by kernel_rfl)) (ak ?_);refine Gr fun w1 hw=>?_;exact⟨(by rw[hs]),ag.mem hw⟩⟩
instance ajA{f:Ft}:bW Tryz.prog 300 w0 L [.agg (dG f)] (.tuple #[.bool f.cut, .int .i64 (mX f)]) (True):=⟨fun az w hw=>by
 refine cd Tryz.func300 rfl Tryz.ntmps300 rfl ?_;refine Gc ?_;refine bx rfl fun b1=>aX ?_;refine Gb (fun h0=>?_) fun h0=>?_
 ·
  refine aq ?_;refine Gr fun w1 hw=>?_;exact⟨(by rw[mX,if_pos h0,h0]),ag.mem hw⟩
 refine aq ?_;refine Gr fun w1 hw=>?_;exact⟨(by rw[mX,if_neg (by rw[h0];simp),h0]),ag.mem hw⟩⟩
instance ajB{c:Cp}{b:Int}[hc:aS w0 L c]:bK Tryz.prog 301 w0 L [.agg (aR c), .int .i64 b] (Cp) (fun zz=> .tuple #[.agg (aR zz), .int .i64 (rJ (cv c) b)]) (fun zz=>fz zz::L) (fun zz=>cv zz=qv (cv c) b) (fX c):=⟨fun az w hw=>Gk (fun zz=>[fz zz]) hw (by
 have hc:=hc.h w hw;have jP:cl w c:=⟨hc⟩;have k6:fX c:=az;obtain⟨eW,gJ,kc⟩:=az;refine cq Tryz.func301 rfl Tryz.ntmps301 rfl ?_;refine Gc ?_;refine bx rfl fun b2=>ba fun b4=>ak ?_;refine bf rfl (by assumption) fun x8 pS=>ba fun b6=>cx ?_;refine Gb (fun h0=>?_) fun h0=>?_
 ·
  have hE:rJ (cv c) b=1:=by rw[rJ,if_neg (by rw[h0];simp)]
  refine aM ?_;refine Gr fun w1 hw=>?_;exact⟨x8,by rw[hE],by rw[pS,qv,if_neg (by rw[hE];decide)],ng x8 (ag.mem hw)⟩
 have hk:kA (cv c) b=true:=h0;have hh:=hk;have vH:=(kB.1 hh).2;have eH:x8.blocks.xs.length=c.blocks.xs.length:=by have:=congrArg (fun v:CV=>v.blocks.length) pS;simpa only[cv,fW]using this
 have Bu:x8.ops=c.ops:=congrArg CV.ops pS;have nu:(cv c).blocks.length=c.blocks.xs.length:=fW _;obtain⟨B,hB⟩:=get_some (xs:=x8.blocks.xs) (i:=b.toNat) oM;have mr:b.toNat<x8.blocks.xs.length:=(ad2.1 hB).1;have dZ:bv B=aA (cv c) b:=by
  have h1:=DL hh;have h2:=lD hB;rw[show ia x8.blocks.xs=(cv c).blocks from congrArg CV.blocks pS,h1]at h2;exact(ani h2).symm
 have fA:oG c.ab c.size (bv B)=true:=by rw[dZ];exact vd hh
 obtain⟨o1,o2,o3,o4,o5,o6⟩:=gy.1 fA;have hH:=kz.1 (eP.1 (kB.1 hh).1).1;have Bv:=(eP.1 (kB.1 hh).1).2.1;simp only[bv,cv]at o1 o2 o3 o4 o5 o6 hH Bv;have IH:=mW B.ab.xs;refine aq ?_;refine Gb (fun h1=>?_) fun h1=>?_
 ·
  have hE:rJ (cv c) b=7:=by rw[rJ,if_pos hk,if_pos (show(cv c).off=true from h1)]
  refine aM ?_;refine Gr fun w1 hw=>?_;exact⟨x8,by rw[hE],by rw[pS,qv,if_neg (by rw[hE];decide)],ng x8 (ag.mem hw)⟩
 have hE:rJ (cv c) b=0:=by rw[rJ,if_pos hk,if_neg (by rw[show(cv c).off=false from h1];simp)]
 refine aq ?_;refine ae (aV rfl rfl b.toNat oM mr) (ae (aH rfl rfl) (jy (s:=x8.blocks.sv) (n:=1) (k:=b.toNat) (j:=3) (a:=B) (a':=(⟨B.ab,B.used,B.bj,true⟩:Bk)) (xs:=x8.blocks.xs) (enc:=bP) (c:=4) (v:= .bool true) oK rfl rfl rfl hB (by simp[Value.cells,Value.oneCell']) (by rfl) (by decide) (by rfl) (aM ?_)));refine Gr fun w1 hw=>?_;exact⟨(⟨x8.ab,x8.size,⟨x8.blocks.sv,x8.blocks.xs.set b.toNat (⟨B.ab,B.used,B.bj,true⟩:Bk)⟩,x8.ops,x8.off,x8.bc⟩:Cp),by rw[hE];rfl,by rw[Wh pS dZ,qv,if_pos hE],ng (⟨x8.ab,x8.size,⟨x8.blocks.sv,x8.blocks.xs.set b.toNat (⟨B.ab,B.used,B.bj,true⟩:Bk)⟩,x8.ops,x8.off,x8.bc⟩:Cp) (by
  simp only[Wg hB (B':=(⟨B.ab,B.used,B.bj,true⟩:Bk)) rfl];exact ag.mem hw)⟩)⟩
instance ajC{c:Cp}{fs:Sv}{qK:List Ft}[hc:aS w0 L c][II:cA w0 L dG 4 fs qK]:bK Tryz.prog 42 w0 L [.agg (aR c),fs.val] (Cp) (fun zz=> .tuple #[.agg (aR zz), .int .i64 (vc (cv c) qK)]) (fun zz=>fz zz::L) (fun zz=>cv zz=A2 (cv c) qK) (fX c):=⟨fun az w hw=>Gk (fun zz=>[fz zz]) hw (by
 have hc:=hc.h w hw;have II:=II.h w hw;have jP:cl w c:=⟨hc⟩;have ajD:Gv w fs dG 4 qK:=⟨II⟩;have k6:fX c:=az;obtain⟨eW,gJ,kc⟩:=az;refine cq Tryz.func42 rfl Tryz.ntmps42 rfl ?_;refine Gc ?_;refine bx rfl fun b2=>ba fun b4=>ak ?_;refine bf rfl (by assumption) fun x8 pS=>ba fun b6=>lY ?_;refine Gb (fun h0=>?_) fun h0=>?_
 ·
  have hE:vc (cv c) qK=1:=by rw[vc,if_neg (fun h=>by rw[h.1]at h0;simp only[aoQ,false_or]at h0;omega)]
  refine aM ?_;refine Gr fun w1 hw=>?_;exact⟨x8,by rw[hE],by rw[pS,A2,if_neg (by rw[hE];decide)],ng x8 (ag.mem hw)⟩
 have hE:vc (cv c) qK=0:=by
  rw[vc,if_pos]
  cases hk:bl (cv c)with
  |false=>rw[hk]at h0;simp at h0
  |true=>exact⟨rfl,by rw[hk]at h0;simp only[aoQ,not_false_eq_true,true_and]at h0;omega⟩
 have dD:qK.length<=64:=by
  by_cases h9:bl (cv c)=true/\qK.length<=64
  ·
   exact h9.2
  rw[vc,if_neg h9]at hE;cases hE
 refine ar ?_;refine dN (cs':=aR (⟨x8.ab,x8.size,x8.blocks,x8.ops,false,x8.bc⟩:Cp)) rfl rfl (by show 4<6;decide) (by first|rfl|exact Sv.one _) rfl (ar ?_);refine bf rfl oM fun gD xx=>Gs ?_;refine dN (cs':=aR (⟨x8.ab,x8.size,x8.blocks,x8.ops,false,⟨gD,qK⟩⟩:Cp)) rfl rfl (by show 5<6;decide) (by first|rfl|exact Sv.one _) rfl (aM ?_);refine Gr fun w1 hw=>?_;exact⟨(⟨x8.ab,x8.size,x8.blocks,x8.ops,false,⟨gD,qK⟩⟩:Cp),by rw[hE],by rw[A2,if_pos hE,←pS];rfl,ng (⟨x8.ab,x8.size,x8.blocks,x8.ops,false,⟨gD,qK⟩⟩:Cp) (ag.mem hw)⟩)⟩
instance ajE{b:Sv}{bs:List UInt8}[hb:cA w0 L aP 1 b bs]:bW Tryz.prog 269 w0 L [.int .u32 0,b.val] (.int .u32 (pF bs:Nat)) (True):=⟨fun az w hw=>by
 have hb:=hb.h w hw;have xz:Gv w b aP 1 bs:=⟨hb⟩;have hU:=hb.bd;refine cq Tryz.func269 rfl Tryz.ntmps269 rfl ?_;refine aq ?_;refine ae (Nu (p:=0) rfl rfl (by decide)) (aX ?_);refine bI (X:=Nat) (fun zz=>[(13, .int .i64 (zz:Nat)),(5, .int .u32 (jD 4294967295 (bs.take zz):Nat)),(11,b.val),(12, .int .i64 (bs.length:Nat))]) (fun zz=>[]) (fun zz=>zz<=bs.length) (fun zz=>bs.length -zz) 0 (anH _) sb (fun w hw=>ag.mem hw) ?_;rintro i hi;have aZ:jD 4294967295 (bs.take i)<2^32:=Dp (by decide) _;refine ak ?_;refine Gb (fun h0=>?_) fun h0=>?_
 ·
  obtain⟨y,he⟩:=get_some (xs:=bs) (i:=i) oM;have hy:=y.toNat_lt;have dE:jD 4294967295 (bs.take i)^^^y.toNat<2^32:=ao5 (Dp (by decide) _) oM;refine Gc ?_;refine ae (aV rfl rfl i rfl oM) (ae (bJ (j:=0) rfl i he rfl (by decide)) (aq ?_));refine ae (lR rfl (by simp only[nb];omega)) (ae (FK rfl rfl rfl rfl (by simp only[nb];omega) (by simp only[nb];omega)) (aq ?_));refine bI (X:=Nat) (fun zz=>[(21, .int .i64 (zz:Nat)),(5, .int .u32 ((mU (jD 4294967295 (bs.take i)^^^y.toNat) zz):Nat)),(11,b.val),(12, .int .i64 (bs.length:Nat)),(13, .int .i64 (i:Nat))]) (fun zz=>[]) (fun zz=>zz<=8) (fun zz=>8 -zz) 0 (anH _) sb (fun w hw=>ag.mem hw) ?_;rintro k hk;refine ak ?_;refine Gb (fun h1=>?_) fun h1=>?_
  ·
   have wR:(mU (jD 4294967295 (bs.take i)^^^y.toNat) k)<2^32:=Hj dE k;have Zq:(mU (jD 4294967295 (bs.take i)^^^y.toNat) k)/2<2^32:=by omega
   refine ar ?_;refine ae (Ry.to (v':= .int .u32 (((mU (jD 4294967295 (bs.take i)^^^y.toNat) k)%2:Nat):Int)) (KB (p:=(mU (jD 4294967295 (bs.take i)^^^y.toNat) k)) (q:=1) rfl rfl rfl rfl (by simp only[nb];omega) (by decide)) (by rw[Nat.and_one_is_mod])) (ak ?_);refine ae (sL (p:=(mU (jD 4294967295 (bs.take i)^^^y.toNat) k)) rfl rfl (by simp only[nb];omega) oM) (aq ?_);refine ae (SW (p:=3988292384) (q:=(mU (jD 4294967295 (bs.take i)^^^y.toNat) k)%2) rfl rfl rfl rfl (by simp only[nb];omega)) ?_;refine ae (Ry.to (v':= .int .u32 ((mU (jD 4294967295 (bs.take i)^^^y.toNat) (k+1):Nat):Int)) (FK (p:=(mU (jD 4294967295 (bs.take i)^^^y.toNat) k)/2^1) (q:=3988292384*((mU (jD 4294967295 (bs.take i)^^^y.toNat) k)%2)) rfl rfl rfl rfl (by simp only[nb];omega) (by simp only[nb];omega)) (by rw[mU,Hi];rcases Nat.mod_two_eq_zero_or_one (mU (jD 4294967295 (bs.take i)^^^y.toNat) k)with h|h<;>rw[h]<;>rfl)) ?_;refine aq ?_;refine Gi ?_;exact bb (x:=(k)) (k+1) oF oF sb (fun w hw=>ag.mem hw)
  obtain rfl:k=8:=by omega
  refine ak ?_;refine Gi ?_;exact bb (x:=(i)) (i+1) oF oF (Sub.cons rfl (Sub.cons (look_eq rfl (by rw[U6 he];rfl)) sb)) (fun w hw=>ag.mem hw)
 obtain rfl:i=bs.length:=by omega
 refine ar ?_;refine ae (Nu (p:=jD 4294967295 (bs.take bs.length)) rfl rfl (Dp (by decide) _)) (ar ?_);refine Gr fun w1 hw=>?_;exact⟨(by rw[anD];rfl),ag.mem hw⟩⟩
instance ajF{b:Sv}{bs:List UInt8}[hb:cA w0 L aP 1 b bs]:bW Tryz.prog 229 w0 L [b.val] (.int .u32 (pF bs:Nat)) (True):=⟨fun az w hw=>by
 have hb:=hb.h w hw;have xz:Gv w b aP 1 bs:=⟨hb⟩;refine cd Tryz.func229 rfl Tryz.ntmps229 rfl ?_;refine cx ?_;refine Gr fun w1 hw=>?_;exact⟨rfl,ag.mem hw⟩⟩
instance ajG{n:Nat}{many:Nat}:bK Tryz.prog 112 w0 L [.int .u64 (n:Nat), .int .i64 (many:Nat)] (Sv) (fun zz=>zz.val) (fun zz=>own aP 1 zz (be n many)::L) (fun zz=>True) (n<2^64/\1<=many/\many<=8):=⟨fun az w hw=>Gk (fun zz=>[own aP 1 zz (be n many)]) hw (by
 obtain⟨eW,gJ,kc⟩:=az;refine cq Tryz.func112 rfl Tryz.ntmps112 rfl ?_;refine pD ?_;refine Gb (fun h0=>?_) fun h0=>?_
 ·
  exfalso;omega
 refine ar ?_;refine ri (enc:=aP) (n:=many) (cap:=many) 0 rfl rfl rfl rfl rfl oM oM oM fun Ew=>ak ?_;refine ae (Ry.to (v':= .int .i64 (many:Nat)) (oy rfl) (by simp)) (ar ?_);refine bI (X:=Nat) (fun zz=>[(17, .int .i64 (zz:Nat)),(5,(⟨false,Ew,0,many,many,none⟩:Sv).val),(0, .int .u64 (n:Nat)),(1, .int .i64 (many:Nat)),(16, .int .i64 (many:Nat))]) (fun zz=>[own aP 1 ⟨false,Ew,0,many,many,none⟩ (List.replicate (many -zz) (0:UInt8)++be n zz)]) (fun zz=>zz<=many) (fun zz=>many -zz) 0 (anH _) sb (fun w hw=>by rw[show List.replicate (many -0) (0:UInt8)++be n 0=List.replicate many 0 from by rw[be,anN,Nat.sub_zero]];exact ag.mem hw) ?_;rintro i hi;have eH:=lq n i;have Hx:(List.replicate (many -i) (0:UInt8)++be n i).length=many:=by rw[af0,anZ,eH];omega
 refine ak ?_;refine Gb (fun h1=>?_) fun h1=>?_
 ·
  refine lY ?_;refine ae (od rfl rfl oM) (ae (Ry.to (v':= .int .u64 ((n/256^i:Nat):Int)) (sL (p:=n) rfl rfl (by simp only[nb];omega) oM) (by rw[show(8*(i:Int)).toNat=8*i by omega,Nat.pow_mul])) (ae (Ar rfl rfl) (ae (aV rfl rfl (many -1 -i) oM oM) ?_)));refine YX rfl rfl (by rw[ann (by rw[anZ];omega),apq,if_pos oM]) rfl ?_;refine ak ?_;refine Gi ?_;exact bb (x:=(i)) (i+1) oF oF sb (fun w hw=>by rw[Wl oM]at hw;exact ag.mem hw)
 have IJ:i=many:=by omega
 refine aq ?_;refine Gr fun w1 hw=>?_;exact⟨⟨false,Ew,0,many,many,none⟩,rfl,trivial,by rw[IJ,aoI,List.replicate_zero,anR]at hw;exact ag.mem hw⟩)⟩
instance ajH{b:Sv}{bs:List UInt8}[hb:cA w0 L aP 1 b bs]:bW Tryz.prog 113 w0 L [b.val] (.int .u64 (de bs:Nat)) (bs.length<=7):=⟨fun az w hw=>by
 have hb:=hb.h w hw;have xz:Gv w b aP 1 bs:=⟨hb⟩;refine cd Tryz.func113 rfl Tryz.ntmps113 rfl ?_;refine gV ?_;refine bI (X:=Nat) (fun zz=>[(8, .int .i64 (zz:Nat)),(3, .int .u64 (de (bs.take zz):Nat)),(6,b.val),(7, .int .i64 (bs.length:Nat))]) (fun zz=>[]) (fun zz=>zz<=bs.length) (fun zz=>bs.length -zz) 0 (anH _) sb (fun w hw=>ag.mem hw) ?_;rintro i hi;refine ak ?_;refine Gb (fun h0=>?_) fun h0=>?_
 ·
  obtain⟨y,he⟩:=get_some (xs:=bs) (i:=i) oM;have hy:=y.toNat_lt;have aZ:de (bs.take i)<256^6:=anW (Gm bs i hi) (an9 (by decide) oM);refine Gc ?_;refine ae (aV rfl rfl i rfl oM) (ae (bJ (j:=0) rfl i he rfl (by decide)) (ak ?_));refine ae (Wk (p:=de (bs.take i)) rfl rfl rfl oM) (Gs ?_);refine ae (lR rfl (by simp only[nb];omega)) (ae (yc (p:=de (bs.take i)*256) (q:=y.toNat) rfl rfl rfl rfl (by simp only[nb];omega) (by simp only[nb];omega)) (aq ?_));refine Gi ?_;exact bb (x:=(i)) (i+1) oF oF (Sub.cons rfl (Sub.cons (look_eq rfl (by rw[KN he,KP _ _ hy])) sb)) (fun w hw=>ag.mem hw)
 obtain rfl:i=bs.length:=by omega
 refine aq ?_;refine Gr fun w1 hw=>?_;exact⟨(by rw[anD]),ag.mem hw⟩⟩
instance ajI{n:Nat}:bK Tryz.prog 185 w0 L [.slice none 0 0, .int .i64 (n:Nat)] (Sv) (fun zz=>zz.val) (fun zz=>own aP 1 zz ([]:List UInt8)::L) (fun zz=>True) (n<=1000000000):=⟨fun az w hw=>Gk (fun zz=>[own aP 1 zz ([]:List UInt8)]) hw (by
 refine cq Tryz.func185 rfl Tryz.ntmps185 rfl ?_;refine aX ?_;refine Gb (fun h0=>?_) fun h0=>?_
 ·
  exfalso;omega
 refine ak ?_;refine ae (Dq rfl) (Gs ?_);refine ae (wj rfl) (cx ?_);refine Gb (fun h1=>?_) fun h1=>?_
 ·
  refine Gi ?_;refine ar ?_;refine ae (Dq rfl) (ae (Ry.to (v':= .slice none 0 0) (uI (s:=Sv.none) (h:=0) rfl rfl rfl Sv.Am (anm _)) rfl) (Gs ?_));refine Mv (enc:=aP) (k:=n) (0:UInt8) rfl rfl oM oM (by decide) rfl Tryz.underlying3 oM oM fun Bw Bx IK=>Gs ?_;refine ae (wj rfl) (ae (uI (s:=⟨false,Bw,0,n,Bx,none⟩) (h:=0) rfl rfl rfl ⟨(fun h=>by cases h),IK,by simp only;omega,fun _=>rfl⟩ (anH _)) (aM ?_));refine Gr fun w1 hw=>?_;refine⟨Sv.sub ⟨false,Bw,0,n,Bx,none⟩ 1 0 0,rfl,trivial,?_⟩;have fK:=Mem.Mu (i:=0) (k:=0) hw rfl (anH _);rw[anP]at fK;exact fK
 have hn:n=0:=by omega
 refine aq ?_;refine Gr fun w1 hw=>?_;exact⟨Sv.none,rfl,trivial,(ag.mem hw:Mem w [] _).cz aP 1⟩)⟩
instance ajJ{a:Sl (Sl UInt8)}[ha:aS w0 L a]:bK Tryz.prog 111 w0 L [a.sv.val] (Sv) (fun zz=>zz.val) (fun zz=>own aP 1 zz (jE a.xs)::L) (fun zz=>True) ((jE a.xs).length<=1000000):=⟨fun az w hw=>Gk (fun zz=>[own aP 1 zz (jE a.xs)]) hw (by
 have ha:=ha.h w hw;have IL:cl w a:=⟨ha⟩;have sD:=ha.1.bd;have dD:=Va a.xs;refine cd Tryz.func111 rfl Tryz.ntmps111 rfl ?_;refine gV ?_;refine bI (X:=Nat) (fun zz=>[(11, .int .i64 (zz:Nat)),(3, .int .i64 ((jE (a.xs.take zz)).length:Nat)),(0,a.sv.val),(9,a.sv.val),(10, .int .i64 (a.xs.length:Nat))]) (fun zz=>[]) (fun zz=>zz<=a.xs.length) (fun zz=>a.xs.length -zz) 0 (anH _) sb (fun w hw=>ag.mem hw) ?_;rintro i hi;have uZ:=dD i;have jX:=dD (i+1);refine ak ?_;refine Gb (fun h0=>?_) fun h0=>?_
 ·
  refine lZ ?_;obtain⟨x,hx⟩:=get_some (xs:=a.xs) (i:=i) oM;refine ae (aV rfl rfl i rfl oM) (ae (bJ (j:=0) rfl i hx rfl (by decide)) ?_);have Zr:(jE (a.xs.take (i+1))).length=(jE (a.xs.take i)).length+x.xs.length:=by rw[Dr hx,af0]
  have Ey:Mb x _:=⟨List.mem_of_getElem? hx⟩;refine lY ?_;refine Gb (fun h1=>?_) fun h1=>?_
  ·
   exfalso;omega
  refine ak ?_;refine Gi ?_;exact bb (x:=(i)) (i+1) oF oF (Sub.cons rfl (Sub.cons (look_eq rfl (by rw[Dr hx,af0];simp)) sb)) (fun w hw=>ag.mem hw)
 obtain rfl:i=a.xs.length:=by omega
 have nH:=dD a.xs.length;refine ar ?_;refine bf rfl oM fun vI IM=>aX ?_;refine bI (X:=Nat×Sv) (fun zz=>[(27, .int .i64 (zz.1:Nat)),(6,zz.2.val),(25,a.sv.val),(26, .int .i64 (a.xs.length:Nat))]) (fun zz=>[own aP 1 zz.2 (jE (a.xs.take zz.1))]) (fun zz=>zz.1<=a.xs.length) (fun zz=>a.xs.length -zz.1) (0,vI) (Nat.zero_le _) sb (fun w hw=>(ag.mem hw:Mem _ [own aP 1 vI ([]:List UInt8)] _)) ?_;rintro⟨k,s1⟩ hk;dsimp only;simp only at hk;have uZ:=dD k;have jX:=dD (k+1);refine ak ?_;refine Gb (fun h2=>?_) fun h2=>?_
 ·
  refine lZ ?_;obtain⟨y,hy⟩:=get_some (xs:=a.xs) (i:=k) oM;refine ae (aV rfl rfl k rfl oM) (ae (bJ (j:=0) rfl k hy rfl (by decide)) ?_);have Zs:(jE (a.xs.take (k+1))).length=(jE (a.xs.take k)).length+y.xs.length:=by rw[Dr hy,af0]
  have PT:Mb y _:=⟨List.mem_of_getElem? hy⟩;refine aq ?_;refine iv (s:=s1) (ys:=y.xs) rfl rfl (by decide) (fun w hw=>gF (s:=y.sv) Tryz.underlying53 (by decide) ((inferInstance:Hd _ _ y.sv aP 1 y.xs).h w hw)) oM oM fun IN Zt Zu=>?_;refine aq ?_;refine Gi ?_;exact bb (x:=(k,s1)) (k+1,IN) (by simp only;omega) (by simp only;omega) sb (fun w hw=>by rw[Dr hy];exact ag.mem hw)
 obtain rfl:k=a.xs.length:=by omega
 refine aq ?_;refine Gr fun w1 hw=>?_;exact⟨s1,rfl,trivial,by rw[anD]at hw;exact ag.mem hw⟩)⟩
instance ajK{s:Sv}{ss:List UInt8}[hs:cA w0 L aP 1 s ss]:bK Tryz.prog 230 w0 L [s.val] (Sv) (fun zz=>zz.val) (fun zz=>own aP 1 zz ss::L) (fun zz=>True) (ss.length<=1000000):=⟨fun az w hw=>Gk (fun zz=>[own aP 1 zz ss]) hw (by
 have hs:=hs.h w hw;have vC:Gv w s aP 1 ss:=⟨hs⟩;refine cd Tryz.func230 rfl Tryz.ntmps230 rfl ?_;refine aq ?_;refine ae (sR Tryz.underlying53 rfl) (Gc ?_);refine Gb (fun h0=>?_) fun h0=>?_
 ·
  have e0:ss=[]:=anB.1 (by have:=hs.ok.nil h0;have:=hs.len;omega);refine ak ?_;refine Gr fun w1 hw=>?_;exact⟨Sv.none,rfl,trivial,by rw[e0];exact(ag.mem hw:Mem w [] _).cz aP 1⟩
 refine Gc ?_;refine uN aP fun b5=>Gs ?_;refine iv (s:=⟨false,b5,0,0,0,none⟩) (ys:=ss) rfl rfl (by decide) (fun w hw=>gF (s:=s) Tryz.underlying53 (by decide) ((inferInstance:Hd _ _ s aP 1 ss).h w hw)) (by simp only[af0,ang,anh];omega) (by simp only[af0,ang,anh];omega) fun s7 xw vD=>?_;refine ar ?_;refine Gr fun w1 hw=>?_;exact⟨s7,rfl,trivial,by simpa using hw⟩)⟩
instance:dB Tryz.prog 324 (.agg (cD nh)):=⟨by kernel_rfl⟩
instance ajL{n:Int}:bW Tryz.prog 144 w0 L [.int .i64 n] (.bool (rM n)) (True):=⟨fun az w hw=>by
 refine cd Tryz.func144 rfl Tryz.ntmps144 rfl ?_;refine lY ?_;refine Gr fun w1 hw=>?_;exact⟨congrArg (fun b=>Ending.returned (Value.bool b)) (rfl),ag.mem hw⟩⟩
instance ajM{n:Int}:bW Tryz.prog 76 w0 L [.int .i64 n] (.int .i64 (fy n)) (True):=⟨fun az w hw=>by
 refine cd Tryz.func76 rfl Tryz.ntmps76 rfl ?_;refine cx ?_;refine Gb (fun h0=>?_) fun h0=>?_
 ·
  refine ak ?_;refine Gr fun w1 hw=>?_;exact Gf ((by rw[fy,if_neg (by rw[h0];simp)])) hw
 have hf:=A7.1 h0;refine aM ?_;refine Gr fun w1 hw=>?_;exact⟨congrArg (fun b=>Ending.returned (Value.int .i64 b)) ((by rw[fy,if_pos h0])),ag.mem hw⟩⟩
instance ajN{x:eA}{n:Int}[hx:aS w0 L x]:bW Tryz.prog 268 w0 L [.agg (cD x), .int .i64 n] (.bool (yT (cr x) n)) (True):=⟨fun az w hw=>by
 have hx:=hx.h w hw;have zw:cl w x:=⟨hx⟩;refine cq Tryz.func268 rfl Tryz.ntmps268 rfl ?_;refine Gc ?_;refine bx rfl fun b2=>ar ?_;refine eS oK oK (Gq ?_);refine lS (bF rfl trivial) (aq ?_);refine dM rfl rfl rfl (fun hg=>(Ry.yl (aK (aw hg rfl)))) (FO rfl rfl rfl (fun hg=>(Ry.yl (aH (o':=0) rfl rfl))) (FO rfl rfl rfl (fun hg=>(Ry.yl (bC (aw hg rfl)))) (FO rfl rfl rfl (fun hg=>(Ry.yl (cQ (aw hg rfl) rfl rfl))) (dM rfl rfl rfl (fun hg=>(Ry.yl (wi (aw hg rfl) rfl (uF hg rfl)))) (UF ?_)))));refine dM rfl rfl rfl (fun hg=>bF (cF (aw hg rfl) eX) trivial) (aq ?_);refine Gr fun w1 hw=>?_;exact⟨congrArg (fun b=>Ending.returned (Value.bool b)) ((by simp only[yT,cr];rw[show decide ((x.gen.toNat:Int)<281474976710656)=decide (x.gen.toNat<281474976710656)from decide_eq_decide.2 oM];rfl)),ag.mem hw⟩⟩
instance ajO{b:Sv}{bs:List UInt8}[hb:cA w0 L aP 1 b bs]:bW Tryz.prog 267 w0 L [b.val] (.bool (pJ bs)) (True):=⟨fun az w hw=>by
 have hb:=hb.h w hw;have xz:Gv w b aP 1 bs:=⟨hb⟩;have hU:=hb.bd;refine cd Tryz.func267 rfl Tryz.ntmps267 rfl ?_;refine cx ?_;refine bI (X:=Nat) (fun zz=>[(7, .int .i64 (zz:Nat)),(5,b.val),(6, .int .i64 (bs.length:Nat))]) (fun zz=>[]) (fun zz=>zz<=bs.length/\ ∀j x,j<zz->bs[j]? =Option.some x->x=255) (fun zz=>bs.length -zz) 0 ⟨Nat.zero_le _,fun j x hj=>by first|omega|(simp only[];omega)⟩ sb (fun w hw=>ag.mem hw) ?_;rintro i ⟨aW,aB⟩;refine ak ?_;refine Gb (fun h0=>?_) fun h0=>?_
 ·
  refine lZ ?_;obtain⟨y,hy⟩:=get_some (xs:=bs) (i:=i) oM;refine ae (aV rfl rfl i rfl oM) (ae (bJ (j:=0) rfl i hy rfl (by decide)) (aM ?_));refine Gb (fun h1=>?_) fun h1=>?_
  ·
   have hz:pJ bs=false:=by
    cases hk:pJ bs with
    |false=>rfl
    |true=>exact absurd (congrArg UInt8.toNat (Ny.1 hk y (alM hy))) (by intro e;exact h1 (by rw[e];rfl))
   refine ak ?_;refine Gr fun w1 hw=>?_;exact Ge (hz.symm) hw
  have IP:y=255:=apl.1 (show y.toNat=255 by omega);refine ak ?_;refine Gi ?_;exact bb (x:=(i)) (i+1) ⟨oF,fun j x hj hx=>if e:j=i then(by subst e;rw[hy]at hx;cases hx;exact IP)else aB j x oF hx⟩ oF sb (fun w hw=>ag.mem hw)
 obtain rfl:i=bs.length:=by omega
 have hz:pJ bs=true:=Ny.2 fun x hx=>by
  obtain⟨j,hj⟩:=aoi hx;exact aB j x (ad2.1 hj).1 hj
 refine ak ?_;refine Gr fun w1 hw=>?_;exact⟨congrArg (fun b=>Ending.returned (Value.bool b)) (hz.symm),ag.mem hw⟩⟩
instance:dB Tryz.prog 314 (.agg (dQ kC)):=⟨by kernel_rfl⟩
instance ajP{n:Int}:bW Tryz.prog 143 w0 L [.int .i64 n] (.int .i64 (lE n)) (True):=⟨fun az w hw=>by
 have Zv:rM n=true->24<=n/\n<=256:=fun h=>A7.1 h;have hrb:0<=fy n/\fy n<=240:=by
  by_cases h:rM n=true
  ·
   have:=Zv h;rw[fy,if_pos h];omega
  rw[fy,if_neg h];omega
 refine cd Tryz.func143 rfl Tryz.ntmps143 rfl ?_;refine aM ?_;refine ae (kl rfl rfl oM oM) (ae (FL rfl rfl) (ar ?_));refine Gr fun w1 hw=>?_;exact⟨congrArg (fun b=>Ending.returned (Value.int .i64 b)) (rfl),ag.mem hw⟩⟩
instance ajQ{r:cW}{n:Int}[hr:aS w0 L r]:bW Tryz.prog 254 w0 L [.agg (dQ r), .int .i64 n] (.bool (tm (da r) n)) (True):=⟨fun az w hw=>by
 have hr:=hr.h w hw;have Zw:cl w r:=⟨hr⟩;have hU:=hr.1.bd;refine cq Tryz.func254 rfl Tryz.ntmps254 rfl ?_;refine Gc ?_;refine bx rfl fun b2=>ar ?_;refine eS oK oK (Gq ?_);refine lS (bF rfl trivial) (lY ?_);refine dm rfl rfl rfl (fun hg=>bF (cF (aw hg rfl) eX) trivial) (ak ?_);refine Gb (fun h0=>?_) fun h0=>?_
 ·
  have hz:tm (da r) n=false:=by
   cases hk:tm (da r) n with
   |false=>rfl
   |true=>
    obtain⟨g1,g2,g3,g4⟩:=A8.1 hk;simp only[da]at g2 g3;omega
  refine ak ?_;refine Gr fun w1 hw=>?_;exact Ge (hz.symm) hw
 have g0:fy n≠0/\r.gen.toNat<281474976710656/\(r.at_.xs.length:Int)<=lE n:=⟨by omega,by omega,by omega⟩;refine aX ?_;refine bI (X:=Nat) (fun zz=>[(26, .int .i64 (zz:Nat)),(24,r.at_.sv.val),(25, .int .i64 (r.at_.xs.length:Nat))]) (fun zz=>[an b2 (dQ r) 314]) (fun zz=>zz<=r.at_.xs.length/\ ∀j x,j<zz->r.at_.xs[j]? =Option.some x->yW x=true) (fun zz=>r.at_.xs.length -zz) 0 ⟨Nat.zero_le _,fun j x hj=>by first|omega|(simp only[];omega)⟩ sb (fun w hw=>ag.mem hw) ?_;rintro i ⟨aW,aB⟩;refine ak ?_;refine Gb (fun h1=>?_) fun h1=>?_
 ·
  refine lZ ?_;obtain⟨y,hy⟩:=get_some (xs:=r.at_.xs) (i:=i) oM;refine ae (aV rfl rfl i rfl oM) (ae (bJ (j:=0) rfl i hy rfl (by decide)) (gV ?_));refine Gb (fun h2=>?_) fun h2=>?_
  ·
   have hz:tm (da r) n=false:=by
    cases hk:tm (da r) n with
    |false=>rfl
    |true=>
     have g:=HK.1 ((A8.1 hk).2.2.2 y (alM hy));omega
   refine ak ?_;refine Gr fun w1 hw=>?_;exact Ge (hz.symm) hw
  have IQ:yW y=true:=HK.2 ⟨by omega,by omega⟩;refine ak ?_;refine Gi ?_;exact bb (x:=(i)) (i+1) ⟨oF,fun j x hj hx=>if e:j=i then(by subst e;rw[hy]at hx;cases hx;exact IQ)else aB j x oF hx⟩ oF sb (fun w hw=>ag.mem hw)
 obtain rfl:i=r.at_.xs.length:=by omega
 have hz:tm (da r) n=true:=A8.2 ⟨g0.1,g0.2.1,g0.2.2,fun x hx=>by
  obtain⟨j,hj⟩:=aoi hx;exact aB j x (ad2.1 hj).1 hj⟩
 refine ak ?_;refine Gr fun w1 hw=>?_;exact⟨congrArg (fun b=>Ending.returned (Value.bool b)) (hz.symm),ag.mem hw⟩⟩
instance:dB Tryz.prog 63 (.agg (bX kD)):=⟨by kernel_rfl⟩
instance ajR{c:Cp}[hc:aS w0 L c]:bW Tryz.prog 164 w0 L [.agg (aR c)] (.bool (oJ (cv c))) (True):=⟨fun az w hw=>by
 have hc:=hc.h w hw;have jP:cl w c:=⟨hc⟩;refine cd Tryz.func164 rfl Tryz.ntmps164 rfl ?_;refine Gc ?_;refine bx rfl fun b1=>UG ?_;refine Gr fun w1 hw=>?_;exact⟨congrArg (fun b=>Ending.returned (Value.bool b)) ((by simp only[oJ,cv,fW];rfl)),ag.mem hw⟩⟩
instance ajS{c:Cp}[hc:aS w0 L c]:bK Tryz.prog 165 w0 L [.agg (aR c)] (Cp) (fun zz=> .agg (aR zz)) (fun zz=>fz zz::L) (fun zz=>cv zz=cv c) (fX c):=⟨fun az w hw=>Gk (fun zz=>[fz zz]) hw (by
 have hc:=hc.h w hw;have jP:cl w c:=⟨hc⟩;refine cd Tryz.func165 rfl Tryz.ntmps165 rfl ?_;refine Gc ?_;refine bx rfl fun b1=>ba fun b2=>aq ?_;refine bf rfl (by assumption) fun x9 xA=>Gs ?_;refine ae (aF (v:= .agg (aR x9)) rfl rfl) (ae (aF (v:= .int .i64 (vc (cv c) c.bc.xs)) rfl rfl) (ba fun b3=>aX ?_));refine dN (cs':=aR (⟨x9.ab,x9.size,x9.blocks,x9.ops,c.off,x9.bc⟩:Cp)) rfl rfl (by show 4<6;decide) (by first|rfl|exact Sv.one _) rfl (aq ?_);refine Gr fun w1 hw=>?_;exact⟨(⟨x9.ab,x9.size,x9.blocks,x9.ops,c.off,x9.bc⟩:Cp),rfl,by
  have h9:cv (⟨x9.ab,x9.size,x9.blocks,x9.ops,c.off,x9.bc⟩:Cp)={cv x9 with off:=(cv c).off}:=rfl
  rw[h9,xA];exact WC (cv c),by
  have h9:Mem w [fz x9] _:=ag.mem hw;exact h9⟩)⟩
instance ajT{s:Sv}{ss:List Int}[hs:cA w0 L bt 1 s ss]:bK Tryz.prog 169 w0 L [s.val] (Sv) (fun zz=>zz.val) (fun zz=>own bt 1 zz ss::L) (fun zz=>True) (ss.length<=1000000):=⟨fun az w hw=>Gk (fun zz=>[own bt 1 zz ss]) hw (by
 have hs:=hs.h w hw;have vC:Gv w s bt 1 ss:=⟨hs⟩;refine cd Tryz.func169 rfl Tryz.ntmps169 rfl ?_;refine aq ?_;refine ae (sR Tryz.underlying60 rfl) (Gc ?_);refine Gb (fun h0=>?_) fun h0=>?_
 ·
  have e0:ss=[]:=anB.1 (by have:=hs.ok.nil h0;have:=hs.len;omega);refine ak ?_;refine Gr fun w1 hw=>?_;exact⟨Sv.none,rfl,trivial,by rw[e0];exact(ag.mem hw:Mem w [] _).cz bt 1⟩
 refine Gc ?_;refine uN bt fun b5=>Gs ?_;refine iv (s:=⟨false,b5,0,0,0,none⟩) (enc:=bt) (ys:=ss) rfl rfl (by decide) (fun w hw=>gF (s:=s) Tryz.underlying60 (by decide) ((inferInstance:cA _ _ bt 1 s ss).h w hw)) (by simp only[anh];omega) (by simp only[anh];omega) fun s7 xw vD=>?_;refine ar ?_;refine Gr fun w1 hw=>?_;exact⟨s7,rfl,trivial,by rw[anR]at hw;exact ag.mem hw⟩)⟩
instance ajU{v:bV}[hv:aS w0 L v]:bK Tryz.prog 175 w0 L [.agg (bX v)] (Cp×Sv) (fun zz=> .agg (bX (⟨zz.1,⟨zz.2,v.at_.xs⟩,v.gen,v.last⟩:bV))) (fun zz=>fz zz.1::own bt 1 zz.2 v.at_.xs::L) (fun zz=>cv zz.1=cv v.aj) (fX v.aj/\v.at_.xs.length<=1000000):=⟨fun az w hw=>Gk (fun zz:Cp×Sv=>[fz zz.1,own bt 1 zz.2 v.at_.xs]) hw (by
 have hv:=hv.h w hw;have By:cl w v:=⟨hv⟩;obtain⟨eW,gJ⟩:=az;refine cd Tryz.func175 rfl Tryz.ntmps175 rfl ?_;refine Gc ?_;refine bx rfl fun b1=>ba fun b2=>Gc ?_;refine rB [2,5,7,9,1001,1004,5002,5005] [[],[],[1],[],[],[1,2,4],[1,2,4],[1,2,4,5],[1,2,4,5,7],[1,2,4,5,7]] [0,1,3,4,2,6,5,7,8,9] [] [] oK (fun _ hw=>ag.mem hw) oK oK (al rfl (aH (o':=0) rfl rfl) (gw rfl (fa rfl) (al rfl (aH (o':=6) rfl rfl) (gw rfl (bC rfl) (Me rfl (lX rfl (by assumption) fun x5 IS=>⟨fun _ hw=>ag.mem hw,fun _ hw=>ag.mem hw,?_⟩))))));refine al rfl (aH (o':=0) rfl rfl) (Me rfl (lX rfl oM fun x8 pS=>⟨fun _ hw=>ag.mem hw,fun _ hw=>ag.mem hw,?_⟩));refine cO rfl (L6 (cs':=bX ({v with aj:=x5}:bV)) rfl rfl (by show 0+6<=9;decide) rfl ⟨fun _ hw=>ag.mem hw,?_⟩)
 refine al rfl (aH (o':=6) rfl rfl) ?_;refine cO rfl (wO (cs':=bX (⟨x5,⟨x8,v.at_.xs⟩,v.gen,v.last⟩:bV)) rfl rfl (by show 6<9;decide) (by first|rfl|exact Sv.one _) rfl ⟨fun _ hw=>ag.mem hw,?_⟩);refine aq ?_;refine Gr fun w1 hw=>?_;exact⟨(x5,x8),rfl,IS,ag.mem hw⟩)⟩
theorem Zx(b:List UInt8)(w:World):(Instr.build 324 #[(0, .int .i64 ((b.getD 0 0).toNat:Int)),(1, .int .i64 ((b.getD 1 0).toNat:Int)),(2, .int .u64 ((de ((b.drop 2).take (8 -2)):Nat):Int))]).run Tryz.prog w= .ok (.agg (cD (tl b))) w:=by
 rw[←NB];unfold cD tl;generalize UInt64.ofNat (de ((b.drop 2).take (8 -2)))=g;kernel_rfl
instance ajV{b:Sv}{bs:List UInt8}[hb:cA w0 L aP 1 b bs]:bK Tryz.prog 227 w0 L [b.val] (eA) (fun zz=> .tuple #[.agg (cD zz), .int .i64 ((di bs).2)]) (fun zz=>own aP 1 zz.body.sv zz.body.xs::L) (fun zz=>cr zz=(di bs).1) (True):=⟨fun az w hw=>Gk (fun zz:eA=>[own aP 1 zz.body.sv zz.body.xs]) hw (by
 have hb:=hb.h w hw;have xz:Gv w b aP 1 bs:=⟨hb⟩;have hU:=hb.bd;have ghd:cl w (tl bs):=⟨⟨dq.nil _ _ _,fun x hx=>by cases hx⟩⟩;have hml:=NA bs;have Bz:=HG bs;have ov:=Mt (nj bs);have dP:=Ws bs;refine cd Tryz.func227 rfl Tryz.ntmps227 rfl ?_;refine Gc ?_;refine ba fun b2=>cx ?_;refine Gb (fun h0=>?_) fun h0=>?_
 ·
  have hE:di bs=(jF,3):=by rw[di,if_pos h0]
  refine Gc ?_;refine ae (cG (v:= .agg (cD nh)) rfl (fun w=>by kernel_rfl)) (ak ?_);refine Gr fun w1 hw=>?_;exact⟨nh,by rw[hE],by rw[hE];rfl,Mem.cz aP 1 (ag.mem hw:Mem w [] _)⟩
 have Zy:=A7.1 h0;have BA:fy bs.length=bs.length -16:=by rw[fy,if_pos h0]
 refine aq ?_;refine Gb (fun h1=>?_) fun h1=>?_
 ·
  have hE:di bs=(jF,0):=by rw[di,if_neg (by rw[h0];simp),if_pos h1]
  refine Gc ?_;refine ae (cG (v:= .agg (cD nh)) rfl (fun w=>by kernel_rfl)) (ak ?_);refine Gr fun w1 hw=>?_;exact⟨nh,by rw[hE],by rw[hE];rfl,Mem.cz aP 1 (ag.mem hw:Mem w [] _)⟩
 refine Gc ?_;refine eS oK oK (aq ?_);have PU:Rg 0 (bs.length -4) bs.length:=⟨by omega⟩;refine bn (KT rfl rfl (bs.length -4) oM PU.h.2) (aq ?_);have Ez:Rg (bs.length -4) bs.length bs.length:=⟨by omega⟩;refine bn (CN rfl rfl (bs.length -4) oM Ez.h.1) (aq ?_);refine c6 (bF (v:= .int .u64 ((de (DV bs):Nat):Int)) rfl (by rw[anj,ant];omega)) (Gs ?_);refine c6 (bF (v:= .int .u32 ((pF (nj bs):Nat):Int)) rfl trivial) (ae (lR rfl (by simp only[nb];omega)) (ar ?_));refine Gb (fun h2=>?_) fun h2=>?_
 ·
  have hE:di bs=(jF,4):=by rw[di,if_neg (by rw[h0];simp),if_neg (by rw[h1];simp),if_pos (fun e=>h2 (by rw[e]))]
  refine Gc ?_;refine ae (cG (v:= .agg (cD nh)) rfl (fun w=>by kernel_rfl)) (ak ?_);refine Gr fun w1 hw=>?_;exact⟨nh,by rw[hE],by rw[hE];rfl,Mem.cz aP 1 (ag.mem hw:Mem w [] _)⟩
 have pC: ¬de (DV bs)≠pF (nj bs):=fun e=>e oM;refine Gc ?_;refine gx [12,13] [[],[],[],[],[],[],[],[],[],[],[],[],[],[12]] [0,1,2,3,4,5,6,7,8,9,10,11,12,13] [] (fun _ hw=>ag.mem hw) oK oK (al rfl (aK rfl) (al rfl (aV rfl rfl 0 rfl oM) (al rfl (bJ (j:=0) rfl 0 (mL (xs:=bs) (i:=0) (d:=0) oM) rfl (by decide)) (al rfl (wA rfl) (al rfl (aK rfl) (al rfl (aV rfl rfl 1 rfl oM) (al rfl (bJ (j:=0) rfl 1 (mL (xs:=bs) (i:=1) (d:=0) oM) rfl (by decide)) (al rfl (wA rfl) (al rfl (aK rfl) ?_)))))))));have PW:Rg 2 8 bs.length:=⟨by omega⟩;refine al rfl (CM rfl rfl rfl 2 8 rfl rfl PW.h.1 PW.h.2) (uY rfl (bF rfl (by simp;omega)) (al rfl (cG (v:= .agg (cD (tl bs))) rfl (Zx bs)) (cO rfl (L5 fun b6=>⟨fun _ hw=>ag.mem hw,?_⟩))));refine cO rfl (mQ rfl rfl ⟨fun _ hw=>ag.mem hw,?_⟩);refine ar ?_;have PX:Rg 8 10 bs.length:=⟨by omega⟩;refine ae (CM rfl rfl rfl 8 10 rfl rfl PX.h.1 PX.h.2) (c6 (bF (v:= .int .u64 ((jl bs:Nat):Int)) rfl (by rw[anj];omega)) (ae (lR rfl (by simp only[nb];omega)) (eO ?_)));refine bk rfl rfl rfl (fun hg=>(Ry.yl (dw rfl))) (ar ?_);refine bk rfl rfl rfl (fun hg=>bF (cF (aw hg rfl) (cF (aw hg rfl) eX)) trivial) (bk rfl rfl rfl (fun hg=>(Ry.yl (gS (aw hg rfl)))) (ar ?_));refine Gb (fun h3=>?_) fun h3=>?_
 ·
  have oY:rN bs=false:=by
   rw[HH]at h3
   cases hk:rN bs with
   |false=>rfl
   |true=>
    simp only[rN,anc,decide_eq_true_eq]at hk;rw[hk.2]at h3;simp only[aoQ,or_false]at h3;omega
  have hE:di bs=(jF,2):=by rw[di,if_neg (by rw[h0];simp),if_neg (by rw[h1];simp),if_neg pC,if_pos oY]
  refine Gc ?_;refine ae (cG (v:= .agg (cD nh)) rfl (fun w=>by kernel_rfl)) (ak ?_);refine Gr fun w1 hw=>?_;exact⟨nh,by rw[hE],by rw[hE];rfl,Mem.cz aP 1 (ag.mem hw:Mem w [] _)⟩
 have oY:rN bs=true:=by
  rw[HH]at h3;simp only[rN,anc,decide_eq_true_eq];exact⟨by omega,h3.2⟩
 have hmr:(jl bs:Int)<=fy bs.length:=by simp only[rN,anc,decide_eq_true_eq]at oY;exact oY.1
 have vE:(oI bs).length=(nj bs).length -(10+jl bs):=by rw[oI,anj,ant];omega
 have gr:Gv w ((b.sub 1 0 (bs.length -4)).sub 1 (10+jl bs) (nj bs).length) aP 1 (oI bs):=⟨(hb.sub (lo:=0) (hi:=bs.length -4) oM oM).sub (lo:=10+jl bs) (hi:=(nj bs).length) oM (anm _)⟩;refine aq ?_;have Zz:Rg (10+jl bs) ((nj bs).length) (nj bs).length:=⟨by omega⟩;refine ae (CN rfl rfl (10+jl bs) rfl Zz.h.1) (ak ?_);refine bI (X:=Nat) (fun zz=>[(69, .int .i64 (zz:Nat)),(0,b.val),(2, .pointer (some ⟨b2,0,none⟩)),(6, .pointer (some ⟨b6,0,none⟩)),(7, .int .i64 (jl bs:Nat)),(67,((b.sub 1 0 (bs.length -4)).sub 1 (10+jl bs) (nj bs).length).val),(68, .int .i64 ((oI bs).length:Nat))]) (fun zz=>[an b6 (cD (tl bs)) 324,an b2 (cD nh) 324]) (fun zz=>zz<=(oI bs).length/\ ∀j x,j<zz->(oI bs)[j]? =Option.some x->x=0) (fun zz=>(oI bs).length -zz) 0 ⟨Nat.zero_le _,fun j x hj=>by first|omega|(simp only[];omega)⟩ sb (fun w hw=>ag.mem hw) ?_;rintro i ⟨aW,aB⟩;refine ak ?_;refine Gb (fun h4=>?_) fun h4=>?_
 ·
  refine lZ ?_;obtain⟨y,hy⟩:=get_some (xs:=(oI bs)) (i:=i) oM;refine ae (aV rfl rfl i rfl oM) (ae (bJ (j:=0) rfl i hy rfl (by decide)) (aM ?_));refine Gb (fun h5=>?_) fun h5=>?_
  ·
   have tO:yV (oI bs)=false:=by
    cases hk:yV (oI bs)with
    |false=>rfl
    |true=>exact absurd (congrArg UInt8.toNat (Nz.1 hk y (alM hy))) (by intro e;exact h5 (by rw[e];rfl))
   have hE:di bs=(jF,2):=by rw[di,if_neg (by rw[h0];simp),if_neg (by rw[h1];simp),if_neg pC,if_neg (by rw[oY];simp),if_pos tO]
   refine Gc ?_;refine ae (cG (v:= .agg (cD nh)) rfl (fun w=>by kernel_rfl)) (ak ?_);refine Gr fun w1 hw=>?_;exact⟨nh,by rw[hE],by rw[hE];rfl,Mem.cz aP 1 (ag.mem hw:Mem w [] _)⟩
  have IP:y=0:=apl.1 (show y.toNat=0 by omega);refine ak ?_;refine Gi ?_;exact bb (x:=(i)) (i+1) ⟨oF,fun j x hj hx=>if e:j=i then(by subst e;rw[hy]at hx;cases hx;exact IP)else aB j x oF hx⟩ oF sb (fun w hw=>ag.mem hw)
 obtain rfl:i=(oI bs).length:=by omega
 have tO:yV (oI bs)=true:=Nz.2 fun x hx=>by
  obtain⟨j,hj⟩:=aoi hx;exact aB j x (ad2.1 hj).1 hj
 have hE:di bs=({yU bs with body:=((bs.drop 10).take (10+jl bs -10))},0):=by rw[di,if_neg (by rw[h0];simp),if_neg (by rw[h1];simp),if_neg pC,if_neg (by rw[oY];simp),if_neg (by rw[tO];simp)]
 refine aq ?_;refine Gb (fun h6=>?_) fun h6=>?_
 ·
  refine Gi ?_;refine ak ?_;have PY:Rg 10 (10+jl bs) bs.length:=⟨by omega⟩;refine ae (CM rfl rfl rfl 10 (10+jl bs) rfl rfl PY.h.1 PY.h.2) (bf rfl (by simp only[anj,ant];omega) fun IT ajW=>Gs ?_);refine dN (cs':=cD (⟨((bs.getD 0 0).toNat:Int),((bs.getD 1 0).toNat:Int),(UInt64.ofNat (de ((bs.drop 2).take (8 -2)))),⟨IT,((bs.drop 10).take ((10+jl bs) -10))⟩⟩:eA)) rfl rfl (by show 3<4;decide) (by first|rfl|exact Sv.one _) rfl (aM ?_);refine Gr fun w1 hw=>?_;exact⟨⟨((bs.getD 0 0).toNat:Int),((bs.getD 1 0).toNat:Int),UInt64.ofNat (de ((bs.drop 2).take (8 -2))),⟨IT,((bs.drop 10).take (10+jl bs -10))⟩⟩,by rw[hE],by rw[hE];exact NC bs IT ((bs.drop 10).take (10+jl bs -10)),ag.mem hw⟩
 have sf:jl bs=0:=by omega
 refine aM ?_;refine Gr fun w1 hw=>?_;exact⟨tl bs,by rw[hE],by rw[hE,HH,sf];simp[yU],Mem.cz aP 1 (ag.mem hw:Mem w [] _)⟩)⟩
instance ajX{c:Cp}{id:Int}{n:Int}[hc:aS w0 L c]:bW Tryz.prog 303 w0 L [.agg (aR c), .int .i64 id, .int .i64 n] (.bool (yY (cv c) id n)) (bl (cv c)=true/\1<=n/\n<=1000000):=⟨fun az w hw=>by
 have hc:=hc.h w hw;have jP:cl w c:=⟨hc⟩;obtain⟨hk,vJ,nY⟩:=az;have eH:=fW c.blocks.xs;have hH:=kz.1 (eP.1 hk).1;simp only[cv,eH]at hH;have BB:0<=((n -1)/c.ab):=apR oM oM;have FG:((n -1)/c.ab)<=n -1:=Int.ediv_le_self _ oM;have sf:0<=((n -1)%c.ab):=Int.emod_nonneg _ oM;have vz:((n -1)%c.ab)<c.ab:=apT _ oM;have sg:=w3 (c:=c) (b:=((n -1)/c.ab));have IU:(c.blocks.xs.getD ((n -1)/c.ab).toNat oD).used=(aA (cv c) ((n -1)/c.ab)).used:=congrArg BV.used sg;refine rC Tryz.func303 rfl Tryz.ntmps303 rfl ?_;refine Gc ?_;refine bx rfl fun b3=>ar ?_;refine eS oK oK (aq ?_);refine bn (kl rfl rfl oM oM) (aq ?_);refine bn (wm rfl rfl oM oM) (Mh ?_);refine bk rfl rfl rfl (fun hg=>(Ry.yl (aV (aw hg rfl) (aw hg rfl) (((n -1)/c.ab).toNat) (by simp only[Z0,Z1,Z2,Z3,Z4,Z5,Z6,Z7,Z8,Z9]at hg;omega) (by simp only[Z0,Z1,Z2,Z3,Z4,Z5,Z6,Z7,Z8,Z9]at hg;omega)))) (bk rfl rfl rfl (fun hg=>(Ry.yl (aH (aw hg rfl) rfl))) (bk rfl rfl rfl (fun hg=>(Ry.yl (bJ (j:=1) (aw hg rfl) (((n -1)/c.ab).toNat) (mL (xs:=c.blocks.xs) (i:=((n -1)/c.ab).toNat) (d:=oD) (by simp only[Z0,Z1,Z2,Z3,Z4,Z5,Z6,Z7,Z8,Z9]at hg;omega)) rfl (by decide)))) (ak ?_)));refine Gb (fun h0=>?_) fun h0=>?_
 ·
  have hz:yY (cv c) id n=false:=by
   cases lL:tp (cv c) (n -1)with
   |false=>rw[yY,lL];rfl
   |true=>
    obtain⟨g1,g2,g3⟩:=A9.1 lL;change 2<=((n -1)/c.ab)at g1;change((n -1)/c.ab)<((ia c.blocks.xs).length:Int)at g2;change((n -1)%c.ab)<(aA (cv c) ((n -1)/c.ab)).used at g3;rw[eH]at g2;omega
  refine ak ?_;refine Gr fun w1 hw=>?_;exact Ge (hz.symm) hw
 have gP:tp (cv c) (n -1)=true:=A9.2 ⟨show 2<=((n -1)/c.ab) by omega,by simp only[cv,eH];omega,show((n -1)%c.ab)<(aA (cv c) ((n -1)/c.ab)).used by omega⟩;obtain⟨B,hB⟩:=get_some (xs:=c.blocks.xs) (i:=((n -1)/c.ab).toNat) oM;have qL:Mb B c.blocks:=⟨List.mem_of_getElem? hB⟩;have dZ:bv B=aA (cv c) ((n -1)/c.ab):=by rw[←sg];simp[List.getD,hB]
 have fA:=gy.1 ((eP.1 hk).2.2.2.2 (bv B) (alM (lD hB)));have gC:=mW B.ab.xs;have PZ:(B.ab.xs.length:Int)=c.ab:=by have:=fA.1;simp only[bv,cv,gC]at this;exact this
 obtain⟨y,hy⟩:=get_some (xs:=B.ab.xs) (i:=((n -1)%c.ab).toNat) oM;have IV:Mb y B.ab:=⟨List.mem_of_getElem? hy⟩;have qD:yX (cv c) (n -1)=y.xs:=by
  show(aA (cv c) ((n -1)/c.ab)).ab.getD ((n -1)%c.ab).toNat []=y.xs;rw[←dZ];simp[bv,List.getD,oE hy]
 refine aq ?_;refine ae (aV rfl rfl (((n -1)/c.ab).toNat) oM oM) (ae (aH rfl rfl) (ae (bJ (j:=0) rfl (((n -1)/c.ab).toNat) hB rfl (by decide)) ?_));have ajY:Mb B _:=⟨List.mem_of_getElem? hB⟩;refine Gs ?_;refine ae (aV rfl rfl (((n -1)%c.ab).toNat) oM oM) (ae (bJ (j:=0) rfl (((n -1)%c.ab).toNat) hy rfl (by decide)) ?_);have ajZ:Mb y _:=⟨List.mem_of_getElem? hy⟩;refine bf rfl trivial fun nw vK=>?_;have e1:nw.kind=(di y.xs).1.kind:=congrArg PV.kind vK;have e2:nw.id=(di y.xs).1.id:=congrArg PV.id vK;refine Gs ?_;refine ae (aF (v:= .agg (cD nw)) rfl rfl) (ae (aF (v:= .int .i64 ((di y.xs).2)) rfl rfl) (ba fun b9=>Mi ?_));refine Gr fun w1 hw=>?_;exact⟨congrArg (fun b=>Ending.returned (Value.bool b)) ((by rw[yY,gP,qD,ND,←e1,←e2];rfl)),ag.mem hw⟩⟩
def mu(n:Int):Value:= .int .i64 n
def o8(_:Unit):Value:= .agg #[]
instance:Bt mu:=⟨fun h=>by simpa[mu]using h⟩
instance:Bs Tryz.prog 3:=⟨Maps.int_keyed Tryz.underlying3⟩
instance:zr Tryz.prog 318 3 319:=⟨Tryz.underlying318⟩
instance:dB Tryz.prog 319 (.agg #[]):=⟨by kernel_rfl⟩
instance:eZ (#[]:Array Value) 0:=⟨rfl,by simp⟩
theorem IW{n:Int}(h: -9223372036854775808<=n/\n<=9223372036854775807): ∃l,keyOf Tryz.prog 3 (mu n)=some l:=⟨_,Maps.keyOf_int_mk Tryz.underlying3 (by simp[Lit.wf,IntKind.min,IntKind.max,IntKind.signed,IntKind.bits];omega)⟩
instance aj0{c:Cp}{t:Sv}{ts:List Int}[hc:aS w0 L c][ht:cA w0 L bt 1 t ts]:bW Tryz.prog 259 w0 L [.agg (aR c),t.val] (.bool (vf (cv c) ts)) (bl (cv c)=true/\ ∀x∈ts,0<=x/\x<=65535):=⟨fun az w hw=>by
 have hc:=hc.h w hw;have ht:=ht.h w hw;have jP:cl w c:=⟨hc⟩;have pa:Gv w t bt 1 ts:=⟨ht⟩;obtain⟨hk,ny⟩:=az;have hU:=ht.bd;refine cq Tryz.func259 rfl Tryz.ntmps259 rfl ?_;refine Gc ?_;refine bx rfl fun b2=>aq ?_;refine Ze mu o8 rfl fun vL=>aX ?_;refine bI (X:=Nat) (fun zz=>[(15, .int .i64 (zz:Nat)),(5, .map (some vL)),(2, .pointer (some ⟨b2,0,none⟩)),(13,t.val),(14, .int .i64 (ts.length:Nat))]) (fun zz=>[omap Tryz.prog 3 mu o8 vL (jo ts zz),an b2 (aR c) 59]) (fun zz=>zz<=ts.length/\ ∀j,j<zz->tq (cv c) ts j=true) (fun zz=>ts.length -zz) 0 ⟨Nat.zero_le _,fun j hj=>by first|omega|(simp only[];omega)⟩ sb (fun w hw=>by
  rw[←NF];exact ag.mem hw) ?_
 rintro i ⟨aW,aB⟩;refine ak ?_;refine Gb (fun h0=>?_) fun h0=>?_
 ·
  obtain⟨y,hy⟩:=get_some (xs:=ts) (i:=i) oM;have ZA:=ny y (alM hy);have nz:=tr hy;have vM:=IW (n:=y) oM;refine ar ?_;refine ae (aV rfl rfl i rfl oM) (ae (bJ (j:=0) rfl i hy rfl (by decide)) (aX ?_));refine Gb (fun h1=>?_) fun h1=>?_
  ·
   subst h1;have bu:tq (cv c) ts i=true:=by rw[tq,nz];rfl
   refine ak ?_;refine Gi ?_;exact bb (x:=(i)) (i+1) ⟨oF,fun j hj=>if e:j=i then e▸bu else aB j oF⟩ oF sb (fun w hw=>by
    rw[NG hy];exact ag.mem hw)
  refine ak ?_;refine ae (IC (cK:=mu) (dI:=o8) (f:=jo ts i) (v:=y) (z:=()) rfl rfl vM) (Gs ?_);refine ae (aF (v:= .agg #[]) rfl rfl) (ae (aF (v:= .bool ((jo ts i y).isSome)) rfl rfl) (ba fun b8=>aM ?_));refine bk rfl rfl rfl (fun hg=>(Ry.yl (dw rfl))) (ar ?_);refine bk rfl rfl rfl (fun hg=>bF (cF (aw hg rfl) (cF (aw hg rfl) (cF (aw hg rfl) eX))) ⟨hk,by omega,by omega⟩) (bk rfl rfl rfl (fun hg=>(Ry.yl (gS (aw hg rfl)))) (ar ?_));refine Gb (fun h2=>?_) fun h2=>?_
  ·
   have hz:vf (cv c) ts=false:=by
    cases lL:vf (cv c) ts with
    |false=>rfl
    |true=>
     have g:=HM.1 lL i oM;rw[tq,nz]at g;rw[Ba]at h2;simp only[aog,anc,decide_eq_true_eq,aov,apK,decide_eq_false_iff_not]at g h2;rcases g with g|g
     ·
      exact absurd g h1
     rcases h2 with h2|h2
     ·
      exact absurd h2.2 g.1
     rw[g.2]at h2;cases h2
   refine ak ?_;refine Gr fun w1 hw=>?_;exact Ge (hz.symm) hw
  have bu:tq (cv c) ts i=true:=by
   rw[Ba]at h2;rw[tq,nz];simp only[aog,anc,decide_eq_true_eq,aov,apK,decide_eq_false_iff_not]at h2⊢;exact .inr ⟨fun hm=>h2.1 ⟨h1,hm⟩,h2.2⟩
  have eD:=NH hy h1;refine ak ?_;refine ae (cG (v:= .agg #[]) rfl (fun w=>by kernel_rfl)) (IE (cK:=mu) (dI:=o8) (v:=y) (u:=()) rfl rfl rfl vM (ak ?_));refine Gi ?_;exact bb (x:=(i)) (i+1) ⟨oF,fun j hj=>if e:j=i then e▸bu else aB j oF⟩ oF sb (fun w hw=>by
   rw[←eD];exact ag.mem hw)
 obtain rfl:i=ts.length:=by omega
 have hz:vf (cv c) ts=true:=HM.2 fun j hj=>aB j hj;refine ak ?_;refine Gr fun w1 hw=>?_;exact⟨congrArg (fun b=>Ending.returned (Value.bool b)) (hz.symm),ag.mem hw⟩⟩
instance:dB Tryz.prog 402 (.agg (bB gX)):=⟨by kernel_rfl⟩
theorem ZB(u v:Int)(b:Bool)(w:World):(Instr.build 402 #[(1, .int .i64 u),(2, .int .i64 v),(3, .bool b)]).run Tryz.prog w= .ok (.agg (bB ⟨0,u,v,b⟩)) w:=by
 unfold bB;kernel_rfl
instance aj1{c:Cp}{l:Sl (Sl Int)}[hc:aS w0 L c][hl:aS w0 L l]:bK Tryz.prog 326 w0 L [.agg (aR c),l.sv.val] (Sv) (fun zz=>zz.val) (fun zz=>own bB 4 zz (ib (cv c) (av l.xs))::L) (fun zz=>True) (vg (cv c) (av l.xs)):=⟨fun az w hw=>Gk (fun zz=>[own bB 4 zz (ib (cv c) (av l.xs))]) hw (by
 have hc:=hc.h w hw;have hl:=hl.h w hw;have jP:cl w c:=⟨hc⟩;have pT:cl w l:=⟨hl⟩;obtain⟨⟨hk,qw⟩,nm,mD⟩:=az;have hU:=hl.1.bd;have eH:=fW c.blocks.xs;have nu:(cv c).blocks.length=c.blocks.xs.length:=eH;have hH:=kz.1 (eP.1 hk).1;simp only[cv,eH]at hH;have wR:=yZ (cv c) (av l.xs);rw[nu]at wR;have vE:(List.replicate (c.blocks.xs.length -2) gX).length=c.blocks.xs.length -2:=List.length_replicate;refine cq Tryz.func326 rfl Tryz.ntmps326 rfl ?_;refine Gc ?_;refine bx rfl fun b2=>aX ?_;refine ri (enc:=bB) (n:=(c.blocks.xs.length -2)) (cap:=(c.blocks.xs.length -2)) gX rfl rfl rfl oM oM oM oM oM fun kd=>aX ?_;refine bI (X:=Nat×List aG) (fun zz=>[(22, .int .i64 (zz.1:Nat)),(5,(⟨false,kd,0,c.blocks.xs.length -2,c.blocks.xs.length -2,none⟩:Sv).val),(1,l.sv.val),(2, .pointer (some ⟨b2,0,none⟩)),(21, .int .i64 ((List.replicate (c.blocks.xs.length -2) gX).length:Nat))]) (fun zz=>[own bB 4 ⟨false,kd,0,c.blocks.xs.length -2,c.blocks.xs.length -2,none⟩ zz.2,an b2 (aR c) 59]) (fun zz=>zz.1<=c.blocks.xs.length -2/\zz.2.length=c.blocks.xs.length -2/\zz.2.take zz.1=(iZ (cv c) (av l.xs) 0).take zz.1) (fun zz=>c.blocks.xs.length -2 -zz.1) (0,List.replicate (c.blocks.xs.length -2) gX) ⟨Nat.zero_le _,by simp,by simp⟩ sb (fun w hw=>ag.mem hw) ?_;rintro⟨i,zs⟩ ⟨aW,aB,bm⟩;dsimp only;simp only at aW aB bm;refine ak ?_;refine Gb (fun h0=>?_) fun h0=>?_
 ·
  obtain⟨B,hB⟩:=get_some (xs:=c.blocks.xs) (i:=i+2) oM;have qL:Mb B c.blocks:=⟨List.mem_of_getElem? hB⟩;obtain⟨z,hz⟩:=get_some (xs:=zs) (i:=i) oM;have He:(zs.set i (⟨0,B.used,B.bj,B.bad⟩:aG)).take (i+1)=(iZ (cv c) (av l.xs) 0).take (i+1):=by
   have e1:=DT (f:=id) (z':=(⟨0,B.used,B.bj,B.bad⟩:aG)) hz;simp only[List.map_id]at e1;rw[e1,bm,anq,WO,anA,aoK oM,an8,show aA (cv c) ((i:Int)+2)=bv B from HO (i:=i+2) hB];rfl
  refine eO ?_;refine ae (aV rfl rfl (i+2) rfl oM) (ae (fo rfl (i+2) hB rfl) ?_);have PT:Mb B c.blocks:=⟨List.mem_of_getElem? hB⟩;refine ba fun b7=>pD ?_;refine ae (cG (v:= .agg (bB (⟨0,B.used,B.bj,B.bad⟩:aG))) rfl (ZB B.used B.bj B.bad)) (ae (aV rfl rfl i rfl oM) (jy (s:=⟨false,kd,0,c.blocks.xs.length -2,c.blocks.xs.length -2,none⟩) (n:=4) (k:=i) (j:=0) (a:=z) (a':=(⟨0,B.used,B.bj,B.bad⟩:aG)) (xs:=zs) (enc:=bB) (c:=4) (v:= .agg (bB (⟨0,B.used,B.bj,B.bad⟩:aG))) oK rfl rfl rfl hz (bo.one (enc:=bB) (c:=4) _) rfl (by decide) (by rfl) (ak ?_)));refine Gi ?_;exact bb (x:=(i,zs)) (i+1,zs.set i (⟨0,B.used,B.bj,B.bad⟩:aG)) ⟨oF,by rw[aoa];exact aB,He⟩ (by simp only;omega) sb (fun w hw=>ag.mem hw)
 obtain rfl:i=zs.length:=by omega
 rw[anD,anx (by rw[wR];omega)]at bm;subst bm;refine Gc ?_;refine PQ mu o8 fun EA=>aX ?_;refine bI (X:=Nat) (fun zz=>[(45, .int .i64 (zz:Nat)),(5,(⟨false,kd,0,c.blocks.xs.length -2,c.blocks.xs.length -2,none⟩:Sv).val),(8, .map (some EA)),(2, .pointer (some ⟨b2,0,none⟩)),(43,l.sv.val),(44, .int .i64 (l.xs.length:Nat))]) (fun zz=>[omap Tryz.prog 3 mu o8 EA (jo (av l.xs) (av (l.xs.take zz)).length),own bB 4 ⟨false,kd,0,c.blocks.xs.length -2,c.blocks.xs.length -2,none⟩ (iZ (cv c) (av l.xs) (av (l.xs.take zz)).length),an b2 (aR c) 59]) (fun zz=>zz<=l.xs.length) (fun zz=>l.xs.length -zz) 0 (anH _) sb (fun w hw=>by
  have e0:(av (l.xs.take 0)).length=0:=by simp[av]
  simp only[e0];rw[←NF];exact ag.mem hw) ?_
 rintro a ha1;refine ak ?_;refine Gb (fun h1=>?_) fun h1=>?_
 ·
  obtain⟨x,hx⟩:=get_some (xs:=l.xs) (i:=a) oM;have P0:Mb x l:=⟨List.mem_of_getElem? hx⟩;have eE:=(hl.2 x P0.h).1.bd;refine Gc ?_;refine ae (aV rfl rfl a rfl oM) (ae (bJ (j:=0) rfl a hx rfl (by decide)) ?_);have aj2:Mb x _:=⟨List.mem_of_getElem? hx⟩;refine aX ?_;refine bI (X:=Nat) (fun zz=>[(51, .int .i64 (zz:Nat)),(5,(⟨false,kd,0,c.blocks.xs.length -2,c.blocks.xs.length -2,none⟩:Sv).val),(8, .map (some EA)),(2, .pointer (some ⟨b2,0,none⟩)),(43,l.sv.val),(44, .int .i64 (l.xs.length:Nat)),(45, .int .i64 (a:Nat)),(49,x.sv.val),(50, .int .i64 (x.xs.length:Nat))]) (fun zz=>[omap Tryz.prog 3 mu o8 EA (jo (av l.xs) ((av (l.xs.take a)).length+zz)),own bB 4 ⟨false,kd,0,c.blocks.xs.length -2,c.blocks.xs.length -2,none⟩ (iZ (cv c) (av l.xs) ((av (l.xs.take a)).length+zz)),an b2 (aR c) 59]) (fun zz=>zz<=x.xs.length) (fun zz=>x.xs.length -zz) 0 (anH _) sb (fun w hw=>ag.mem hw) ?_;rintro j nW;refine ak ?_;refine Gb (fun h2=>?_) fun h2=>?_
  ·
   obtain⟨y,hy⟩:=get_some (xs:=x.xs) (i:=j) oM;have zx:=WN hx hy;have ZC:=mD y (alM zx);have nz:=tr zx;have vM:=IW (n:=y) oM;refine Gc ?_;refine ae (aV rfl rfl j rfl oM) (ae (bJ (j:=0) rfl j hy rfl (by decide)) (aq ?_));refine ae (IC (cK:=mu) (dI:=o8) (f:=jo (av l.xs) ((av (l.xs.take a)).length+j)) (v:=y) (z:=()) rfl rfl vM) (Gs ?_);refine ae (aF (v:= .agg #[]) rfl rfl) (ae (aF (v:= .bool ((jo (av l.xs) ((av (l.xs.take a)).length+j) y).isSome)) rfl rfl) (ba fun je=>gV ?_));refine Gb (fun h3=>?_) fun h3=>?_
   ·
    have sh:rO (av l.xs) ((av (l.xs.take a)).length+j)=false:=by
     rw[rO,nz];rw[Ba]at h3;rcases h3 with h|h
     ·
      simp[h]
     simp only[decide_eq_true_eq]at h;simp[h.2]
    have ZD:jo (av l.xs) (((av (l.xs.take a)).length+j)+1)=jo (av l.xs) ((av (l.xs.take a)).length+j):=by
     rw[Ba]at h3;rcases h3 with h|h
     ·
      exact NG (h▸zx)
     exact WL zx (by simpa using h)
    refine ak ?_;refine Gi ?_;exact bb (x:=(j)) (j+1) oF oF sb (fun w hw=>by
     rw[←aoD,ZD,WK sh];exact ag.mem hw)
   have wu:y≠0:=h3.1;obtain⟨b1,b2,b3,b4⟩:=ZC.resolve_left wu;change 2<=((y -1)/c.ab)at b3;change((y -1)/c.ab)<((ia c.blocks.xs).length:Int)at b4;rw[eH]at b4;have sh:rO (av l.xs) ((av (l.xs.take a)).length+j)=true:=by
    rw[rO,nz];have h9:=h3.2;rw[Ba]at h9;simp only[decide_eq_false_iff_not]at h9;simp only[anc,decide_eq_true_eq,aov,apK,decide_eq_false_iff_not];exact⟨wu,fun hm=>h9 ⟨wu,hm⟩⟩
   have eD:=NH zx wu;have wK:=yZ (cv c) (av l.xs) ((av (l.xs.take a)).length+j);rw[nu]at wK;obtain⟨z,hz⟩:=get_some (xs:=iZ (cv c) (av l.xs) ((av (l.xs.take a)).length+j)) (i:=(((y -1)/c.ab) -2).toNat) oM;have pU:=WM sh (i:=(((y -1)/c.ab) -2).toNat) (by rw[nz];show((y -1)/c.ab)=_;omega) hz;have xv:=WQ hz;have gP:=(ad2.1 zx).1;refine ak ?_;refine ae (cG (v:= .agg #[]) rfl (fun w=>by kernel_rfl)) (IE (cK:=mu) (dI:=o8) (v:=y) (u:=()) rfl rfl rfl vM (aX ?_));refine ae (kl rfl rfl oM oM) (Gs ?_);refine ae (aV rfl rfl ((((y -1)/c.ab) -2).toNat) oM oM) (ae (aH rfl rfl) (ae (bJ (j:=0) rfl ((((y -1)/c.ab) -2).toNat) hz rfl (by decide)) (Gs ?_)));refine ae (aV rfl rfl ((((y -1)/c.ab) -2).toNat) oM oM) (ae (aH rfl rfl) (jy (s:=⟨false,kd,0,c.blocks.xs.length -2,c.blocks.xs.length -2,none⟩) (n:=1) (k:=(((y -1)/c.ab) -2).toNat) (j:=0) (a:=z) (a':={z with live:=z.live+1}) (xs:=(iZ (cv c) (av l.xs) ((av (l.xs.take a)).length+j))) (enc:=bB) (c:=4) (v:= .int .i64 (z.live+1)) oK rfl rfl rfl hz (by simp[Value.cells,Value.oneCell']) (by rfl) (by decide) (by rfl) (ak ?_)))
   refine Gi ?_;exact bb (x:=(j)) (j+1) oF oF sb (fun w hw=>by
    rw[←aoD,←eD,pU];exact ag.mem hw)
  obtain rfl:j=x.xs.length:=by omega
  refine ak ?_;refine Gi ?_;exact bb (x:=(a)) (a+1) oF oF sb (fun w hw=>by
   rw[NT hx,af0];exact ag.mem hw)
 obtain rfl:a=l.xs.length:=by omega
 rw[anD];refine aq ?_;refine Gr fun w1 hw=>?_;exact⟨⟨false,kd,0,c.blocks.xs.length -2,c.blocks.xs.length -2,none⟩,rfl,trivial,by rw[ib];exact ag.mem hw⟩)⟩
end Go.Proofs.YtkggjjnhnjjokaaGreatDoor
namespace Go.au
open Go.RowKit
section
variable {P:Program} {N:bO} {w0:World} {env:Env} {L:List ai} {d:Option Tmp} {ty:TypeId} {ps:String} {af:Array Edge} {gd:Option (Nat×Bool)}
class k7(w0:World)(L:List ai)(b:Nat)(cs:outParam (Array Value))(T:outParam TypeId):Prop where
 h: ∀w,Mem w0 L w->w.heap[b]? =some (.cells cs T (0,0))
class pV(w0:World)(b:Nat)(cs:outParam (Array Value))(T:outParam TypeId):Prop where
 h:w0.heap[b]? =some (.cells cs T (0,0))
instance (priority:=high) k7.has {b i:Nat}{cs:Array Value}{T:TypeId}[q:Has L b cs T i]:k7 w0 L b cs T:=⟨fun w hw=>hw.block q.h⟩
instance k7.old{b:Nat}{cs:Array Value}{T:TypeId}[q:pV w0 b cs T]:k7 w0 L b cs T:=⟨fun w hw=>by
 have aZ:b<w0.heap.size:=by
  rcases anl b w0.heap.size with h|h
  ·
   exact h
  have:=q.h;simp[aoF h]at this
 rw[hw.below.block b aZ];exact q.h⟩
theorem k7.cell{b:Nat}{cs:Array Value}{T:TypeId}(q:k7 w0 L b cs T){w:World}(hw:Mem w0 L w)(o:Nat):w.cell? ⟨b,o,none⟩=cs[o]? :=by
 simp[World.cell?,q.h w hw]
theorem mv{t:TypeId}{x:Operand}{b o:Nat}{cs:Array Value}{T:TypeId}{v:Value}(hx:ev env x=some (.pointer (some ⟨b,o,none⟩)))[ht:eY P t][hi:k7 w0 L b cs T][hc:bT cs o v]:
  Ry P N w0 env L ⟨d, .load t x,ty,ps,af,gd⟩ v:=xZ ht hx fun w hw=>by rw[hi.cell hw];exact hc.h
theorem ZE{t:TypeId}{x:Operand}{b o n:Nat}{cs sub:Array Value}{T:TypeId}(hx:ev env x=some (.pointer (some ⟨b,o,none⟩)))[ht:eu P t n][hi:k7 w0 L b cs T][hs:lQ cs o n sub]:
  Ry P N w0 env L ⟨d, .load t x,ty,ps,af,gd⟩ (.agg sub):=Ag ht hx hs.size fun w hw j hj=>by rw[Addr.fS,hi.cell hw];exact hs.h j hj
end
section
variable {w0:World} {L:List ai}
theorem zy{w0 w:World}{L R1 R2 R3:List ai}{e1 e2 e3:ai}{i j k:Nat}(h1:L[i]? =some e1)(d1:L.eraseIdx i=R1)(h2:R1[j]? =some e2)(d2:R1.eraseIdx j=R2)(h3:R2[k]? =some e3)(d3:R2.eraseIdx k=R3)(h:Mem w0 L w):Mem w0 (e1::e2::e3::R3) w:=by
 subst d1;subst d2;subst d3;exact h.perm ((lU h1).trans (((lU h2).trans ((lU h3).cons _)).cons _))
theorem ZF{w0 w:World}{L R1 R2 R3 R4:List ai}{e1 e2 e3 e4:ai}{i j k l:Nat}(h1:L[i]? =some e1)(d1:L.eraseIdx i=R1)(h2:R1[j]? =some e2)(d2:R1.eraseIdx j=R2)(h3:R2[k]? =some e3)(d3:R2.eraseIdx k=R3)(h4:R3[l]? =some e4)(d4:R3.eraseIdx l=R4)(h:Mem w0 L w):Mem w0 (e1::e2::e3::e4::R4) w:=by
 subst d1;subst d2;subst d3;subst d4;exact h.perm ((lU h1).trans (((lU h2).trans (((lU h3).trans ((lU h4).cons _)).cons _)).cons _))
end
variable {w0:World}{L:List ai}
instance (priority:=low) Hd.tail{e:ai}{s:Sv}{α:Type}{enc:α->Array Value}{c:Nat}{xs:List α}[q:Hd w0 L s enc c xs]:Hd w0 (e::L) s enc c xs:=⟨fun w hw=>q.h w (hw.sub (anT _ _))⟩
instance (priority:=low) aS.tail{e:ai}{τ:Type}[Deep τ]{a:τ}[q:aS w0 L a]:aS w0 (e::L) a:=⟨fun w hw=>q.h w (hw.sub (anT _ _))⟩
theorem ZG{P:Program}{N:bO}{env:Env}{α:Type}{enc:α->Array Value}{c n:Nat}{t e:TypeId}{ct:Nat}{z:Value}{x y:Operand}{d:Option Tmp}{ty:TypeId}{ps:String}{af:Array Edge}{gd:Option (Nat×Bool)}{k k':IntKind}{ix iy:Int}[he:bo enc c][ht:eF P t e c ct][hz:dB P e z](x0:α)(h0:enc x0=z.cells)(hx:ev env x=some (.int k ix))(hy:ev env y=some (.int k' iy))(ex:ix=(n:Int))(ey:iy=(n:Int))(hb:ct*n<=281474976710656)(iG:n<=140737488355328):
  ∀a,cm N env a->sV P ⟨d, .makeSlice t x y,ty,ps,af,gd⟩ a.eval (u4 enc c n (List.replicate n x0)):=fun a ha w0 w L hw=>by
 subst ex ey;obtain⟨w',h1,h2⟩:=Gd ht hz (k:=k) (k':=k') (n:=n) x0 h0 (anm _) hb iG w;exact⟨w.heap.size,w',by simp only[execOp,ha.ev hx,ha.ev hy,Sem.run_bind,h1,Result.andThen,Sem.run_pure],hw.call h2⟩
def si(f:FuncId):Array Value:= #[.func (.func f) #[] #[]]
instance:bo si 1:=⟨fun _=>rfl,fun _=>by simp[si,Value.oneCell']⟩
instance (f:FuncId):bT (si f) 0 (.func (.func f) #[] #[]):=⟨rfl⟩
class qM(P:Program)(w0:World)(L:List ai)(f:FuncId)(kb:Array Value){α:outParam Type}(enc:outParam (α->Array Value))(R:outParam (α->Bool)):Prop where
 fn:aD P f
 h: ∀w,Mem w0 L w-> ∀x,Calls P f ((Value.agg (enc x)::kb.toList).toArray) w fun e w'=>e= .returned (.bool (R x))/\Mem w [] w'
theorem qM.at{P:Program}{w0:World}{L:List ai}{f:FuncId}{kb:Array Value}{α:Type}{enc:α->Array Value}{R:α->Bool}(q:qM P w0 L f kb enc R){w:World}(hw:Mem w0 L w):qM P w [] f kb enc R:=
 ⟨q.fn,fun w1 h1 x=>q.h w1 (by simpa using hw.call h1) x⟩
end Go.au
namespace Go.Proofs.YtkggjjnhnjjokaaGreatDoor
open Go.au Go.Kb Go.RowKit
instance:dB Tryz.prog 432 (.agg (eT Wi)):=⟨by kernel_rfl⟩
theorem IX(x:aG)(p:Int)(w:World):(Instr.build 432 #[(0, .agg (bB x)),(1, .int .i64 p)]).run Tryz.prog w= .ok (.agg (eT ⟨x,p⟩)) w:=by
 obtain⟨a,b,c,d⟩:=x;unfold eT bB;kernel_rfl
variable {w0:World}{L:List ai}
instance aj3{a:Int}:bW Tryz.prog 350 w0 L [.int .i64 a] (.bool false) (True):=⟨fun az w hw=>by
 refine cd Tryz.func350 rfl Tryz.ntmps350 rfl ?_;refine eO ?_;refine Gr fun w1 hw=>?_;exact⟨congrArg (fun b=>Ending.returned (Value.bool b)) ((by simp)),ag.mem hw⟩⟩
instance aj4{a:Int}{b:Int}:bW Tryz.prog 349 w0 L [.int .i64 a, .int .i64 b] (.int .i64 (w5 a b)) (True):=⟨fun az w hw=>by
 refine cq Tryz.func349 rfl Tryz.ntmps349 rfl ?_;refine G9 ?_;refine dJ rfl (fun h0=>?_) (fun h0=>?_)
 ·
  exfalso;simp at h0
 replace h0:=bz h0;refine ak ?_;refine dJ rfl (fun h2=>?_) (fun h2=>?_)
 ·
  exfalso;simp at h2
 replace h2:=bz h2;refine aM ?_;refine Gb (fun h3=>?_) fun h3=>?_
 ·
  refine ak ?_;refine Gr fun w1 hw=>?_;exact Gf ((by rw[w5,if_pos oM])) hw
 refine aM ?_;refine Gb (fun h4=>?_) fun h4=>?_
 ·
  refine ak ?_;refine Gr fun w1 hw=>?_;exact Gf ((by rw[w5,if_neg oM,if_pos oM])) hw
 refine ak ?_;refine Gr fun w1 hw=>?_;exact⟨congrArg (fun b=>Ending.returned (Value.int .i64 b)) ((by rw[w5,if_neg oM,if_neg oM])),ag.mem hw⟩⟩
theorem P1(w:World)(b:iA):Calls Tryz.prog 335 #[.agg (eT b)] w fun e w'=>e= .returned (.bool (rP b.ab b.w))/\Mem w [] w':=by
 refine cd Tryz.func335 rfl Tryz.ntmps335 rfl ?_;refine Gc ?_;refine bx rfl fun b1=>eO ?_;refine fv rfl rfl rfl (fun hg=>(Ry.yl (aH (o':=1) (aw hg rfl) rfl))) (cx ?_);refine Gr fun w1 hw=>?_;exact Ge (by simp only[rP,Bool.and_assoc]) hw
instance aj5{b:iA}:bW Tryz.prog 335 w0 L [.agg (eT b)] (.bool (rP b.ab b.w)) (True):=⟨fun hp w hw=>P1 w b⟩
theorem P2(w:World)(b:iA):Calls Tryz.prog 333 #[.agg (eT b)] w fun e w'=>e= .returned (.bool (rQ b.w))/\Mem w [] w':=by
 refine cd Tryz.func333 rfl Tryz.ntmps333 rfl ?_;refine Gc ?_;refine bx rfl fun b1=>eO ?_;refine fv rfl rfl rfl (fun hg=>(Ry.yl (aH (o':=0) (aw hg rfl) rfl))) (aM ?_);refine fv rfl rfl rfl (fun hg=>(Ry.yl (aH (o':=1) (aw hg rfl) rfl))) (aM ?_);refine Gr fun w1 hw=>?_;exact Ge (by simp only[rQ,Bool.and_assoc]) hw
instance aj6{b:iA}:bW Tryz.prog 333 w0 L [.agg (eT b)] (.bool (rQ b.w)) (True):=⟨fun hp w hw=>P2 w b⟩
theorem ZH(w:World)(b:iA):Calls Tryz.prog 340 #[.agg (eT b)] w fun e w'=>e= .returned (.bool (Bb b.ab b.w))/\Mem w [] w':=by
 refine cd Tryz.func340 rfl Tryz.ntmps340 rfl ?_;refine Gc ?_;refine bx rfl fun b1=>aX ?_;refine Gb (fun h0=>?_) fun h0=>?_
 ·
  refine cx ?_;refine Gr fun w1 hw=>?_;exact Ge (by rw[Bb,if_pos h0]) hw
 refine gV ?_;refine fv rfl rfl rfl (fun hg=>(Ry.yl (aH (o':=0) (aw hg rfl) rfl))) (aM ?_);refine fv rfl rfl rfl (fun hg=>(Ry.yl (aH (o':=0) (aw hg rfl) rfl))) (cx ?_);refine Gr fun w1 hw=>?_;exact Ge (by rw[Bb,if_neg (by rw[h0];simp)]) hw
theorem ZI(w:World)(a:iA)(b:iA):Calls Tryz.prog 336 #[.agg (eT a), .agg (eT b)] w fun e w'=>e= .returned (.int .i64 (HR a.w b.w))/\Mem w [] w':=by
 refine cq Tryz.func336 rfl Tryz.ntmps336 rfl ?_;refine Gc ?_;refine bx rfl fun b2=>bx rfl fun b3=>lY ?_;refine Gr fun w1 hw=>?_;exact⟨rfl,ag.mem hw⟩
theorem ZJ(w:World)(a:iA)(b:iA):Calls Tryz.prog 334 #[.agg (eT a), .agg (eT b)] w fun e w'=>e= .returned (.int .i64 (Bc a.w b.w))/\Mem w [] w':=by
 refine cq Tryz.func334 rfl Tryz.ntmps334 rfl ?_;refine Gc ?_;refine bx rfl fun b2=>bx rfl fun b3=>lY ?_;refine Gr fun w1 hw=>?_;exact⟨rfl,ag.mem hw⟩
theorem ZK(w:World)(a:iA)(b:iA):Calls Tryz.prog 342 #[.agg (eT a), .agg (eT b)] w fun e w'=>e= .returned (.int .i64 (HS a.w b.w))/\Mem w [] w':=by
 refine cq Tryz.func342 rfl Tryz.ntmps342 rfl ?_;refine Gc ?_;refine bx rfl fun b2=>bx rfl fun b3=>lY ?_;refine Gr fun w1 hw=>?_;exact⟨rfl,ag.mem hw⟩
theorem ZL(w:World)(a:iA)(b:iA):Calls Tryz.prog 341 #[.agg (eT a), .agg (eT b)] w fun e w'=>e= .returned (.int .i64 (y0 a.w b.w))/\Mem w [] w':=by
 refine cq Tryz.func341 rfl Tryz.ntmps341 rfl ?_;refine Gc ?_;refine bx rfl fun b2=>bx rfl fun b3=>eO ?_;refine ae (Sz rfl rfl Tryz.underlying4) (ar ?_);refine Gb (fun h0=>?_) fun h0=>?_
 ·
  refine ak ?_;refine Gr fun w1 hw=>?_;exact Gf ((by rw[y0,if_pos (by simpa using h0)])) hw
 refine aX ?_;refine Gb (fun h1=>?_) fun h1=>?_
 ·
  refine ak ?_;refine Gr fun w1 hw=>?_;exact Gf ((by rw[y0,if_neg (by simpa using h0),if_pos h1])) hw
 refine ak ?_;refine Gr fun w1 hw=>?_;exact Gf ((by rw[y0,if_neg (by simpa using h0),if_neg (by rw[h1];simp)])) hw
instance aj7{l:Sv}{ls:List aG}{p:Int}[hl:cA w0 L bB 4 l ls]:bW Tryz.prog 346 w0 L [l.val, .int .i64 p] (.bool (oN ls p)) (True):=⟨fun az w hw=>by
 have hl:=hl.h w hw;have pT:Gv w l bB 4 ls:=⟨hl⟩;have vj:dK=1099511627776:=rfl;refine cq Tryz.func346 rfl Tryz.ntmps346 rfl ?_;refine UE ?_;refine Gb (fun h0=>?_) fun h0=>?_
 ·
  have hz:oN ls p=false:=by
   cases hk:oN ls p with
   |false=>rfl
   |true=>have g:=Bd.1 hk;omega
  refine ak ?_;refine Gr fun w1 hw=>?_;exact Ge (hz.symm) hw
 refine aM ?_;refine bI (X:=Nat) (fun zz=>[(25, .int .i64 (zz:Nat)),(1, .int .i64 p),(23,l.val),(24, .int .i64 (ls.length:Nat))]) (fun zz=>[]) (fun zz=>zz<=ls.length/\ ∀j x,j<zz->ls[j]? =Option.some x->vh p x=true) (fun zz=>ls.length -zz) 0 ⟨Nat.zero_le _,fun j x hj=>by first|omega|(simp only[];omega)⟩ sb (fun w hw=>ag.mem hw) ?_;rintro i ⟨aW,aB⟩;refine ak ?_;refine Gb (fun h1=>?_) fun h1=>?_
 ·
  refine lZ ?_;obtain⟨x,hx⟩:=get_some (xs:=ls) (i:=i) oM;refine ae (aV rfl rfl i rfl oM) (ae (fo rfl i hx rfl) (ba fun b6=>Mj ?_));refine Gb (fun h2=>?_) fun h2=>?_
  ·
   have hz:oN ls p=false:=by
    cases hk:oN ls p with
    |false=>rfl
    |true=>
     have g:=y5.1 ((Bd.1 hk).2.2.2.2 x (alM hx));omega
   refine ak ?_;refine Gr fun w1 hw=>?_;exact Ge (hz.symm) hw
  have za:vh p x=true:=y5.2 ⟨by omega,by omega,by omega,by omega,by omega⟩;refine ak ?_;refine Gi ?_;exact bb (x:=(i)) (i+1) ⟨oF,fun j y hj hy=>if e:j=i then(by subst e;rw[hx]at hy;cases hy;exact za)else aB j y oF hy⟩ oF sb (fun w hw=>ag.mem hw)
 obtain rfl:i=ls.length:=by omega
 have hz:oN ls p=true:=Bd.2 ⟨by omega,by omega,by omega,by omega,fun x hx=>by
  obtain⟨j,hj⟩:=aoi hx;exact aB j x (ad2.1 hj).1 hj⟩
 refine ak ?_;refine Gr fun w1 hw=>?_;exact⟨congrArg (fun b=>Ending.returned (Value.bool b)) (hz.symm),ag.mem hw⟩⟩
def gL(f:FuncId):aG->aG->Int:=if f=336 then HR else if f=334 then Bc else if f=342 then HS else y0
theorem ZM{f:FuncId}(h:f∈[336,334,342,341]):aD Tryz.prog f/\ ∀(w:World) (a b:iA),Calls Tryz.prog f #[.agg (eT a), .agg (eT b)] w fun e w'=>e= .returned (.int .i64 (gL f a.w b.w))/\Mem w [] w':=by
 simp only[ank,ap6,or_false]at h;rcases h with rfl|rfl|rfl|rfl
 ·
  exact⟨inferInstance,fun w a b=>ZI w a b⟩
 ·
  exact⟨inferInstance,fun w a b=>ZJ w a b⟩
 ·
  exact⟨inferInstance,fun w a b=>ZK w a b⟩
 exact⟨inferInstance,fun w a b=>ZL w a b⟩
def k8(f:FuncId)(p:Int):aG->Bool:=if f=335 then rP p else if f=333 then rQ else Bb p
theorem ZN{f:FuncId}(h:f∈[335,333,340]):aD Tryz.prog f/\ ∀(w:World) (b:iA),Calls Tryz.prog f #[.agg (eT b)] w fun e w'=>e= .returned (.bool (k8 f b.ab b.w))/\Mem w [] w':=by
 simp only[ank,ap6,or_false]at h;rcases h with rfl|rfl|rfl
 ·
  exact⟨inferInstance,fun w b=>P1 w b⟩
 ·
  exact⟨inferInstance,fun w b=>P2 w b⟩
 exact⟨inferInstance,fun w b=>ZH w b⟩
instance aj8{a:iA}{b:iA}{o:Sv}{os:List FuncId}[ho:cA w0 L si 1 o os]:bW Tryz.prog 348 w0 L [.agg (eT a), .agg (eT b),o.val] (.bool (rR a.w b.w (os.map gL))) (∀f∈os,f∈[336,334,342,341]):=⟨fun az w hw=>by
 have ho:=ho.h w hw;have ZO:Gv w o si 1 os:=⟨ho⟩;have hU:=ho.bd;refine rC Tryz.func348 rfl Tryz.ntmps348 rfl ?_;refine Gc ?_;refine bx rfl fun b3=>bx rfl fun b4=>aX ?_;refine bI (X:=Nat) (fun zz=>[(12, .int .i64 (zz:Nat)),(3, .pointer (some ⟨b3,0,none⟩)),(4, .pointer (some ⟨b4,0,none⟩)),(10,o.val),(11, .int .i64 (os.length:Nat))]) (fun zz=>[an b4 (eT b) 432,an b3 (eT a) 432]) (fun zz=>zz<=os.length/\rR a.w b.w (os.map gL)=rR a.w b.w ((os.drop zz).map gL)) (fun zz=>os.length -zz) 0 ⟨Nat.zero_le _,rfl⟩ sb (fun w hw=>ag.mem hw) ?_;rintro i ⟨aW,aB⟩;refine ak ?_;refine Gb (fun h0=>?_) fun h0=>?_
 ·
  obtain⟨f,hf⟩:=get_some (xs:=os) (i:=i) oM;obtain⟨ZP,ZQ⟩:=ZM (az f (alM hf));have bw:rR a.w b.w ((os.drop i).map gL)=if gL f a.w b.w≠0 then decide (gL f a.w b.w<0)else rR a.w b.w ((os.drop (i+1)).map gL):=by
   rw[drop_at hf,anX,rR]
  refine Gc ?_;refine ae (aV rfl rfl i rfl oM) (ae (bJ (j:=0) rfl i hf rfl (by decide)) (aM ?_));refine c6 (Eu (f:=f) (vs:=[.agg (eT a), .agg (eT b)]) rfl rfl (fun w1 _=>ZQ w1 a b)) (aM ?_);refine Gb (fun h1=>?_) fun h1=>?_
  ·
   have hz:rR a.w b.w (os.map gL)=decide (gL f a.w b.w<0):=by rw[aB,bw,if_pos h1]
   refine aM ?_;refine Gr fun w1 hw=>?_;exact Ge (hz.symm) hw
  rw[if_neg oM]at bw;refine ak ?_;refine Gi ?_;exact bb (x:=(i)) (i+1) ⟨oF,by rw[aB,bw]⟩ oF sb (fun w hw=>ag.mem hw)
 obtain rfl:i=os.length:=by omega
 have hz:rR a.w b.w (os.map gL)=false:=by rw[aB,apf];rfl
 refine ak ?_;refine Gr fun w1 hw=>?_;exact⟨congrArg (fun b=>Ending.returned (Value.bool b)) (hz.symm),ag.mem hw⟩⟩
instance aj9{r:FuncId}{l:Sv}{ls:List aG}{p:Int}{o:Sv}{os:List FuncId}[hl:cA w0 L bB 4 l ls][ho:cA w0 L si 1 o os]:bW Tryz.prog 332 w0 L [l.val, .int .i64 p, .func (.func r) #[] #[],o.val] (.tuple #[.int .i64 ((fH ls p (k8 r p) (os.map gL)).1), .bool ((fH ls p (k8 r p) (os.map gL)).2)]) (r∈[335,333,340]/\ ∀f∈os,f∈[336,334,342,341]):=⟨fun az w hw=>by
 have hl:=hl.h w hw;have ho:=ho.h w hw;have pT:Gv w l bB 4 ls:=⟨hl⟩;have ZO:Gv w o si 1 os:=⟨ho⟩;obtain⟨fJ,ZR⟩:=az;obtain⟨isr,ZS⟩:=ZN fJ;have hU:=hl.bd;refine Mk Tryz.func332 rfl Tryz.ntmps332 rfl ?_;refine gV ?_;refine Gb (fun h0=>?_) fun h0=>?_
 ·
  have hE:fH ls p (k8 r p) (os.map gL)=(0,false):=if_neg (by rw[h0];simp);refine aq ?_;refine Gr fun w1 hw=>?_;exact⟨by rw[hE],ag.mem hw⟩
 have hE:fH ls p (k8 r p) (os.map gL)=gH ls (k8 r p) (os.map gL) ls.length:=if_pos h0;refine eO ?_;refine bI (X:=Nat) (fun zz=>[(21, .int .i64 (zz:Nat)),(10, .int .i64 ((gH ls (k8 r p) (os.map gL) zz).1)),(11, .bool ((gH ls (k8 r p) (os.map gL) zz).2)),(0,l.val),(1, .int .i64 p),(2, .func (.func r) #[] #[]),(3,o.val),(19,l.val),(20, .int .i64 (ls.length:Nat))]) (fun zz=>[]) (fun zz=>zz<=ls.length) (fun zz=>ls.length -zz) 0 (anH _) sb (fun w hw=>ag.mem hw) ?_;rintro i aW;refine ak ?_;refine Gb (fun h1=>?_) fun h1=>?_
 ·
  obtain⟨x,hx⟩:=get_some (xs:=ls) (i:=i) oM;have IY:ls.getD i gX=x:=by simp[List.getD,hx]
  have hle:=HT ls (k8 r p) (os.map gL) i;refine ar ?_;refine ae (aV rfl rfl i rfl oM) (ae (fo rfl i hx rfl) (ba fun je=>aM ?_));refine ae (cG (v:= .agg (eT ⟨x,p⟩)) rfl (IX x p)) (ba fun Ew=>aq ?_);refine c6 (Eu (f:=r) (vs:=[.agg (eT ⟨x,p⟩)]) rfl rfl (fun w1 _=>ZS w1 ⟨x,p⟩)) (ar ?_);refine Gb (fun h2=>?_) fun h2=>?_
  ·
   have bw:(gH ls (k8 r p) (os.map gL) (i+1))=(gH ls (k8 r p) (os.map gL) i):=by rw[gH,y7,IY,if_neg (by rw[h2];simp)]
   refine ak ?_;refine Gi ?_;exact bb (x:=(i)) (i+1) oF oF (Sub.cons rfl (Sub.cons (look_eq rfl (by rw[bw])) (Sub.cons (look_eq rfl (by rw[bw])) sb))) (fun w hw=>ag.mem hw)
  refine Gc ?_;refine eS oK oK (ak ?_);refine dm rfl rfl rfl (fun hg=>(Ry.yl (dw rfl))) (ar ?_);refine dm rfl rfl rfl (fun hg=>(Ry.yl (aV (aw hg rfl) (aw hg rfl) ((gH ls (k8 r p) (os.map gL) i).1.toNat) oM (by have:=hle.1;have:=hle.2.1;have:=(ad2.1 hx).1;omega)))) ?_;refine dm rfl rfl rfl (fun hg=>(Ry.yl (fo (aw hg rfl) ((gH ls (k8 r p) (os.map gL) i).1.toNat) (mL (d:=gX) (by have:=hle.1;have:=hle.2.1;have:=(ad2.1 hx).1;omega)) rfl))) ?_;refine Gh ?_;refine dm rfl rfl rfl (fun hg=>(Ry.yl (cG (v:= .agg (eT ⟨(ls.getD (gH ls (k8 r p) (os.map gL) i).1.toNat gX),p⟩)) (Ai (aw hg rfl) (Ai (aw hg rfl) Kx)) (IX (ls.getD (gH ls (k8 r p) (os.map gL) i).1.toNat gX) p)))) (Gh ?_);refine dm rfl rfl rfl (fun hg=>bF (cF (aw hg rfl) (cF (aw hg rfl) (cF (aw hg rfl) eX))) ZR) (ar ?_);refine Gb (fun h3=>?_) fun h3=>?_
  ·
   have bw:(gH ls (k8 r p) (os.map gL) (i+1))=((i:Int),true):=by
    rw[gH,y7,IY,if_pos ⟨h2,h3⟩]
   refine Gi ?_;refine aX ?_;refine Gi ?_;exact bb (x:=(i)) (i+1) oF oF (Sub.cons rfl (Sub.cons (look_eq rfl (by rw[bw])) (Sub.cons (look_eq rfl (by rw[bw])) sb))) (fun w hw=>ag.mem hw)
  have bw:(gH ls (k8 r p) (os.map gL) (i+1))=(gH ls (k8 r p) (os.map gL) i):=by
   rw[gH,y7,IY,if_neg];rintro⟨_,g⟩;rcases g with g|g
   ·
    exact absurd (h3.1.symm.trans g) (by simp)
   exact absurd (h3.2.symm.trans g) (by simp)
  refine ak ?_;refine Gi ?_;exact bb (x:=(i)) (i+1) oF oF (Sub.cons rfl (Sub.cons (look_eq rfl (by rw[bw])) (Sub.cons (look_eq rfl (by rw[bw])) sb))) (fun w hw=>ag.mem hw)
 obtain rfl:i=ls.length:=by omega
 refine aX ?_;refine Gr fun w1 hw=>?_;exact⟨by rw[hE],ag.mem hw⟩⟩
instance aka{l:Sv}{ls:List aG}{p:Int}[hl:cA w0 L bB 4 l ls]:bW Tryz.prog 313 w0 L [l.val, .int .i64 p] (.tuple #[.int .i64 ((fN ls p).1), .bool ((fN ls p).2)]) (True):=⟨fun az w hw=>by
 have hl:=hl.h w hw;have pT:Gv w l bB 4 ls:=⟨hl⟩;refine cq Tryz.func313 rfl Tryz.ntmps313 rfl ?_;refine aX ?_;refine iH (enc:=si) (vals:=[.func (.func 336) #[] #[], .func (.func 334) #[] #[]]) [336,334] rfl rfl rfl (by decide) (by decide) fun b8=>?_;refine c6 (bF rfl (by decide)) (ae (aF rfl rfl) (ae (aF rfl rfl) (ak ?_)));refine Gr fun w1 hw=>?_;exact⟨rfl,ag.mem hw⟩⟩
instance akb{l:Sv}{ls:List aG}{p:Int}[hl:cA w0 L bB 4 l ls]:bW Tryz.prog 310 w0 L [l.val, .int .i64 p] (.tuple #[.int .i64 ((gA ls p).1), .bool ((gA ls p).2)]) (True):=⟨fun az w hw=>by
 have hl:=hl.h w hw;have pT:Gv w l bB 4 ls:=⟨hl⟩;refine cq Tryz.func310 rfl Tryz.ntmps310 rfl ?_;refine aX ?_;refine iH (enc:=si) (vals:=[.func (.func 334) #[] #[]]) [334] rfl rfl rfl (by decide) (by decide) fun b8=>?_;refine c6 (bF rfl (by decide)) (ae (aF rfl rfl) (ae (aF rfl rfl) (ak ?_)));refine Gr fun w1 hw=>?_;exact⟨rfl,ag.mem hw⟩⟩
instance akc{l:Sv}{ls:List aG}{p:Int}[hl:cA w0 L bB 4 l ls]:bW Tryz.prog 327 w0 L [l.val, .int .i64 p] (.tuple #[.int .i64 ((w6 ls p).1), .bool ((w6 ls p).2)]) (True):=⟨fun az w hw=>by
 have hl:=hl.h w hw;have pT:Gv w l bB 4 ls:=⟨hl⟩;refine cq Tryz.func327 rfl Tryz.ntmps327 rfl ?_;refine aX ?_;refine iH (enc:=si) (vals:=[.func (.func 341) #[] #[], .func (.func 342) #[] #[], .func (.func 334) #[] #[]]) [341,342,334] rfl rfl rfl (by decide) (by decide) fun b8=>?_;refine c6 (bF rfl (by decide)) (ae (aF rfl rfl) (ae (aF rfl rfl) (ak ?_)));refine Gr fun w1 hw=>?_;exact⟨rfl,ag.mem hw⟩⟩
instance akd{l:Sv}{ls:List aG}{p:Int}[hl:cA w0 L bB 4 l ls]:bW Tryz.prog 330 w0 L [l.val, .int .i64 p] (.int .i64 (D0 ls p)) (True):=⟨fun az w hw=>by
 have hl:=hl.h w hw;have pT:Gv w l bB 4 ls:=⟨hl⟩;refine cq Tryz.func330 rfl Tryz.ntmps330 rfl ?_;refine eO ?_;refine Gb (fun h0=>?_) fun h0=>?_
 ·
  have hE:D0 ls p=0:=if_neg (by rw[h0];simp);refine ak ?_;refine Gr fun w1 hw=>?_;exact Gf (by rw[hE]) hw
 have hE:D0 ls p=l8 (ls.map (l6 p)):=if_pos h0;obtain⟨k1,k2,k3,k4,k5⟩:=Bd.1 h0;refine cx ?_;refine bI (X:=Nat) (fun zz=>[(15, .int .i64 (zz:Nat)),(5, .int .i64 (l8 ((ls.take zz).map (l6 p)))),(1, .int .i64 p),(13,l.val),(14, .int .i64 (ls.length:Nat))]) (fun zz=>[]) (fun zz=>zz<=ls.length) (fun zz=>ls.length -zz) 0 (anH _) sb (fun w hw=>ag.mem hw) ?_;rintro i aW;refine ak ?_;refine Gb (fun h1=>?_) fun h1=>?_
 ·
  obtain⟨x,hx⟩:=get_some (xs:=ls) (i:=i) oM;have za:=y5.1 (k5 x (alM hx));have eD:(l8 ((ls.take (i+1)).map (l6 p)))=(l8 ((ls.take i).map (l6 p)))+l6 p x:=by rw[anq,hx,an2,WR];simp[l8]
  have hsb:=NX p (ls.take i) (fun x hx=>k5 x (apj hx)) oM;have kQ:(ls.take i).length<=32:=by rw[anj];omega
  have k6:((ls.take i).length:Int)*p<=512:=room_le kQ oM oM;refine Gc ?_;refine ae (aV rfl rfl i rfl oM) (ae (fo rfl i hx rfl) (ba fun b7=>aq ?_));refine ae (cG (v:= .agg (eT ⟨x,p⟩)) rfl (IX x p)) (ba fun b8=>aX ?_);refine Gb (fun h2=>?_) fun h2=>?_
  ·
   have hr:l6 p x=p:=if_pos h2;refine Gi ?_;refine cx ?_;refine Gi ?_;exact bb (x:=(i)) (i+1) oF oF (Sub.cons rfl (Sub.cons (look_eq rfl (by rw[eD,hr])) sb)) (fun w hw=>ag.mem hw)
  refine aM ?_;refine Gb (fun h3=>?_) fun h3=>?_
  ·
   have hr:l6 p x=p -x.used:=by rw[l6,if_neg (by rw[h2];simp),if_pos h3]
   refine Gi ?_;refine aq ?_;refine ae (Ry.to (v':= .int .i64 x.used) (bC rfl) rfl) (aX ?_);refine Gi ?_;exact bb (x:=(i)) (i+1) oF oF (Sub.cons rfl (Sub.cons (look_eq rfl (by rw[eD,hr])) sb)) (fun w hw=>ag.mem hw)
  have hr:l6 p x=0:=by rw[l6,if_neg (by rw[h2];simp),if_neg (by rw[h3];simp)]
  refine ak ?_;refine Gi ?_;exact bb (x:=(i)) (i+1) oF oF (Sub.cons rfl (Sub.cons (look_eq rfl (by rw[eD,hr,Int.add_zero])) sb)) (fun w hw=>ag.mem hw)
 obtain rfl:i=ls.length:=by omega
 refine aq ?_;refine Gr fun w1 hw=>?_;exact⟨congrArg (fun b=>Ending.returned (Value.int .i64 b)) (by rw[hE,anD]),ag.mem hw⟩⟩
instance ake{n:Nat}:bK Tryz.prog 302 w0 L [.slice none 0 0, .int .i64 (n:Nat)] (Sv) (fun zz=>zz.val) (fun zz=>own (bQ (τ:=UInt8)) 1 zz ([]:List (Sl UInt8))::L) (fun zz=>True) (n<=1000000000):=⟨fun az w hw=>Gk (fun zz=>[own (bQ (τ:=UInt8)) 1 zz ([]:List (Sl UInt8))]) hw (by
 refine cq Tryz.func302 rfl Tryz.ntmps302 rfl ?_;refine aX ?_;refine Gb (fun h0=>?_) fun h0=>?_
 ·
  exfalso;omega
 refine ak ?_;refine ae (Dq rfl) (Gs ?_);refine ae (wj rfl) (cx ?_);refine Gb (fun h1=>?_) fun h1=>?_
 ·
  refine Gi ?_;refine ar ?_;refine ae (Dq rfl) (ae (Ry.to (v':= .slice none 0 0) (uI (s:=Sv.none) (h:=0) rfl rfl rfl Sv.Am (anm _)) rfl) (Gs ?_));refine Mv (enc:=(bQ (τ:=UInt8))) (k:=n) (⟨Sv.none,[]⟩:Sl UInt8) rfl rfl oM oM (by decide) rfl Tryz.underlying3 oM oM fun Bw Bx IK=>Gs ?_;refine ae (wj rfl) (ae (uI (s:=⟨false,Bw,0,n,Bx,none⟩) (h:=0) rfl rfl rfl ⟨(fun h=>by cases h),IK,by simp only;omega,fun _=>rfl⟩ (anH _)) (aM ?_));refine Gr fun w1 hw=>?_;refine⟨Sv.sub ⟨false,Bw,0,n,Bx,none⟩ 1 0 0,rfl,trivial,?_⟩;have fK:=Mem.Mu (i:=0) (k:=0) hw rfl (anH _);rw[anP]at fK;exact fK
 have hn:n=0:=by omega
 refine aq ?_;refine Gr fun w1 hw=>?_;exact⟨Sv.none,rfl,trivial,(ag.mem hw:Mem w [] _).cz (bQ (τ:=UInt8)) 1⟩)⟩
instance P3{a:Sl (Sl (Sl UInt8))}[ha:aS w0 L a]:bK Tryz.prog 258 w0 L [a.sv.val] (Sv) (fun zz=>zz.val) (fun zz=>own (bQ (τ:=UInt8)) 1 zz (eU a.xs)::L) (fun zz=>True) ((eU a.xs).length<=1000000):=⟨fun az w hw=>Gk (fun zz=>[own (bQ (τ:=UInt8)) 1 zz (eU a.xs)]) hw (by
 have ha:=ha.h w hw;have IL:cl w a:=⟨ha⟩;have sD:=ha.1.bd;have dD:=WD a.xs;refine cd Tryz.func258 rfl Tryz.ntmps258 rfl ?_;refine gV ?_;refine bI (X:=Nat) (fun zz=>[(11, .int .i64 (zz:Nat)),(3, .int .i64 ((eU (a.xs.take zz)).length:Nat)),(0,a.sv.val),(9,a.sv.val),(10, .int .i64 (a.xs.length:Nat))]) (fun zz=>[]) (fun zz=>zz<=a.xs.length) (fun zz=>a.xs.length -zz) 0 (anH _) sb (fun w hw=>ag.mem hw) ?_;rintro i hi;have uZ:=dD i;have jX:=dD (i+1);refine ak ?_;refine Gb (fun h0=>?_) fun h0=>?_
 ·
  refine lZ ?_;obtain⟨x,hx⟩:=get_some (xs:=a.xs) (i:=i) oM;refine ae (aV rfl rfl i rfl oM) (ae (bJ (j:=0) rfl i hx rfl (by decide)) ?_);have Zr:(eU (a.xs.take (i+1))).length=(eU (a.xs.take i)).length+x.xs.length:=by rw[DX hx,af0]
  have Ey:Mb x _:=⟨List.mem_of_getElem? hx⟩;refine lY ?_;refine Gb (fun h1=>?_) fun h1=>?_
  ·
   exfalso;omega
  refine ak ?_;refine Gi ?_;exact bb (x:=(i)) (i+1) oF oF (Sub.cons rfl (Sub.cons (look_eq rfl (by rw[DX hx,af0];simp)) sb)) (fun w hw=>ag.mem hw)
 obtain rfl:i=a.xs.length:=by omega
 have nH:=dD a.xs.length;refine ar ?_;refine bf rfl oM fun vI IM=>aX ?_;refine bI (X:=Nat×Sv) (fun zz=>[(27, .int .i64 (zz.1:Nat)),(6,zz.2.val),(25,a.sv.val),(26, .int .i64 (a.xs.length:Nat))]) (fun zz=>[own (bQ (τ:=UInt8)) 1 zz.2 (eU (a.xs.take zz.1))]) (fun zz=>zz.1<=a.xs.length) (fun zz=>a.xs.length -zz.1) (0,vI) (Nat.zero_le _) sb (fun w hw=>(ag.mem hw:Mem _ [own (bQ (τ:=UInt8)) 1 vI ([]:List (Sl UInt8))] _)) ?_;rintro⟨k,s1⟩ hk;dsimp only;simp only at hk;have uZ:=dD k;have jX:=dD (k+1);refine ak ?_;refine Gb (fun h2=>?_) fun h2=>?_
 ·
  refine lZ ?_;obtain⟨y,hy⟩:=get_some (xs:=a.xs) (i:=k) oM;refine ae (aV rfl rfl k rfl oM) (ae (bJ (j:=0) rfl k hy rfl (by decide)) ?_);have Zs:(eU (a.xs.take (k+1))).length=(eU (a.xs.take k)).length+y.xs.length:=by rw[DX hy,af0]
  have PT:Mb y _:=⟨List.mem_of_getElem? hy⟩;refine aq ?_;refine iv (s:=s1) (enc:=(bQ (τ:=UInt8))) (ys:=y.xs) rfl rfl (by decide) (fun w hw=>gF (s:=y.sv) Tryz.underlying178 (by decide) ((inferInstance:cA _ _ (bQ (τ:=UInt8)) 1 y.sv y.xs).h w hw)) oM oM fun IN Zt Zu=>?_;refine aq ?_;refine Gi ?_;exact bb (x:=(k,s1)) (k+1,IN) (by simp only;omega) (by simp only;omega) sb (fun w hw=>by rw[DX hy];exact ag.mem hw)
 obtain rfl:k=a.xs.length:=by omega
 refine aq ?_;refine Gr fun w1 hw=>?_;exact⟨s1,rfl,trivial,by rw[anD]at hw;exact ag.mem hw⟩)⟩
instance akf{x:Sv}{xs:List Int}{y:Sv}{ys:List Int}[hx:cA w0 L bt 1 x xs][hy:cA w0 L bt 1 y ys]:bW Tryz.prog 167 w0 L [x.val,y.val] (.bool (decide (xs=ys))) (True):=⟨fun az w hw=>by
 have hx:=hx.h w hw;have hy:=hy.h w hw;have zw:Gv w x bt 1 xs:=⟨hx⟩;have P4:Gv w y bt 1 ys:=⟨hy⟩;have ZT:=hx.bd;refine cq Tryz.func167 rfl Tryz.ntmps167 rfl ?_;refine gV ?_;refine Gb (fun h0=>?_) fun h0=>?_
 ·
  have hz:decide (xs=ys)=false:=decide_eq_false fun e=>h0 (by rw[e]);refine ak ?_;refine Gr fun w1 hw=>?_;exact Ge (hz.symm) hw
 have qw:xs.length=ys.length:=by omega
 refine aM ?_;refine bI (X:=Nat) (fun zz=>[(13, .int .i64 (zz:Nat)),(0,x.val),(1,y.val),(12, .int .i64 (xs.length:Nat))]) (fun zz=>[]) (fun zz=>zz<=xs.length/\ ∀j,j<zz->xs[j]? =ys[j]?) (fun zz=>xs.length -zz) 0 ⟨Nat.zero_le _,fun j hj=>by first|omega|(simp only[];omega)⟩ sb (fun w hw=>ag.mem hw) ?_;rintro i ⟨aW,aB⟩;refine ak ?_;refine Gb (fun h1=>?_) fun h1=>?_
 ·
  obtain⟨p,iw⟩:=get_some (xs:=xs) (i:=i) oM;obtain⟨q,tP⟩:=get_some (xs:=ys) (i:=i) oM;refine aq ?_;refine eS oK oK (ar ?_);refine bn (aV rfl rfl i rfl oM) (bn (bJ (j:=0) rfl i iw rfl (by decide)) (ar ?_));refine bn (aV rfl rfl i rfl oM) (bn (bJ (j:=0) rfl i tP rfl (by decide)) (ar ?_));refine Gb (fun h2=>?_) fun h2=>?_
  ·
   have hz:decide (xs=ys)=false:=decide_eq_false fun e=>h2 (by rw[e]at iw;rw[iw]at tP;cases tP;rfl);refine ak ?_;refine Gr fun w1 hw=>?_;exact Ge (hz.symm) hw
  refine ak ?_;refine Gi ?_;exact bb (x:=(i)) (i+1) ⟨oF,fun j hj=>if e:j=i then(by subst e;rw[iw,tP,h2])else aB j oF⟩ oF sb (fun w hw=>ag.mem hw)
 obtain rfl:i=xs.length:=by omega
 have hz:decide (xs=ys)=true:=decide_eq_true (aok fun j=>by
  rcases anl j xs.length with hj|hj
  ·
   exact aB j hj
  rw[ans hj,ans oM])
 refine ak ?_;refine Gr fun w1 hw=>?_;exact⟨congrArg (fun b=>Ending.returned (Value.bool b)) (hz.symm),ag.mem hw⟩⟩
theorem ZU(g:UInt64)(w:World):(Instr.build 314 #[(0, .int .u64 (g.toNat:Int))]).run Tryz.prog w= .ok (.agg (dQ ⟨g,⟨Sv.none,[]⟩⟩)) w:=by
 unfold dQ;kernel_rfl
instance akg{b:Sv}{bs:List UInt8}[hb:cA w0 L aP 1 b bs]:bK Tryz.prog 297 w0 L [b.val] (cW) (fun zz=> .tuple #[.agg (dQ zz), .int .i64 ((fc bs).2)]) (fun zz=>own bt 1 zz.at_.sv zz.at_.xs::L) (fun zz=>da zz=(fc bs).1) (True):=⟨fun az w hw=>Gk (fun zz:cW=>[own bt 1 zz.at_.sv zz.at_.xs]) hw (by
 have hb:=hb.h w hw;have xz:Gv w b aP 1 bs:=⟨hb⟩;refine cd Tryz.func297 rfl Tryz.ntmps297 rfl ?_;refine Gc ?_;refine ba fun b2=>ak ?_;refine bf rfl trivial fun dk xB=>?_;have P5:dk.kind=(di bs).1.kind:=congrArg PV.kind xB;have P6:dk.id=(di bs).1.id:=congrArg PV.id xB;have tT:dk.gen.toNat=(di bs).1.gen:=congrArg PV.gen xB;have nP:dk.body.xs=(di bs).1.body:=congrArg PV.body xB;have eH:=HJ bs;rw[←nP]at eH;refine Gs ?_;refine ae (aF (v:= .agg (cD dk)) rfl rfl) (ae (aF (v:= .int .i64 ((di bs).2)) rfl rfl) (ba fun b4=>aX ?_));refine Gb (fun h0=>?_) fun h0=>?_
 ·
  have hE:fc bs=(gz,(di bs).2):=by rw[fc,if_pos h0]
  refine Gc ?_;refine ae (cG (v:= .agg (dQ kC)) rfl (fun w=>by kernel_rfl)) (aq ?_);refine Gr fun w1 hw=>?_;exact⟨kC,by rw[hE],by rw[hE];rfl,Mem.cz bt 1 (ag.mem hw:Mem w [] _)⟩
 refine aM ?_;refine Gb (fun h1=>?_) fun h1=>?_
 ·
  have hE:fc bs=(gz,6):=by rw[fc,if_neg oM,if_pos oM]
  refine Gc ?_;refine ae (cG (v:= .agg (dQ kC)) rfl (fun w=>by kernel_rfl)) (ak ?_);refine Gr fun w1 hw=>?_;exact⟨kC,by rw[hE],by rw[hE];rfl,Mem.cz bt 1 (ag.mem hw:Mem w [] _)⟩
 refine aq ?_;refine ae (kl rfl rfl oM oM) (gV ?_);refine bk rfl rfl rfl (fun hg=>(Ry.yl (KO (p:=dk.body.xs.length) (q:=2) (aw hg rfl) rfl rfl rfl (by simp only[Z0,Z1,Z2,Z3,Z4,Z5,Z6,Z7,Z8,Z9]at hg;omega)))) (aX ?_);refine bk rfl rfl rfl (fun hg=>(Ry.yl (uB (aw hg rfl) rfl (by simp only[Z0,Z1,Z2,Z3,Z4,Z5,Z6,Z7,Z8,Z9]at hg;omega)))) (bk rfl rfl rfl (fun hg=>(Ry.yl (uC rfl (aw hg rfl)))) (ak ?_));refine Gb (fun h2=>?_) fun h2=>?_
 ·
  have oY:ve (di bs).1=false:=by
   cases hk:ve (di bs).1 with
   |false=>rfl
   |true=>
    simp only[ve,anc,decide_eq_true_eq,←P5,←P6,←nP]at hk;omega
  have hE:fc bs=(gz,2):=by rw[fc,if_neg oM,if_neg oM,if_pos oY]
  refine Gc ?_;refine ae (cG (v:= .agg (dQ kC)) rfl (fun w=>by kernel_rfl)) (ak ?_);refine Gr fun w1 hw=>?_;exact⟨kC,by rw[hE],by rw[hE];rfl,Mem.cz bt 1 (ag.mem hw:Mem w [] _)⟩
 have oY:ve (di bs).1=true:=by
  simp only[ve,anc,decide_eq_true_eq,←P5,←P6,←nP];omega
 have hE:fc bs=(⟨dk.gen.toNat,pK dk.body.xs⟩,0):=by rw[fc,if_neg oM,if_neg oM,if_neg (by rw[oY];simp),tT,nP]
 have BC:=HL dk.body.xs;refine ak ?_;refine ae (cG (v:= .agg (dQ ⟨dk.gen,⟨Sv.none,[]⟩⟩)) rfl (ZU dk.gen)) (ba fun b7=>aM ?_);refine bI (X:=Nat×Sv) (fun zz=>[(49, .int .i64 (zz.1:Nat)),(7, .pointer (some ⟨b7,0,none⟩)),(2, .pointer (some ⟨b2,0,none⟩)),(4, .pointer (some ⟨b4,0,none⟩)),(48, .int .i64 ((dk.body.xs.length/2):Nat))]) (fun zz=>[an b7 (dQ ⟨dk.gen,⟨zz.2,(pK dk.body.xs).take zz.1⟩⟩) 314,own bt 1 zz.2 ((pK dk.body.xs).take zz.1),an b4 (cD dk) 324,own aP 1 dk.body.sv dk.body.xs,an b2 (dQ kC) 314]) (fun zz=>zz.1<=dk.body.xs.length/2) (fun zz=>dk.body.xs.length/2 -zz.1) (0,Sv.none) (anH _) sb (fun w hw=>by
  simp only[anP];exact ag.mem (Mem.cz bt 1 hw)) ?_
 rintro⟨i,s1⟩ aW;dsimp only;simp only at aW;refine ak ?_;refine Gb (fun h3=>?_) fun h3=>?_
 ·
  have eD:=Wv (b:=dk.body.xs) (i:=i) oM;refine aq ?_;refine rB [19,20,22,1001,2019] [[],[],[],[],[],[],[],[],[],[],[],[],[],[],[],[],[],[],[],[],[1,19],[1,19,20],[1,19,20]] [0,1,2,3,4,5,6,7,8,9,10,11,12,13,14,15,16,17,18,19,20,21,22] [an b4 (cD dk) 324,own aP 1 dk.body.sv dk.body.xs] [(19,u4 bt 1 1 [(qx dk.body.xs i)])] oK (fun _ hw=>ag.mem hw) oK oK (al rfl (aH (o':=1) rfl rfl) (gw rfl (bC rfl) (al rfl (aH (o':=3) rfl rfl) (al rfl (bC rfl) (al rfl (aK rfl) (al rfl (od rfl rfl oM) (al rfl (aV rfl rfl (2*i) rfl oM) (al rfl (bJ (j:=0) rfl (2*i) (mL (xs:=dk.body.xs) (i:=2*i) (d:=0) oM) rfl (by decide)) (al rfl (wA rfl) (al rfl (KQ rfl rfl) (al rfl (aH (o':=3) rfl rfl) (al rfl (bC rfl) ?_))))))))))));refine al rfl (aK rfl) (al rfl (od rfl rfl oM) (al rfl (pv rfl rfl oM) (al rfl (aV rfl rfl (2*i+1) rfl oM) (al rfl (bJ (j:=0) rfl (2*i+1) (mL (xs:=dk.body.xs) (i:=2*i+1) (d:=0) oM) rfl (by decide)) (al rfl (wA rfl) (al rfl (KR rfl rfl) (qq (m:=u4 bt 1 1 [(qx dk.body.xs i)]) rfl rfl (Mf (enc:=bt) (c:=1) (n:=1) (vals:=[.int .i64 (qx dk.body.xs i)]) [(qx dk.body.xs i)] rfl rfl rfl (by decide) (by decide)) (Cert.none rfl) fun EB=>?_)))))));change Ln _ _ _ _ _ _ _ _ (bZ _ _ (Sv.val ⟨false,EB,0,1,1,none⟩)) (own bt 1 ⟨false,EB,0,1,1,none⟩ [(qx dk.body.xs i)]::_) _;refine cO rfl (Us (s:=s1) (ys:=[(qx dk.body.xs i)]) rfl rfl (by decide) (fun w hw=>gF (s:=⟨false,EB,0,1,1,none⟩) Tryz.underlying60 (by decide) ((inferInstance:Hd _ _ ⟨false,EB,0,1,1,none⟩ bt 1 [(qx dk.body.xs i)]).h w hw)) (by simp only[anj,ang,anh];omega) (by simp only[anj,ang,anh];omega) fun P7 akh aki=>⟨fun _ hw=>ag.mem hw,?_⟩);refine al rfl (aH (o':=1) rfl rfl) ?_;refine cO rfl (wO (cs':=dQ (⟨dk.gen,⟨P7,(((pK dk.body.xs).take i)++[(qx dk.body.xs i)])⟩⟩:cW)) rfl rfl (by show 1<2;decide) (by first|rfl|exact Sv.one _) rfl ⟨fun _ hw=>ag.mem hw,?_⟩);refine ak ?_;refine Gi ?_;exact bb (x:=(i,s1)) (i+1,P7) (by simp only;omega) (by simp only;omega) sb (fun w hw=>by
   simp only[eD];exact ag.mem hw)
 obtain rfl:i=dk.body.xs.length/2:=by omega
 rw[anx oM]at*;refine aM ?_;refine Gr fun w1 hw=>?_;exact⟨⟨dk.gen,⟨s1,pK dk.body.xs⟩⟩,by rw[hE],by rw[hE];rfl,ag.mem hw⟩)⟩
instance P8{l:Sl (Sl UInt8)}[hl:aS w0 L l]:bK Tryz.prog 257 w0 L [l.sv.val] (cW) (fun zz=> .tuple #[.int .i64 ((fY (aL l.xs)).1), .agg (dQ zz), .int .i64 ((fY (aL l.xs)).2.2)]) (fun zz=>own bt 1 zz.at_.sv zz.at_.xs::L) (fun zz=>da zz=(fY (aL l.xs)).2.1) (True):=⟨fun az w hw=>Gk (fun zz:cW=>[own bt 1 zz.at_.sv zz.at_.xs]) hw (by
 have hl:=hl.h w hw;have pT:cl w l:=⟨hl⟩;have hU:=hl.1.bd;have gC:=mW l.xs;refine cd Tryz.func257 rfl Tryz.ntmps257 rfl ?_;refine ar ?_;refine ba fun b3=>ar ?_;refine ae (cG (v:= .agg (dQ kC)) rfl (fun w=>by kernel_rfl)) (ba fun b6=>gV ?_);refine bI (X:=Nat×cW) (fun zz=>[(16, .int .i64 (zz.1:Nat)),(5, .int .i64 ((dY (aL l.xs) zz.1).at_)),(6, .pointer (some ⟨b6,0,none⟩)),(7, .bool ((dY (aL l.xs) zz.1).found)),(8, .bool ((dY (aL l.xs) zz.1).blank)),(3, .pointer (some ⟨b3,0,none⟩)),(14,l.sv.val),(15, .int .i64 (l.xs.length:Nat))]) (fun zz=>[an b6 (dQ zz.2) 314,own bt 1 zz.2.at_.sv zz.2.at_.xs,an b3 (dQ kC) 314]) (fun zz=>zz.1<=l.xs.length/\da zz.2=(dY (aL l.xs) zz.1).new) (fun zz=>l.xs.length -zz.1) (0,kC) ⟨Nat.zero_le _,rfl⟩ sb (fun w hw=>by
  have h9:Mem _ [an b6 (dQ kC) 314,own bt 1 Sv.none [],an b3 (dQ kC) 314] _:=ag.mem (Mem.cz bt 1 hw);exact h9) ?_
 rintro⟨i,d⟩ ⟨aW,aB⟩;dsimp only;simp only at aW aB;refine ak ?_;refine Gb (fun h0=>?_) fun h0=>?_
 ·
  obtain⟨y,hy⟩:=get_some (xs:=l.xs) (i:=i) oM;have IV:Mb y l:=⟨List.mem_of_getElem? hy⟩;have P9:=oE hy;have Qa:d.gen.toNat=(dY (aL l.xs) i).new.gen:=congrArg RV.gen aB;refine ar ?_;refine ae (aV rfl rfl i rfl oM) (ae (bJ (j:=0) rfl i hy rfl (by decide)) (aX ?_));refine fv rfl rfl rfl (fun hg=>bF (cF (aw hg rfl) eX) trivial) (aq ?_);refine bf rfl trivial fun db mw=>?_;have Qb:db.gen.toNat=(fc y.xs).1.gen:=congrArg RV.gen mw;refine Gs ?_;refine ae (aF (v:= .agg (dQ db)) rfl rfl) (ae (aF (v:= .int .i64 ((fc y.xs).2)) rfl rfl) (ba fun k9=>cx ?_));refine fv rfl rfl rfl (fun hg=>(Ry.yl (gS (aw hg rfl)))) (fv rfl rfl rfl (fun hg=>(Ry.yl (aK (aw hg rfl)))) (sM rfl rfl rfl (fun hg=>(Ry.yl (aH (o':=0) rfl rfl))) (sM rfl rfl rfl (fun hg=>(Ry.yl (bC (aw hg rfl)))) (sM rfl rfl rfl (fun hg=>(Ry.yl (aH (o':=0) rfl rfl))) (sM rfl rfl rfl (fun hg=>(Ry.yl (bC (aw hg rfl)))) (sM rfl rfl rfl (fun hg=>(Ry.yl (cQ (aw hg rfl) (aw hg rfl) rfl))) (fv rfl rfl rfl (fun hg=>(Ry.yl (wi (aw hg rfl) rfl (uF hg rfl)))) (ar ?_))))))));refine Gb (fun h1=>?_) fun h1=>?_
  ·
   have hq:(fc y.xs).2=0/\((dY (aL l.xs) i).found=false\/(dY (aL l.xs) i).new.gen<=(fc y.xs).1.gen):=⟨h1.1,h1.2.imp (fun h=>h) (fun h=>by rw[←Qa,←Qb];omega)⟩;have tU:=Wz P9 hq;refine gx [3] [[],[],[],[],[3]] [0,1,2,3,4] [an k9 (dQ db) 314] (fun _ hw=>ag.mem hw) oK oK (al rfl (aK rfl) (al rfl (dw rfl) (al rfl (c0 rfl) (cO rfl (mQ rfl rfl ⟨fun _ hw=>ag.mem hw,?_⟩)))));refine al rfl (c0 rfl) (ak ?_);refine Gi ?_;exact bb (x:=(i,d)) (i+1,db) ⟨oF,by rw[tU];exact mw⟩ (by simp only;omega) (Sub.cons rfl (Sub.cons (look_eq rfl (by simp only[tU])) (Sub.cons rfl (Sub.cons (look_eq rfl (by simp only[tU])) (Sub.cons (look_eq rfl (by simp only[tU])) sb))))) (fun w hw=>ag.mem hw)
  have hq: ¬((fc y.xs).2=0/\((dY (aL l.xs) i).found=false\/(dY (aL l.xs) i).new.gen<=(fc y.xs).1.gen)):=fun hq=>by
   rw[←Qa,←Qb]at hq;rcases h1 with h|h
   ·
    exact h hq.1
   rcases hq.2 with g|g
   ·
    exact absurd (h.1.symm.trans g) (by simp)
   omega
  have tU:=WA P9 hq;refine ak ?_;refine Gi ?_;exact bb (x:=(i,d)) (i+1,d) ⟨oF,by rw[tU];exact aB⟩ (by simp only;omega) (Sub.cons rfl (Sub.cons (look_eq rfl (by simp only[tU])) (Sub.cons rfl (Sub.cons (look_eq rfl (by simp only[tU])) (Sub.cons (look_eq rfl (by simp only[tU])) sb))))) (fun w hw=>ag.mem hw)
 obtain rfl:i=l.xs.length:=by omega
 rw[←gC]at aB;refine aq ?_;refine Gb (fun h2=>?_) fun h2=>?_
 ·
  have hE:fY (aL l.xs)=((dY (aL l.xs) (aL l.xs).length).at_,(dY (aL l.xs) (aL l.xs).length).new,0):=by rw[fY,if_pos (by rw[gC];exact h2)]
  refine Gi ?_;refine gx [3] [[],[],[],[],[3]] [0,1,2,3,4] [an b6 (dQ d) 314] (fun _ hw=>ag.mem hw) oK oK (al rfl (aK rfl) (al rfl (dw rfl) (al rfl (c0 rfl) (cO rfl (mQ rfl rfl ⟨fun _ hw=>ag.mem hw,?_⟩)))));refine al rfl (c0 rfl) (Gc ?_);refine Gr fun w1 hw=>?_;exact⟨d,by rw[hE,gC],by rw[hE];exact aB,ag.mem hw⟩
 refine aq ?_;refine Gb (fun h3=>?_) fun h3=>?_
 ·
  have hE:fY (aL l.xs)=(0,gz,6):=by rw[fY,if_neg (by rw[gC,h2];simp),if_pos (by rw[gC];exact h3)]
  refine Gc ?_;refine ae (cG (v:= .agg (dQ kC)) rfl (fun w=>by kernel_rfl)) (aq ?_);refine Gr fun w1 hw=>?_;exact⟨kC,by rw[hE],by rw[hE];rfl,Mem.cz bt 1 (ag.mem hw:Mem w [] _)⟩
 have hE:fY (aL l.xs)=(0,gz,2):=by rw[fY,if_neg (by rw[gC,h2];simp),if_neg (by rw[gC,h3];simp)]
 refine Gc ?_;refine ae (cG (v:= .agg (dQ kC)) rfl (fun w=>by kernel_rfl)) (aq ?_);refine Gr fun w1 hw=>?_;exact⟨kC,by rw[hE],by rw[hE];rfl,Mem.cz bt 1 (ag.mem hw:Mem w [] _)⟩)⟩
theorem ZV(c:Cp)(s:Sl Int)(g:UInt64)(l:Int)(w:World):(Instr.build 63 #[(0, .agg (aR c)),(1,s.sv.val),(2, .int .u64 (g.toNat:Int)),(3, .int .i64 l)]).run Tryz.prog w= .ok (.agg (bX ⟨c,s,g,l⟩)) w:=by
 obtain⟨s,xs⟩:=s;obtain⟨a1,a2,⟨a3,a4⟩,a5,a6,⟨a7,a8⟩⟩:=c;unfold bX aR;obtain⟨e,b,o,l,c,p⟩:=s;obtain⟨e3,b3,o3,l3,c3,p3⟩:=a3;obtain⟨e7,b7,o7,l7,c7,p7⟩:=a7
 cases e<;>cases e3<;>cases e7<;>kernel_rfl
instance akj{c:Cp}[hc:aS w0 L c]:bK Tryz.prog 221 w0 L [.agg (aR c)] (bV) (fun zz=> .tuple #[.agg (bX zz), .int .i64 ((bL (cv c)).2)]) (fun zz=>own bt 1 zz.at_.sv zz.at_.xs::L) (fun zz=>vv zz=(bL (cv c)).1/\((bL (cv c)).2=0->zz.aj=c)) (True):=⟨fun az w hw=>Gk (fun zz:bV=>[own bt 1 zz.at_.sv zz.at_.xs]) hw (by
 have hc:=hc.h w hw;have jP:cl w c:=⟨hc⟩;refine cd Tryz.func221 rfl Tryz.ntmps221 rfl ?_;refine Gc ?_;refine bx rfl fun b1=>ba fun b2=>aX ?_;refine Gb (fun h0=>?_) fun h0=>?_
 ·
  have hE:bL (cv c)=(l5,1):=by rw[bL,if_pos h0]
  have cc:(1:Int)≠0:=by decide
  refine Gc ?_;refine ae (cG (v:= .agg (bX kD)) rfl (fun w=>by kernel_rfl)) (ak ?_);refine Gr fun w1 hw=>?_;exact⟨kD,by rw[hE],⟨by rw[hE];rfl,fun h=>absurd (by rw[hE]at h;exact h) cc⟩,Mem.cz bt 1 (ag.mem hw:Mem w [] _)⟩
 have sg:=tn.1 h0;have hk:=sg.1;have nu:(cv c).blocks.length=c.blocks.xs.length:=fW _;have hH:=kz.1 (eP.1 hk).1;obtain⟨B0,zA⟩:=get_some (xs:=c.blocks.xs) (i:=0) oM;obtain⟨B1,sj⟩:=get_some (xs:=c.blocks.xs) (i:=1) oM;have ZW:Mb B0 c.blocks:=⟨List.mem_of_getElem? zA⟩;have ZX:Mb B1 c.blocks:=⟨List.mem_of_getElem? sj⟩;have o0:=(gy.1 ((eP.1 hk).2.2.2.2 (bv B0) (alM (lD zA)))).1;have o1:=(gy.1 ((eP.1 hk).2.2.2.2 (bv B1) (alM (lD sj)))).1;have IZ:=mW B0.ab.xs;have ht1:=mW B1.ab.xs;simp only[bv,cv]at o0 o1 hH;have hT:aL (eU [B0.ab,B1.ab])=(aA (cv c) 0).ab++(aA (cv c) 1).ab:=by
  rw[HN,show aA (cv c) 0=bv B0 from HO zA,show aA (cv c) 1=bv B1 from HO sj];rfl
 have nV:=NK (l:=(aA (cv c) 0).ab++(aA (cv c) 1).ab) (by rw[←hT,HN,af0];omega);have gC:((aA (cv c) 0).ab++(aA (cv c) 1).ab).length=B0.ab.xs.length+B1.ab.xs.length:=by rw[←hT,HN,af0];omega
 have vN:0<=(fh (cv c)).1:=nV.1;have vJ:(fh (cv c)).1<c.ab+c.ab:=by have:=nV.2;rw[gC]at this;change(fh (cv c)).1<_ at this;omega
 have gva:NI w (eU [B0.ab,B1.ab]):=⟨fun y hy=>by
  simp only[eU,anX,aou,aow,ap5,anN,anu]at hy;rcases hy with hy|hy
  ·
   exact(hc.1.2 B0 ZW.h).2 y hy
  exact(hc.1.2 B1 ZX.h).2 y hy⟩
 have akk:0<=((fh (cv c)).1/c.ab):=apR vN oM;have akl:((fh (cv c)).1/c.ab)<2:=Int.ediv_lt_of_lt_mul oM oM;have bu:=NM ((aA (cv c) 0).ab++(aA (cv c) 1).ab);have IU:(c.blocks.xs.getD ((fh (cv c)).1/c.ab).toNat oD).used=(aA (cv c) ((fh (cv c)).1/c.ab)).used:=congrArg BV.used (w3 (c:=c));refine aq ?_;refine Gb (fun h1=>?_) fun h1=>?_
 ·
  have hE:bL (cv c)=(l5,7):=by rw[bL,if_neg (by rw[h0];simp),if_pos (show(cv c).off=true from h1)]
  have cc:(7:Int)≠0:=by decide
  refine Gc ?_;refine ae (cG (v:= .agg (bX kD)) rfl (fun w=>by kernel_rfl)) (ak ?_);refine Gr fun w1 hw=>?_;exact⟨kD,by rw[hE],⟨by rw[hE];rfl,fun h=>absurd (by rw[hE]at h;exact h) cc⟩,Mem.cz bt 1 (ag.mem hw:Mem w [] _)⟩
 have pq: ¬(cv c).off=true:=by rw[show(cv c).off=c.off from rfl,h1];simp
 refine Gc ?_;refine rB [10,11,12,17,19,2010,2017,4011,4012] [[],[],[],[],[],[],[],[],[],[],[],[10],[10,11],[10,11,12],[10,11,12],[10,11,12],[10,11,12],[],[10,11,12,17],[10,11,12,17],[10,11,12,17,19]] [0,1,2,3,4,5,6,7,8,9,10,11,12,13,14,15,16,17,18,19,20] [an b1 (aR c) 59] [(10,u4 (bQ (τ:=Sl UInt8)) 1 2 [B0.ab,B1.ab]),(17,lA Tryz.prog 314)] oK (fun _ hw=>ag.mem hw) oK oK (al rfl (aH (o':=2) rfl rfl) (al rfl (bC rfl) (al rfl (aV rfl rfl 0 rfl oM) (al rfl (aH rfl rfl) (al rfl (bJ (j:=0) rfl 0 zA rfl (by decide)) (al rfl (aH (o':=2) rfl rfl) (al rfl (bC rfl) (al rfl (aV rfl rfl 1 rfl oM) (al rfl (aH rfl rfl) (al rfl (bJ (j:=0) rfl 1 sj rfl (by decide)) (qq (m:=u4 (bQ (τ:=Sl UInt8)) 1 2 [B0.ab,B1.ab]) rfl rfl (Mf (enc:=(bQ (τ:=Sl UInt8))) (c:=1) (n:=2) (vals:=[B0.ab.sv.val,B1.ab.sv.val]) [B0.ab,B1.ab] rfl (by simp only[anX,aou,Sv.iz];rfl) rfl (by decide) (by decide)) (Cert.one (i:=17) rfl rfl rfl lB (Cert.none rfl)) fun EC=>?_)))))))))));change Ln _ _ _ _ _ _ _ _ (bZ _ _ (Sv.val ⟨false,EC,0,2,2,none⟩)) (own (bQ (τ:=Sl UInt8)) 1 ⟨false,EC,0,2,2,none⟩ [B0.ab,B1.ab]::_) _;refine wP (hc:=P3 (a:=(⟨⟨false,EC,0,2,2,none⟩,[B0.ab,B1.ab]⟩:Sl (Sl (Sl UInt8))))) (G7:=fun e_=>P3 (a:=(⟨⟨false,EC,0,2,2,none⟩,[B0.ab,B1.ab]⟩:Sl (Sl (Sl UInt8))))) rfl rfl (by simp only[eU,anX,aou,aow,ap5,af0,anh];omega) (fun e x w hw=>ag.mem hw) (Cert.one (i:=17) rfl rfl rfl lB (Cert.none rfl)) fun pW sk=>⟨fun _ hw=>ag.mem hw,?_⟩;refine wP (hc:=P8 (l:=(⟨pW,(eU [B0.ab,B1.ab])⟩:Sl (Sl UInt8)))) (G7:=fun e_=>P8 (l:=(⟨pW,(eU [B0.ab,B1.ab])⟩:Sl (Sl UInt8)))) rfl rfl trivial (fun e x w hw=>ag.mem hw) (Cert.one (i:=17) rfl rfl rfl lB (Cert.none rfl)) fun db mw=>⟨fun _ hw=>ag.mem hw,?_⟩;have fJ:(fY (aL (eU [B0.ab,B1.ab]))).1=(fh (cv c)).1:=by rw[hT];rfl
 have I0:(fY (aL (eU [B0.ab,B1.ab]))).2.2=(fh (cv c)).2.2:=by rw[hT];rfl
 have BD:da db=(fh (cv c)).2.1:=by rw[mw,hT];rfl
 have ny:db.gen.toNat=(fh (cv c)).2.1.gen:=congrArg RV.gen BD;have ED:db.at_.xs=(fh (cv c)).2.1.at_:=congrArg RV.at_ BD;refine al rfl (aK rfl) (al rfl (aF (v:= .int .i64 ((fY (aL (eU [B0.ab,B1.ab]))).1)) rfl rfl) (al rfl (aF (v:= .agg (dQ db)) rfl rfl) (al rfl (aF (v:= .int .i64 ((fY (aL (eU [B0.ab,B1.ab]))).2.2)) rfl rfl) (qq (m:=lA Tryz.prog 314) rfl rfl lB (Cert.none rfl) fun b5=>?_))));change Ln _ _ _ _ _ _ _ _ (bZ _ _ (.pointer (some ⟨b5,0,none⟩))) (an b5 (dQ kC) 314::_) _;refine al rfl (c0 rfl) (cO rfl (mQ rfl rfl ⟨fun _ hw=>ag.mem hw,?_⟩));refine al rfl (c0 rfl) (aq ?_);refine Gb (fun h2=>?_) fun h2=>?_
 ·
  rw[I0]at h2;have hE:bL (cv c)=(l5,(fh (cv c)).2.2):=by rw[bL,if_neg (by rw[h0];simp),if_neg pq,if_pos h2]
  have cc:=h2;refine Gc ?_;refine ae (cG (v:= .agg (bX kD)) rfl (fun w=>by kernel_rfl)) (aq ?_);refine Gr fun w1 hw=>?_;exact⟨kD,by rw[hE,I0],⟨by rw[hE];rfl,fun h=>absurd (by rw[hE]at h;exact h) cc⟩,Mem.cz bt 1 (ag.mem hw:Mem w [] _)⟩
 rw[I0]at h2;refine aq ?_;refine ae (kl rfl rfl oM oM) (ar ?_);refine eS oK oK (ak ?_);refine bn (wm rfl rfl oM oM) (ak ?_);refine bn (aV rfl rfl (((fY (aL (eU [B0.ab,B1.ab]))).1/c.ab).toNat) (by rw[fJ];omega) (by rw[fJ];omega)) (bn (aH rfl rfl) (bn (bJ (j:=1) rfl (((fY (aL (eU [B0.ab,B1.ab]))).1/c.ab).toNat) (mL (xs:=c.blocks.xs) (i:=((fY (aL (eU [B0.ab,B1.ab]))).1/c.ab).toNat) (d:=oD) (by rw[fJ];omega)) rfl (by decide)) (ar ?_)));refine dm rfl rfl rfl (fun hg=>(Ry.yl (dw rfl))) (ar ?_);refine dm rfl rfl rfl (fun hg=>bF (cF (aw hg rfl) (cF (aw hg rfl) eX)) ⟨hk,fun x hx=>bu x (by rw[ED]at hx;exact hx)⟩) (dm rfl rfl rfl (fun hg=>(Ry.yl (gS (aw hg rfl)))) (ar ?_));refine Gb (fun h3=>?_) fun h3=>?_
 ·
  have uT:tt (cv c)=false:=by
   rw[ED]at h3
   cases lL:tt (cv c)with
   |false=>rfl
   |true=>
    simp only[tt,anc,decide_eq_true_eq]at lL;rw[lL.2]at h3;simp only[aoQ,or_false]at h3;have:=lL.1;rw[fJ,IU]at h3;exact absurd this (by simp only[cv]at*;omega)
  have hE:bL (cv c)=(l5,2):=by rw[bL,if_neg (by rw[h0];simp),if_neg pq,if_neg oM,if_pos uT]
  have cc:(2:Int)≠0:=by decide
  refine Gc ?_;refine ae (cG (v:= .agg (bX kD)) rfl (fun w=>by kernel_rfl)) (ak ?_);refine Gr fun w1 hw=>?_;exact⟨kD,by rw[hE],⟨by rw[hE];rfl,fun h=>absurd (by rw[hE]at h;exact h) cc⟩,Mem.cz bt 1 (ag.mem hw:Mem w [] _)⟩
 have uT:tt (cv c)=true:=by
  rw[ED,fJ,IU]at h3;simp only[tt,anc,decide_eq_true_eq];exact⟨by have:=h3.1;simp only[cv]at*;omega,h3.2⟩
 have hE:bL (cv c)=(⟨cv c,(fh (cv c)).2.1.at_,(fh (cv c)).2.1.gen,(fh (cv c)).1/c.ab⟩,0):=by rw[bL,if_neg (by rw[h0];simp),if_neg pq,if_neg oM,if_neg (by rw[uT];simp)];rfl
 refine cx ?_;refine ae (cG (v:= .agg (bX ⟨c,db.at_,db.gen,((fY (aL (eU [B0.ab,B1.ab]))).1/c.ab)⟩)) rfl (ZV c db.at_ db.gen ((fY (aL (eU [B0.ab,B1.ab]))).1/c.ab))) (ak ?_);refine Gr fun w1 hw=>?_;exact⟨⟨c,db.at_,db.gen,(fY (aL (eU [B0.ab,B1.ab]))).1/c.ab⟩,by rw[hE],⟨by rw[hE];simp only[vv,ED,ny,fJ],fun _=>rfl⟩,ag.mem hw⟩)⟩
instance akm{c:Cp}[hc:aS w0 L c]:bK Tryz.prog 180 w0 L [.agg (aR c)] (bV) (fun zz=> .tuple #[.agg (bX zz), .int .i64 ((bL (cv c)).2)]) (fun zz=>fz zz.aj::own bt 1 zz.at_.sv zz.at_.xs::L) (fun zz=>vv zz=(if(bL (cv c)).2=0 then(bL (cv c)).1 else l5)) (True):=⟨fun az w hw=>Gk (fun zz:bV=>[fz zz.aj,own bt 1 zz.at_.sv zz.at_.xs]) hw (by
 have hc:=hc.h w hw;have jP:cl w c:=⟨hc⟩;refine cd Tryz.func180 rfl Tryz.ntmps180 rfl ?_;refine Gc ?_;refine bx rfl fun b1=>ba fun b2=>ak ?_;refine bf rfl trivial fun x8 pS=>?_;obtain⟨Qc,Qd⟩:=pS;have ZY:=NP (cv c);have ZZ:x8.at_.xs=(bL (cv c)).1.at_:=congrArg VV.at_ Qc;rw[←ZZ]at ZY;refine Gs ?_;refine ae (aF (v:= .agg (bX x8)) rfl rfl) (ae (aF (v:= .int .i64 ((bL (cv c)).2)) rfl rfl) (ba fun b4=>aX ?_));refine Gb (fun h0=>?_) fun h0=>?_
 ·
  refine Gc ?_;refine ae (cG (v:= .agg (bX kD)) rfl (fun w=>by kernel_rfl)) (aq ?_);refine Gr fun w1 hw=>?_;exact⟨kD,rfl,by rw[if_neg h0];rfl,WJ (Mem.cz bt 1 (ag.mem hw:Mem w [] _))⟩
 have xC:(bL (cv c)).2=0:=h0;have ec:NQ x8.aj c:=⟨Qd xC⟩;have k6:fX x8.aj:=by rw[Qd xC];exact rK (tn.1 (HP xC)).1
 refine jC ?_;refine rk [Deep.bU x8.at_,an b4 (bX x8) 63,an b2 (bX kD) 63,an b1 (aR c) 59] (fun w hw=>ag.mem (Mem.My (ag.mem hw:Mem _ [own bt 1 x8.at_.sv x8.at_.xs,an b4 (bX x8) 63,an b2 (bX kD) 63,an b1 (aR c) 59] _))) (Gi ?_);refine Gs ?_;refine bf rfl ⟨by assumption,by omega⟩ fun ay jQ=>ak ?_;refine Gr fun w1 hw=>?_;exact⟨(⟨ay.1,⟨ay.2,x8.at_.xs⟩,x8.gen,x8.last⟩:bV),by rw[xC],by
  rw[if_pos xC,←Qc];simp only[vv,jQ],ag.mem hw⟩)⟩
instance akn{v:bV}[hv:aS w0 L v]:bW Tryz.prog 173 w0 L [.agg (bX v)] (.bool (pM (vv v))) (True):=⟨fun az w hw=>by
 have hv:=hv.h w hw;have By:cl w v:=⟨hv⟩;refine cd Tryz.func173 rfl Tryz.ntmps173 rfl ?_;refine Gc ?_;refine bx rfl fun b1=>ak ?_;refine ae (fa rfl) (ba fun b3=>ak ?_);refine dN (cs':=aR (⟨v.aj.ab,v.aj.size,v.aj.blocks,v.aj.ops,false,v.aj.bc⟩:Cp)) rfl rfl (by show 4<6;decide) (by first|rfl|exact Sv.one _) rfl (ar ?_);refine bf rfl trivial fun dk xB=>?_;obtain⟨I1,ako⟩:=xB;have hvg:dk.gen.toNat=(bL {(vv v).aj with off:=false}).1.gen:=congrArg VV.gen I1
 have EE:dk.last=(bL {(vv v).aj with off:=false}).1.last:=congrArg VV.last I1
 have hva:dk.at_.xs=(bL {(vv v).aj with off:=false}).1.at_:=congrArg VV.at_ I1
 refine Gs ?_;refine ae (aF (v:= .agg (bX dk)) rfl rfl) (ae (aF (v:= .int .i64 ((bL (cv (⟨v.aj.ab,v.aj.size,v.aj.blocks,v.aj.ops,false,v.aj.bc⟩:Cp))).2)) rfl rfl) (ba fun b4=>UH ?_));refine fv rfl rfl rfl (fun hg=>bF (cF (aw hg rfl) (cF (aw hg rfl) eX)) trivial) (ak ?_);refine Gr fun w1 hw=>?_;exact⟨congrArg (fun b=>Ending.returned (Value.bool b)) ((by rw[show decide (((dk.gen.toNat:Nat):Int)=((v.gen.toNat:Nat):Int))=decide (dk.gen.toNat=v.gen.toNat)from decide_eq_decide.2 oM,pM,←hvg,←EE,←hva];rfl)),ag.mem hw⟩⟩
instance Qe{v:bV}{id:Int}[hv:aS w0 L v]:bK Tryz.prog 347 w0 L [.agg (bX v), .int .i64 id] (Sv) (fun zz=>zz.val) (fun zz=>own aP 1 zz (kT (cv v.aj) (v.at_.xs.getD id.toNat 0))::L) (fun zz=>True) (bl (cv v.aj)=true/\ ∃y,v.at_.xs[id.toNat]? =Option.some y/\0<=id/\1<=y/\y<=1000000/\2<=(y -1)/(cv v.aj).ab/\(y -1)/(cv v.aj).ab<((cv v.aj).blocks.length:Int)):=⟨fun az w hw=>Gk (fun zz=>[own aP 1 zz (kT (cv v.aj) (v.at_.xs.getD id.toNat 0))]) hw (by
 have hv:=hv.h w hw;have By:cl w v:=⟨hv⟩;obtain⟨hk,y,hy,hid,ID,BE,g1,g2⟩:=az;have nz:v.at_.xs.getD id.toNat 0=y:=tr hy;have dP:=(ad2.1 hy).1;have eH:=fW v.aj.blocks.xs;have hH:=kz.1 (eP.1 hk).1;simp only[cv,eH]at hH;have BB:0<=((y -1)/v.aj.ab):=apR oM oM;have sf:0<=((y -1)%v.aj.ab):=Int.emod_nonneg _ oM;have vz:((y -1)%v.aj.ab)<v.aj.ab:=apT _ oM;have sg:=w3 (c:=v.aj) (b:=((y -1)/v.aj.ab));change 2<=((y -1)/v.aj.ab)at g1;change((y -1)/v.aj.ab)<((ia v.aj.blocks.xs).length:Int)at g2;rw[eH]at g2;obtain⟨B,hB⟩:=get_some (xs:=v.aj.blocks.xs) (i:=((y -1)/v.aj.ab).toNat) oM;have qL:Mb B v.aj.blocks:=⟨List.mem_of_getElem? hB⟩;have dZ:bv B=aA (cv v.aj) ((y -1)/v.aj.ab):=by rw[←sg];simp[List.getD,hB]
 have fA:=gy.1 ((eP.1 hk).2.2.2.2 (bv B) (alM (lD hB)));have gC:=mW B.ab.xs;have PZ:(B.ab.xs.length:Int)=v.aj.ab:=by have:=fA.1;simp only[bv,cv,gC]at this;exact this
 obtain⟨z,hz⟩:=get_some (xs:=B.ab.xs) (i:=((y -1)%v.aj.ab).toNat) oM;have vG:Mb z B.ab:=⟨List.mem_of_getElem? hz⟩;have qD:yX (cv v.aj) (y -1)=z.xs:=by
  show(aA (cv v.aj) ((y -1)/v.aj.ab)).ab.getD ((y -1)%v.aj.ab).toNat []=z.xs;rw[←dZ];simp[bv,List.getD,oE hz]
 refine cq Tryz.func347 rfl Tryz.ntmps347 rfl ?_;refine Gc ?_;refine bx rfl fun b2=>aM ?_;refine ae (aV rfl rfl id.toNat oM oM) (ae (bJ (j:=0) rfl id.toNat hy rfl (by decide)) (ak ?_));refine rB [18,22,23,2022,4018] [[],[],[],[],[],[],[],[],[],[],[],[],[],[],[],[],[],[],[],[18],[18],[18],[],[18,22],[18,22,23]] [0,1,2,3,4,5,6,7,8,9,10,11,12,13,14,15,16,17,18,19,20,21,22,23,24] [an b2 (bX v) 63] [(22,lA Tryz.prog 324)] oK (fun _ hw=>ag.mem hw) oK oK (al rfl (aH (o':=0) rfl rfl) (al rfl (aH (o':=2) rfl rfl) (al rfl (bC rfl) (al rfl (aK rfl) (al rfl (aH (o':=0) rfl rfl) (al rfl (aH (o':=0) rfl rfl) (al rfl (bC rfl) (al rfl (kl rfl rfl oM oM) (al rfl (aV rfl rfl (((y -1)/v.aj.ab).toNat) oM oM) (al rfl (aH rfl rfl) (al rfl (bJ (j:=0) rfl (((y -1)/v.aj.ab).toNat) hB rfl (by decide)) (al rfl (aK rfl) ?_))))))))))));refine al rfl (aH (o':=0) rfl rfl) (al rfl (aH (o':=0) rfl rfl) (al rfl (bC rfl) (al rfl (wm rfl rfl oM oM) (al rfl (aV rfl rfl (((y -1)%v.aj.ab).toNat) oM oM) (al rfl (bJ (j:=0) rfl (((y -1)%v.aj.ab).toNat) hz rfl (by decide)) ?_)))));refine wP rfl rfl trivial (fun e x w hw=>ag.mem hw) (Cert.one (i:=22) rfl rfl rfl lB (Cert.none rfl)) fun gM tV=>⟨fun _ hw=>ag.mem hw,?_⟩;have e1:gM.body.xs=(di z.xs).1.body:=congrArg PV.body tV;refine al rfl (aK rfl) (al rfl (aF (v:= .agg (cD gM)) rfl rfl) (al rfl (aF (v:= .int .i64 ((di z.xs).2)) rfl rfl) (qq (m:=lA Tryz.prog 324) rfl rfl lB (Cert.none rfl) fun b6=>?_)));change Ln _ _ _ _ _ _ _ _ (bZ _ _ (.pointer (some ⟨b6,0,none⟩))) (an b6 (cD nh) 324::_) _;refine cO rfl (mQ rfl rfl ⟨fun _ hw=>ag.mem hw,?_⟩);refine al rfl (c0 rfl) (aq ?_);refine Gb (fun h0=>?_) fun h0=>?_
 ·
  have hE:(kT (cv v.aj) (v.at_.xs.getD id.toNat 0))=[]:=by rw[nz,kT,qD,if_neg h0]
  refine ak ?_;refine Gr fun w1 hw=>?_;exact⟨Sv.none,rfl,trivial,by rw[hE];exact Mem.cz aP 1 (ag.mem hw:Mem w [] _)⟩
 have xC:(di z.xs).2=0:=h0;have hE:(kT (cv v.aj) (v.at_.xs.getD id.toNat 0))=gM.body.xs:=by rw[nz,kT,qD,if_pos xC,e1]
 refine aM ?_;refine Gr fun w1 hw=>?_;exact⟨gM.body.sv,rfl,trivial,by rw[hE];exact ag.mem hw⟩)⟩
instance akp{x:eA}{n:Int}[hx:aS w0 L x]:bK Tryz.prog 255 w0 L [.agg (cD x), .int .i64 n] (Sv) (fun zz=> .tuple #[zz.val, .int .i64 ((eQ (cr x) n).2)]) (fun zz=>own aP 1 zz (eQ (cr x) n).1::L) (fun zz=>True) (True):=⟨fun az w hw=>Gk (fun zz=>[own aP 1 zz (eQ (cr x) n).1]) hw (by
 have hx:=hx.h w hw;have zw:cl w x:=⟨hx⟩;refine cq Tryz.func255 rfl Tryz.ntmps255 rfl ?_;refine Gc ?_;refine bx rfl fun b2=>eO ?_;refine Gb (fun h0=>?_) fun h0=>?_
 ·
  have hE:eQ (cr x) n=([],1):=by rw[eQ,if_neg (by rw[h0];simp)]
  refine aq ?_;refine Gr fun w1 hw=>?_;exact⟨Sv.none,by rw[hE];rfl,trivial,by rw[hE];exact Mem.cz aP 1 (ag.mem hw:Mem w [] _)⟩
 have hE:eQ (cr x) n=((ni (cr x) n.toNat)++be (pF (ni (cr x) n.toNat)) 4,0):=by rw[eQ,if_pos h0]
 obtain⟨m1,m2,m3,m4,m5,m6⟩:=Nx.1 h0;have Zy:=A7.1 m1;have BA:fy n=n -16:=by rw[fy,if_pos m1]
 simp only[cr]at m2 m3 m4 m5 m6;have Mw:(List.replicate (n.toNat -4) (0:UInt8)).length=n.toNat -4:=anZ;have eH:x.body.xs.length+16<=n.toNat:=by omega
 have hg6:=lq x.gen.toNat 6;have se:=lq x.body.xs.length 2;have ov:=Mt (ni (cr x) n.toNat);have gP:(ni (cr x) n.toNat).length=n.toNat -4:=Wu (by simp only[cr];omega);refine ak ?_;refine ri (enc:=aP) (n:=(n.toNat -4)) (cap:=(n.toNat -4)) 0 rfl rfl rfl oM oM oM oM oM fun je=>Gs ?_;refine jC ?_;have BF:=DU (b:=je) (n:=(n.toNat -4)) oM;refine gx [9,11] [[],[],[],[],[],[],[],[],[],[],[9],[9]] [0,1,2,3,4,5,6,7,8,9,10,11] [an b2 (cD x) 324] (fun _ hw=>ag.mem hw) oK oK (al rfl (aK rfl) (al rfl (aK rfl) (al rfl (aH (o':=0) rfl rfl) (al rfl (bC rfl) (al rfl (sK rfl (yR _)) (al rfl (aH (o':=1) rfl rfl) (al rfl (bC rfl) (al rfl (sK rfl (yR _)) (al rfl (kP (s:=⟨false,je,0,(n.toNat -4),(n.toNat -4),none⟩) (i:=0) rfl rfl rfl BF (by simp only;omega)) (cO rfl (rz (s:=⟨false,je,0,(n.toNat -4),(n.toNat -4),none⟩) (n:=1) (k:=0) (j:=0) (a:=0) (a':=dx x.kind) (xs:=(List.replicate (n.toNat -4) (0:UInt8))) (enc:=aP) (c:=1) (v:= .int .u8 (dx x.kind).toNat) oK rfl rfl rfl (by rw[apq,if_pos oM]) (by simp[Value.cells,Value.oneCell']) rfl oM (by rfl) ⟨fun _ hw=>ag.mem hw,?_⟩)))))))))));refine al rfl (kP (s:=⟨false,je,0,(n.toNat -4),(n.toNat -4),none⟩) (i:=1) rfl rfl rfl BF (by simp only;omega)) (cO rfl (rz (s:=⟨false,je,0,(n.toNat -4),(n.toNat -4),none⟩) (n:=1) (k:=1) (j:=0) (a:=0) (a':=dx x.id) (xs:=((List.replicate (n.toNat -4) (0:UInt8)).set 0 (dx x.kind))) (enc:=aP) (c:=1) (v:= .int .u8 (dx x.id).toNat) oK rfl rfl rfl (by rw[aox (by decide),apq,if_pos oM]) (by simp[Value.cells,Value.oneCell']) rfl oM (by rfl) ⟨fun _ hw=>ag.mem hw,?_⟩));refine jC ?_;refine rk [own aP 1 ⟨false,je,0,(n.toNat -4),(n.toNat -4),none⟩ ([dx x.kind,dx x.id]++List.replicate ((n.toNat -4) -2) (0:UInt8)),an b2 (cD x) 324] (fun w hw=>by
  rw[Wt oM]at hw;exact ag.mem hw) ?_
 refine gx [4,5] [[],[],[],[],[],[4]] [0,1,2,3,4,5] [an b2 (cD x) 324] (fun _ hw=>ag.mem hw) oK oK (al rfl (aK rfl) ?_);have aaa:Rg 2 8 (List.replicate (n.toNat -4) (0:UInt8)).length:=⟨by omega⟩;refine al rfl (CI (s:=⟨false,je,0,(n.toNat -4),(n.toNat -4),none⟩) (l:=2) (h:=8) rfl rfl rfl rfl rfl BF oM (by simp only;omega)) (al rfl (aH (o':=2) rfl rfl) (al rfl (bC rfl) (cO rfl (lX (vs:=[_, .int .i64 ((6:Nat):Int)]) rfl ⟨by omega,by omega,by omega⟩ fun db mw=>⟨fun _ hw=>ag.mem hw,?_⟩))));refine cO rfl (Hz (D:=Sv.sub ⟨false,je,0,(n.toNat -4),(n.toNat -4),none⟩ 1 2 8) (S:=db) (rm:=⟨false,je,0,(n.toNat -4),(n.toNat -4),none⟩) (k:=2) (xs:=([dx x.kind,dx x.id]++List.replicate ((n.toNat -4) -2) (0:UInt8))) (ys:=(be x.gen.toNat 6)) rfl rfl rfl rfl (by simp only[Sv.sub];rw[if_neg oM]) rfl (by decide) rfl (by simp only[Sv.sub,lq];omega) (by simp only[af0,lq,anZ,ang,anh];omega) ⟨fun _ hw=>ag.mem hw,?_⟩);refine jC ?_;refine rk [own aP 1 ⟨false,je,0,(n.toNat -4),(n.toNat -4),none⟩ ([dx x.kind,dx x.id]++(be x.gen.toNat 6)++List.replicate ((n.toNat -4) -2 -(be x.gen.toNat 6).length) (0:UInt8)),an b2 (cD x) 324] (fun w hw=>by
  rw[HI (A:=[dx x.kind,dx x.id]) (k:=2) rfl]at hw;exact ag.mem hw) ?_
 refine gx [6,7] [[],[],[],[],[],[],[],[6]] [0,1,2,3,4,5,6,7] [an b2 (cD x) 324] (fun _ hw=>ag.mem hw) oK oK (al rfl (aK rfl) ?_);have akq:Rg 8 10 (List.replicate (n.toNat -4) (0:UInt8)).length:=⟨by omega⟩;refine al rfl (CI (s:=⟨false,je,0,(n.toNat -4),(n.toNat -4),none⟩) (l:=8) (h:=10) rfl rfl rfl rfl rfl BF oM (by simp only;omega)) (al rfl (aH (o':=3) rfl rfl) (al rfl (bC rfl) (al rfl (oy rfl) (al rfl (lR rfl (by simp only[nb];omega)) (cO rfl (lX (vs:=[_, .int .i64 ((2:Nat):Int)]) rfl ⟨by omega,by omega,by omega⟩ fun I2 aab=>⟨fun _ hw=>ag.mem hw,?_⟩))))));refine cO rfl (Hz (D:=Sv.sub ⟨false,je,0,(n.toNat -4),(n.toNat -4),none⟩ 1 8 10) (S:=I2) (rm:=⟨false,je,0,(n.toNat -4),(n.toNat -4),none⟩) (k:=8) (xs:=([dx x.kind,dx x.id]++(be x.gen.toNat 6)++List.replicate ((n.toNat -4) -2 -(be x.gen.toNat 6).length) (0:UInt8))) (ys:=(be x.body.xs.length 2)) rfl rfl rfl rfl (by simp only[Sv.sub];rw[if_neg oM]) rfl (by decide) rfl (by simp only[Sv.sub,lq];omega) (by simp only[af0,lq,anZ,ang,anh];omega) ⟨fun _ hw=>ag.mem hw,?_⟩);refine jC ?_;refine rk [own aP 1 ⟨false,je,0,(n.toNat -4),(n.toNat -4),none⟩ ([dx x.kind,dx x.id]++(be x.gen.toNat 6)++(be x.body.xs.length 2)++List.replicate ((n.toNat -4) -2 -(be x.gen.toNat 6).length -(be x.body.xs.length 2).length) (0:UInt8)),an b2 (cD x) 324] (fun w hw=>by
  rw[HI (A:=[dx x.kind,dx x.id]++(be x.gen.toNat 6)) (k:=8) (by simp[lq])]at hw;exact ag.mem hw) ?_
 refine gx [4] [[],[],[],[],[]] [0,1,2,3,4] [an b2 (cD x) 324] (fun _ hw=>ag.mem hw) oK oK (al rfl (aK rfl) ?_);have akr:Rg 10 ((List.replicate (n.toNat -4) (0:UInt8)).length) (List.replicate (n.toNat -4) (0:UInt8)).length:=⟨by omega⟩;refine al rfl (rf (s:=⟨false,je,0,(n.toNat -4),(n.toNat -4),none⟩) (l:=10) (n:=(n.toNat -4)) rfl rfl rfl BF rfl oM) (al rfl (aH (o':=3) rfl rfl) (al rfl (bC rfl) ?_));refine cO rfl (Hz (D:=Sv.sub ⟨false,je,0,(n.toNat -4),(n.toNat -4),none⟩ 1 10 (n.toNat -4)) (S:=x.body.sv) (rm:=⟨false,je,0,(n.toNat -4),(n.toNat -4),none⟩) (k:=10) (xs:=([dx x.kind,dx x.id]++(be x.gen.toNat 6)++(be x.body.xs.length 2)++List.replicate ((n.toNat -4) -2 -(be x.gen.toNat 6).length -(be x.body.xs.length 2).length) (0:UInt8))) (ys:=x.body.xs) rfl rfl rfl rfl (by simp only[Sv.sub];rw[if_neg oM]) rfl (by decide) rfl (by simp only[Sv.sub,lq];omega) (by simp only[af0,lq,anZ,ang,anh];omega) ⟨fun _ hw=>ag.mem hw,?_⟩);refine jC ?_;refine rk [own aP 1 ⟨false,je,0,(n.toNat -4),(n.toNat -4),none⟩ (ni (cr x) n.toNat),an b2 (cD x) 324] (fun w hw=>by
  rw[HI (A:=[dx x.kind,dx x.id]++(be x.gen.toNat 6)++(be x.body.xs.length 2)) (k:=10) (by simp[lq]),show([dx x.kind,dx x.id]++(be x.gen.toNat 6)++(be x.body.xs.length 2)++x.body.xs++List.replicate ((n.toNat -4) -2 -(be x.gen.toNat 6).length -(be x.body.xs.length 2).length -x.body.xs.length) (0:UInt8))=(ni (cr x) n.toNat)from by
   simp only[ni,cr,lq];congr 2<;>omega]at hw
  exact ag.mem hw) ?_
 refine Gi ?_;refine ak ?_;refine ae (lR rfl (by simp only[nb];omega)) (bf (vs:=[_, .int .i64 ((4:Nat):Int)]) rfl ⟨by omega,by omega,by omega⟩ fun ke vO=>?_);refine iH (enc:=(bQ (τ:=UInt8))) [(⟨⟨false,je,0,(n.toNat -4),(n.toNat -4),none⟩,(ni (cr x) n.toNat)⟩:Sl UInt8),⟨ke,be (pF (ni (cr x) n.toNat)) 4⟩] (vals:=[(⟨false,je,0,(n.toNat -4),(n.toNat -4),none⟩:Sv).val,ke.val]) rfl (by simp only[anX,aou,Sv.iz];rfl) rfl (by decide) (by decide) fun b48=>?_;refine U9 (τ:=Sl UInt8) (xs:=[(⟨⟨false,je,0,(n.toNat -4),(n.toNat -4),none⟩,(ni (cr x) n.toNat)⟩:Sl UInt8),⟨ke,be (pF (ni (cr x) n.toNat)) 4⟩]) fun a48 Hg g48=>?_;have Qf:jE a48.xs=(eQ (cr x) n).1:=by rw[Hg,hE];simp[jE]
 have hf9:(eQ (cr x) n).1.length<=1000:=by rw[hE,af0,lq];omega
 refine bf rfl (by rw[Qf];omega) fun x49 aks=>ak ?_;refine Gr fun w1 hw=>?_;exact⟨x49,by rw[hE],trivial,by rw[←Qf];exact ag.mem hw⟩)⟩
theorem aac(i:Int)(g:UInt64)(w:World):(Instr.build 324 #[(0, .int .i64 2),(1, .int .i64 i),(2, .int .u64 (g.toNat:Int))]).run Tryz.prog w= .ok (.agg (cD ⟨2,i,g,⟨Sv.none,[]⟩⟩)) w:=by
 unfold cD;kernel_rfl
instance akt{r:cW}{n:Int}[hr:aS w0 L r]:bK Tryz.prog 218 w0 L [.agg (dQ r), .int .i64 n] (Sv) (fun zz=> .tuple #[zz.val, .int .i64 ((dy (da r) n).2)]) (fun zz=>own aP 1 zz (dy (da r) n).1::L) (fun zz=>True) (True):=⟨fun az w hw=>Gk (fun zz=>[own aP 1 zz (dy (da r) n).1]) hw (by
 have hr:=hr.h w hw;have Zw:cl w r:=⟨hr⟩;have hU:=hr.1.bd;refine cq Tryz.func218 rfl Tryz.ntmps218 rfl ?_;refine Gc ?_;refine bx rfl fun b2=>eO ?_;refine Gb (fun h0=>?_) fun h0=>?_
 ·
  have hE:dy (da r) n=([],1):=by rw[dy,if_neg (by rw[h0];simp)]
  refine aq ?_;refine Gr fun w1 hw=>?_;exact⟨Sv.none,by rw[hE];rfl,trivial,by rw[hE];exact Mem.cz aP 1 (ag.mem hw:Mem w [] _)⟩
 have hE:dy (da r) n=eQ (⟨2,(max 0 (r.at_.xs.length -1:Int)),r.gen.toNat,jm r.at_.xs⟩:PV) n:=by rw[dy,if_pos h0];rfl
 obtain⟨m1,m2,m3,m4⟩:=A8.1 h0;have hmf:lE n<=64:=by rw[lE];omega
 simp only[da]at m2 m3 m4;refine aM ?_;refine ae (uC rfl rfl) (ar ?_);refine ae (cG (v:= .agg (cD (⟨2,(max 0 (r.at_.xs.length -1:Int)),r.gen,⟨Sv.none,[]⟩⟩:eA))) rfl (aac _ r.gen)) (ba fun b6=>cx ?_);refine bI (X:=Nat×Sv) (fun zz=>[(24, .int .i64 (zz.1:Nat)),(6, .pointer (some ⟨b6,0,none⟩)),(1, .int .i64 n),(22,r.at_.sv.val),(23, .int .i64 (r.at_.xs.length:Nat))]) (fun zz=>[an b6 (cD (⟨2,(max 0 (r.at_.xs.length -1:Int)),r.gen,⟨zz.2,jm (r.at_.xs.take zz.1)⟩⟩:eA)) 324,own aP 1 zz.2 (jm (r.at_.xs.take zz.1)),an b2 (dQ r) 314]) (fun zz=>zz.1<=r.at_.xs.length) (fun zz=>r.at_.xs.length -zz.1) (0,Sv.none) (anH _) sb (fun w hw=>by
  simp only[anP,jm,aou,ap5];exact ag.mem (Mem.cz aP 1 hw)) ?_
 rintro⟨i,s1⟩ aW;dsimp only;simp only at aW;refine ak ?_;refine Gb (fun h1=>?_) fun h1=>?_
 ·
  obtain⟨y,hy⟩:=get_some (xs:=r.at_.xs) (i:=i) oM;have IQ:=HK.1 (m4 y (alM hy));have eD:jm (r.at_.xs.take (i+1))=jm (r.at_.xs.take i)++[dx (y/256),dx y]:=Ww hy;have BC:=Wx (r.at_.xs.take i);have hnt:(r.at_.xs.take i).length<=64:=by rw[anj];omega
  refine Gc ?_;refine ae (aV rfl rfl i rfl oM) (ae (bJ (j:=0) rfl i hy rfl (by decide)) (aM ?_));refine ae (Ry.to (v':= .int .i64 (y/256)) (sL (p:=y.toNat) (Eq.trans (b:=some (Value.int .i64 y)) rfl (by rw[Int.toNat_of_nonneg IQ.1])) rfl (by simp only[nb];omega) oM) (by rw[show(8:Int).toNat=8 from rfl];congr 1;omega)) (ae (sK rfl (yR _)) (Gs ?_));refine ae (sK rfl (yR _)) ?_;refine iH (enc:=aP) (vals:=[_,_]) [(dx (y/256)),(dx y)] rfl rfl rfl (by decide) (by decide) fun Qg=>?_;refine iv (s:=s1) (ys:=[(dx (y/256)),(dx y)]) rfl rfl (by decide) (fun w hw=>gF (s:=⟨false,Qg,0,2,2,none⟩) Tryz.underlying53 (by decide) ((inferInstance:Hd _ _ ⟨false,Qg,0,2,2,none⟩ aP 1 [(dx (y/256)),(dx y)]).h w hw)) (by simp only[ang,anh];omega) (by simp only[ang,anh];omega) fun Qh aku akv=>?_;refine Gs ?_;refine dN (cs':=cD (⟨2,(max 0 (r.at_.xs.length -1:Int)),r.gen,⟨Qh,((jm (r.at_.xs.take i))++[(dx (y/256)),(dx y)])⟩⟩:eA)) rfl rfl (by show 3<4;decide) (by first|rfl|exact Sv.one _) rfl (ak ?_);refine Gi ?_;exact bb (x:=(i,s1)) (i+1,Qh) (by simp only;omega) (by simp only;omega) sb (fun w hw=>by
   simp only[eD];exact ag.mem hw)
 obtain rfl:i=r.at_.xs.length:=by omega
 rw[anD];refine lZ ?_;refine rk [Deep.bU (⟨s1,jm r.at_.xs⟩:Sl UInt8),an b6 (cD (⟨2,(max 0 (r.at_.xs.length -1:Int)),r.gen,⟨s1,jm r.at_.xs⟩⟩:eA)) 324] (fun w hw=>ag.mem (Mem.My (ag.mem hw:Mem _ [own aP 1 s1 (jm r.at_.xs),an b6 (cD (⟨2,(max 0 (r.at_.xs.length -1:Int)),r.gen,⟨s1,jm r.at_.xs⟩⟩:eA)) 324] _))) (Gi ?_);refine ar ?_;refine bf rfl trivial fun ij I3=>ae (aF (v:=ij.val) rfl rfl) (ae (aF (v:= .int .i64 ((eQ (cr (⟨2,(max 0 (r.at_.xs.length -1:Int)),r.gen,⟨s1,jm r.at_.xs⟩⟩:eA)) n).2)) rfl rfl) (ak ?_));refine Gr fun w1 hw=>?_;exact⟨ij,by rw[hE];rfl,trivial,by
  have h1:Mem w [own aP 1 ij (eQ (cr (⟨2,(max 0 (r.at_.xs.length -1:Int)),r.gen,⟨s1,jm r.at_.xs⟩⟩:eA)) n).1] _:=ag.mem hw;rw[hE];exact h1⟩)⟩
instance akw{xb:Nat}{xc:Cp}{xa:Sl Int}{xg:UInt64}{xl:Int}{xy:Bool}[eE:k7 w0 L xb (aN (⟨⟨xc,xa,xg,xl⟩,xy⟩:aO)) 261][dE:aS w0 L xc]:bW Tryz.prog 176 w0 L [.pointer (some ⟨xb,0,none⟩)] (.int .i64 (mf (cv xc):Nat)) (True):=⟨fun az w hw=>by
 have eE:=eE.h w hw;have dE:=dE.h w hw;have tW:pV w xb (aN (⟨⟨xc,xa,xg,xl⟩,xy⟩:aO)) 261:=⟨eE⟩;have tX:cl w xc:=⟨dE⟩;have hU:=dE.1.1.bd;have eH:(cv xc).blocks.length=xc.blocks.xs.length:=fW _;refine cd Tryz.func176 rfl Tryz.ntmps176 rfl ?_;refine pD ?_;refine ae (Ry.to (v':=xc.blocks.sv.val) (mv rfl) rfl) (ak ?_);refine bI (X:=Nat) (fun zz=>[(13, .int .i64 (zz:Nat)),(3, .int .i64 ((((ia xc.blocks.xs).take zz).filter fun b=>b.bad).length:Nat)),(11,xc.blocks.sv.val),(12, .int .i64 (xc.blocks.xs.length:Nat))]) (fun zz=>[]) (fun zz=>zz<=xc.blocks.xs.length) (fun zz=>xc.blocks.xs.length -zz) 0 (anH _) sb (fun w hw=>ag.mem hw) ?_;rintro i aW;refine ak ?_;refine Gb (fun h0=>?_) fun h0=>?_
 ·
  obtain⟨B,hB⟩:=get_some (xs:=xc.blocks.xs) (i:=i) oM;have qL:Mb B xc.blocks:=⟨List.mem_of_getElem? hB⟩;have eD:=W8 (lD hB);have hle:(((ia xc.blocks.xs).take i).filter fun b=>b.bad).length<=i:=Nat.le_trans (apE _ _) (by rw[anj];omega);refine Gc ?_;refine ae (aV rfl rfl i rfl oM) (ae (fo rfl i hB rfl) ?_);have aad:Mb B xc.blocks:=⟨List.mem_of_getElem? hB⟩;refine ba fun b5=>aM ?_;refine Gb (fun h1=>?_) fun h1=>?_
  ·
   rw[if_pos (show(bv B).bad=true from h1)]at eD;refine Gi ?_;refine aX ?_;refine Gi ?_;exact bb (x:=(i)) (i+1) oF oF (Sub.cons rfl (Sub.cons (look_eq rfl (by rw[eD];rfl)) sb)) (fun w hw=>ag.mem hw)
  rw[if_neg (show ¬(bv B).bad=true by rw[show(bv B).bad=B.bad from rfl,h1];simp)]at eD;refine ak ?_;refine Gi ?_;exact bb (x:=(i)) (i+1) oF oF (Sub.cons rfl (Sub.cons (look_eq rfl (by rw[eD,an3])) sb)) (fun w hw=>ag.mem hw)
 obtain rfl:i=xc.blocks.xs.length:=by omega
 have hz:mf (cv xc)=(((ia xc.blocks.xs).take xc.blocks.xs.length).filter fun b=>b.bad).length:=by rw[←eH];exact congrArg (fun l:List BV=>(l.filter fun b=>b.bad).length) (anD).symm
 refine aq ?_;refine Gr fun w1 hw=>?_;exact⟨congrArg (fun b=>Ending.returned (Value.int .i64 b)) (by rw[hz]),ag.mem hw⟩⟩
instance akx{xb:Nat}{xc:Cp}{xa:Sl Int}{xg:UInt64}{xl:Int}{xy:Bool}{b:Int}[eE:k7 w0 L xb (aN (⟨⟨xc,xa,xg,xl⟩,xy⟩:aO)) 261][dE:aS w0 L xc]:bW Tryz.prog 219 w0 L [.pointer (some ⟨xb,0,none⟩), .int .i64 b] (.int .i64 (fZ (cv xc) b)) (bl (cv xc)=true/\0<=b/\b<(cv xc).blocks.length):=⟨fun az w hw=>by
 have eE:=eE.h w hw;have dE:=dE.h w hw;have tW:pV w xb (aN (⟨⟨xc,xa,xg,xl⟩,xy⟩:aO)) 261:=⟨eE⟩;have tX:cl w xc:=⟨dE⟩;obtain⟨hk,BG,xD⟩:=az;have k6:fX xc:=rK hk;have eH:(cv xc).blocks.length=xc.blocks.xs.length:=fW _;obtain⟨B,hB⟩:=get_some (xs:=xc.blocks.xs) (i:=b.toNat) oM;have qL:Mb B xc.blocks:=⟨List.mem_of_getElem? hB⟩;have dZ:=rS hB;have fA:=gy.1 ((eP.1 hk).2.2.2.2 (bv B) (alM (lD hB)));have hH:=kz.1 (eP.1 hk).1;have pb:(aA (cv xc) b).used=B.used:=by rw[dZ];rfl
 simp only[bv,cv]at fA hH;refine cq Tryz.func219 rfl Tryz.ntmps219 rfl ?_;refine eO ?_;refine ae (Ry.to (v':=xc.blocks.sv.val) (mv rfl) rfl) (Gs ?_);refine ae (aV rfl rfl b.toNat oM oM) (ae (fo rfl b.toNat hB rfl) ?_);have Ey:Mb B xc.blocks:=⟨List.mem_of_getElem? hB⟩;refine ba fun b5=>aM ?_;refine Gb (fun h0=>?_) fun h0=>?_
 ·
  refine ak ?_;refine Gr fun w1 hw=>?_;exact Gf ((by rw[fZ,dZ,if_pos (show(bv B).bad=true from h0)])) hw
 refine Gc ?_;refine eS oK oK (aM ?_);refine bn (Ry.to (v':= .int .i64 xc.ab) (mv rfl) rfl) (aM ?_);refine Gr fun w1 hw=>?_;exact⟨congrArg (fun b=>Ending.returned (Value.int .i64 b)) ((by rw[fZ,dZ,if_neg (show ¬(bv B).bad=true by rw[show(bv B).bad=B.bad from rfl,h0];simp)];rfl)),ag.mem hw⟩⟩
instance aky{er:Int}:bW Tryz.prog 311 w0 L [.int .i64 er] (.int .i64 (lH er)) (True):=⟨fun az w hw=>by
 refine cd Tryz.func311 rfl Tryz.ntmps311 rfl ?_;refine aX ?_;refine Gb (fun h0=>?_) fun h0=>?_
 ·
  refine ak ?_;refine Gr fun w1 hw=>?_;exact Gf ((by rw[lH,if_pos h0])) hw
 refine aq ?_;refine Gr fun w1 hw=>?_;exact⟨congrArg (fun b=>Ending.returned (Value.int .i64 b)) ((by rw[lH,if_neg h0])),ag.mem hw⟩⟩
instance akz{xb:Nat}{xc:Cp}{xa:Sl Int}{xg:UInt64}{xl:Int}{xy:Bool}[eE:k7 w0 L xb (aN (⟨⟨xc,xa,xg,xl⟩,xy⟩:aO)) 261][dE:aS w0 L xc]:bW Tryz.prog 306 w0 L [.pointer (some ⟨xb,0,none⟩)] (.bool (Bg xg.toNat)) (xg.toNat<281474976710656):=⟨fun az w hw=>by
 have eE:=eE.h w hw;have dE:=dE.h w hw;have tW:pV w xb (aN (⟨⟨xc,xa,xg,xl⟩,xy⟩:aO)) 261:=⟨eE⟩;have tX:cl w xc:=⟨dE⟩;refine cd Tryz.func306 rfl Tryz.ntmps306 rfl ?_;refine cx ?_;refine ae (Ry.to (v':= .int .u64 (xg.toNat:Nat)) (mv rfl) rfl) (ae (Aj (p:=xg.toNat) (q:=2) rfl rfl rfl rfl (by simp only[nb];omega)) (ak ?_));refine Gr fun w1 hw=>?_;exact⟨congrArg (fun b=>Ending.returned (Value.bool b)) (by rw[Bg];congr 1;simp only[eq_iff_iff];omega),ag.mem hw⟩⟩
instance akA{xb:Nat}{xc:Cp}{xa:Sl Int}{xg:UInt64}{xl:Int}{xy:Bool}{b:Int}[eE:k7 w0 L xb (aN (⟨⟨xc,xa,xg,xl⟩,xy⟩:aO)) 261][dE:aS w0 L xc]:bW Tryz.prog 251 w0 L [.pointer (some ⟨xb,0,none⟩), .int .i64 b] (.int .u64 ((nT (cv xc) b):Nat)) (bl (cv xc)=true/\0<=b/\b<(cv xc).blocks.length):=⟨fun az w hw=>by
 have eE:=eE.h w hw;have dE:=dE.h w hw;have tW:pV w xb (aN (⟨⟨xc,xa,xg,xl⟩,xy⟩:aO)) 261:=⟨eE⟩;have tX:cl w xc:=⟨dE⟩;obtain⟨hk,BG,xD⟩:=az;have k6:fX xc:=rK hk;have eH:(cv xc).blocks.length=xc.blocks.xs.length:=fW _;obtain⟨B,hB⟩:=get_some (xs:=xc.blocks.xs) (i:=b.toNat) oM;have qL:Mb B xc.blocks:=⟨List.mem_of_getElem? hB⟩;have dZ:=rS hB;have fA:=gy.1 ((eP.1 hk).2.2.2.2 (bv B) (alM (lD hB)));have hH:=kz.1 (eP.1 hk).1;have pb:(aA (cv xc) b).used=B.used:=by rw[dZ];rfl
 simp only[bv,cv]at fA hH;have gC:=mW B.ab.xs;have hgE:nT (cv xc) b=rT (aL B.ab.xs):=by rw[nT,dZ];rfl
 refine cq Tryz.func251 rfl Tryz.ntmps251 rfl ?_;refine pD ?_;refine ae (Ry.to (v':=xc.blocks.sv.val) (mv rfl) rfl) (Gs ?_);refine ae (aV rfl rfl b.toNat oM oM) (ae (aH rfl rfl) (ae (bJ (j:=0) rfl b.toNat hB rfl (by decide)) (ak ?_)));refine bI (X:=Nat) (fun zz=>[(21, .int .i64 (zz:Nat)),(5, .int .u64 ((rT ((aL B.ab.xs).take zz)):Nat)),(19,B.ab.sv.val),(20, .int .i64 (B.ab.xs.length:Nat))]) (fun zz=>[]) (fun zz=>zz<=B.ab.xs.length) (fun zz=>B.ab.xs.length -zz) 0 (anH _) sb (fun w hw=>ag.mem hw) ?_;rintro i aW;refine ak ?_;refine Gb (fun h0=>?_) fun h0=>?_
 ·
  obtain⟨y,hy⟩:=get_some (xs:=B.ab.xs) (i:=i) oM;have IV:Mb y B.ab:=⟨List.mem_of_getElem? hy⟩;have eD:=W7 (oE hy);have Bz:=HV ((aL B.ab.xs).take i);have vE:=N8 y.xs;refine Gc ?_;refine ae (aV rfl rfl i rfl oM) (ae (bJ (j:=0) rfl i hy rfl (by decide)) (ak ?_));refine bf rfl trivial fun pW sk=>?_;have tT:pW.gen.toNat=(fc y.xs).1.gen:=congrArg RV.gen sk;refine Gs ?_;refine ae (aF (v:= .agg (dQ pW)) rfl rfl) (ae (aF (v:= .int .i64 ((fc y.xs).2)) rfl rfl) (ba fun b8=>aX ?_));refine Gb (fun h1=>?_) fun h1=>?_
  ·
   have hr:tw y.xs=pW.gen.toNat:=by rw[tw,if_pos h1,←tT]
   refine Gi ?_;refine ak ?_;refine ae (uC rfl rfl) (aq ?_);refine Gi ?_;exact bb (x:=(i)) (i+1) oF oF (Sub.cons rfl (Sub.cons (look_eq rfl (by rw[eD,hr];congr 1;omega)) sb)) (fun w hw=>ag.mem hw)
  have hr:tw y.xs=0:=by rw[tw,if_neg h1]
  refine ak ?_;refine Gi ?_;exact bb (x:=(i)) (i+1) oF oF (Sub.cons rfl (Sub.cons (look_eq rfl (by rw[eD,hr];congr 1;omega)) sb)) (fun w hw=>ag.mem hw)
 obtain rfl:i=B.ab.xs.length:=by omega
 have hz:rT (aL B.ab.xs)=(rT ((aL B.ab.xs).take B.ab.xs.length)):=by rw[←gC,anD]
 refine aq ?_;refine Gr fun w1 hw=>?_;exact⟨by rw[hgE,hz],ag.mem hw⟩⟩
instance akB{xb:Nat}{xc:Cp}{xa:Sl Int}{xg:UInt64}{xl:Int}{xy:Bool}{b:Int}[eE:k7 w0 L xb (aN (⟨⟨xc,xa,xg,xl⟩,xy⟩:aO)) 261][dE:aS w0 L xc]:bW Tryz.prog 215 w0 L [.pointer (some ⟨xb,0,none⟩), .int .i64 b] (.bool (Bf (cv xc) b)) (bl (cv xc)=true/\0<=b/\b<(cv xc).blocks.length):=⟨fun az w hw=>by
 have eE:=eE.h w hw;have dE:=dE.h w hw;have tW:pV w xb (aN (⟨⟨xc,xa,xg,xl⟩,xy⟩:aO)) 261:=⟨eE⟩;have tX:cl w xc:=⟨dE⟩;have aae:=az;obtain⟨hk,BG,xD⟩:=az;have k6:fX xc:=rK hk;have eH:(cv xc).blocks.length=xc.blocks.xs.length:=fW _;obtain⟨B,hB⟩:=get_some (xs:=xc.blocks.xs) (i:=b.toNat) oM;have qL:Mb B xc.blocks:=⟨List.mem_of_getElem? hB⟩;have dZ:=rS hB;have fA:=gy.1 ((eP.1 hk).2.2.2.2 (bv B) (alM (lD hB)));have hH:=kz.1 (eP.1 hk).1;have pb:(aA (cv xc) b).used=B.used:=by rw[dZ];rfl
 simp only[bv,cv]at fA hH;refine cq Tryz.func215 rfl Tryz.ntmps215 rfl ?_;refine eO ?_;refine ae (Ry.to (v':=xc.blocks.sv.val) (mv rfl) rfl) (Gs ?_);refine ae (aV rfl rfl b.toNat oM oM) (ae (fo rfl b.toNat hB rfl) ?_);have Ey:Mb B xc.blocks:=⟨List.mem_of_getElem? hB⟩;refine ba fun b5=>gV ?_;refine fv rfl rfl rfl (fun hg=>(Ry.yl (aK (aw hg rfl)))) (sM rfl rfl rfl (fun hg=>(Ry.yl (aK rfl))) (sM rfl rfl rfl (fun hg=>(Ry.yl (cQ (aw hg rfl) rfl rfl))) (sM rfl rfl rfl (fun hg=>(Ry.yl (aK (aw hg rfl)))) (ko rfl rfl rfl (fun hg=>(Ry.yl (aK rfl))) (ko rfl rfl rfl (fun hg=>(Ry.yl (aK rfl))) (ko rfl rfl rfl (fun hg=>bF (cF (aw hg rfl) (cF (aw hg rfl) eX)) aae) (ko rfl rfl rfl (fun hg=>(Ry.yl (cQ (aw hg rfl) rfl rfl))) (sM rfl rfl rfl (fun hg=>(Ry.yl (sI (aw hg rfl) (uF hg rfl) rfl))) (fv rfl rfl rfl (fun hg=>(Ry.yl (wi (aw hg rfl) rfl (uF hg rfl)))) (ak ?_))))))))));refine Gr fun w1 hw=>?_;exact⟨congrArg (fun b=>Ending.returned (Value.bool b)) ((by
  have e:decide ((0:Int)<((nT (cv xc) b:Nat):Int))=decide (0<nT (cv xc) b):=decide_eq_decide.2 oM;rw[Bf,dZ,e];rfl)),ag.mem hw⟩⟩
instance akC{xb:Nat}{xc:Cp}{xa:Sl Int}{xg:UInt64}{xl:Int}{xy:Bool}{b:Int}[eE:k7 w0 L xb (aN (⟨⟨xc,xa,xg,xl⟩,xy⟩:aO)) 261][dE:aS w0 L xc]:bW Tryz.prog 217 w0 L [.pointer (some ⟨xb,0,none⟩), .int .i64 b] (.int .u64 ((fI (cv xc) b):Nat)) (bl (cv xc)=true/\2<=(cv xc).blocks.length/\(b=0\/b=1)):=⟨fun az w hw=>by
 have eE:=eE.h w hw;have dE:=dE.h w hw;have tW:pV w xb (aN (⟨⟨xc,xa,xg,xl⟩,xy⟩:aO)) 261:=⟨eE⟩;have tX:cl w xc:=⟨dE⟩;obtain⟨hk,nm,Qi⟩:=az;have Bz:=HV (aA (cv xc) (1 -b)).ab;change nT (cv xc) (1 -b)<_ at Bz;refine cq Tryz.func217 rfl Tryz.ntmps217 rfl ?_;refine gV ?_;refine c6 (bF rfl ⟨hk,by omega,by omega⟩) (Gs ?_);refine ae (Ry.to (v':= .int .u64 (((1 -b).toNat:Nat):Int)) (FM rfl oM (by simp only[nb];omega)) (by congr 1;omega)) (ae (Aj (p:=(nT (cv xc) (1 -b))) (q:=((1 -b).toNat)) rfl rfl rfl rfl (by simp only[nb];omega)) (ae (uC rfl rfl) (ar ?_)));refine Gr fun w1 hw=>?_;exact⟨by rw[fI];congr 2;omega,ag.mem hw⟩⟩
instance akD{xb:Nat}{xc:Cp}{xa:Sl Int}{xg:UInt64}{xl:Int}{xy:Bool}[eE:k7 w0 L xb (aN (⟨⟨xc,xa,xg,xl⟩,xy⟩:aO)) 261][dE:aS w0 L xc]:bW Tryz.prog 261 w0 L [.pointer (some ⟨xb,0,none⟩)] (.int .i64 (w8 (cv xc) xl)) (bl (cv xc)=true/\2<=(cv xc).blocks.length/\(xl=0\/xl=1)):=⟨fun az w hw=>by
 have eE:=eE.h w hw;have dE:=dE.h w hw;have tW:pV w xb (aN (⟨⟨xc,xa,xg,xl⟩,xy⟩:aO)) 261:=⟨eE⟩;have tX:cl w xc:=⟨dE⟩;obtain⟨hk,nm,Qi⟩:=az;have k6:fX xc:=rK hk;have eH:(cv xc).blocks.length=xc.blocks.xs.length:=fW _;obtain⟨Bo,fA⟩:=get_some (xs:=xc.blocks.xs) (i:=(1 -xl).toNat) oM;obtain⟨Bl,mr⟩:=get_some (xs:=xc.blocks.xs) (i:=xl.toNat) oM;have zB:=rS fA;have Qj:=rS mr;refine cd Tryz.func261 rfl Tryz.ntmps261 rfl ?_;refine ak ?_;refine eS oK oK (aq ?_);refine bn (Ry.to (v':= .int .i64 xl) (mv rfl) rfl) (aq ?_);refine bn (Ry.to (v':= .int .i64 xl) (mv rfl) rfl) (gV ?_);refine ae (Ry.to (v':=xc.blocks.sv.val) (mv rfl) rfl) (Gs ?_);refine ae (aV rfl rfl ((1 -xl).toNat) oM oM) (ae (aH rfl rfl) (ae (bJ (j:=3) rfl ((1 -xl).toNat) fA rfl (by decide)) (ar ?_)));refine Gb (fun h0=>?_) fun h0=>?_
 ·
  refine ak ?_;refine c6 (bF rfl ⟨hk,by omega,by omega⟩) (ar ?_);refine Gr fun w1 hw=>?_;exact Gf ((by rw[w8,zB,if_pos (show(bv Bo).bad=true from h0)])) hw
 refine aX ?_;refine ae (Ry.to (v':=xc.blocks.sv.val) (mv rfl) rfl) (Gs ?_);refine ae (aV rfl rfl xl.toNat oM oM) (ae (aH rfl rfl) (ae (bJ (j:=3) rfl xl.toNat mr rfl (by decide)) (ak ?_)));refine fv rfl rfl rfl (fun hg=>bF (cF (aw hg rfl) (cF (aw hg rfl) eX)) ⟨hk,by omega,by omega⟩) (aq ?_);refine Gb (fun h1=>?_) fun h1=>?_
 ·
  refine ak ?_;refine c6 (bF rfl ⟨hk,by omega,by omega⟩) (ar ?_);refine Gr fun w1 hw=>?_;exact Gf ((by rw[w8,zB,Qj,if_neg (show ¬(bv Bo).bad=true by rw[show(bv Bo).bad=Bo.bad from rfl,h0];simp),if_pos ⟨h1.1,h1.2⟩])) hw
 refine aX ?_;refine ae (Ry.to (v':= .int .i64 xc.ab) (mv rfl) rfl) (ar ?_);refine Gr fun w1 hw=>?_;exact⟨congrArg (fun b=>Ending.returned (Value.int .i64 b)) ((by
  rw[w8,zB,Qj,if_neg (show ¬(bv Bo).bad=true by rw[show(bv Bo).bad=Bo.bad from rfl,h0];simp),if_neg]
  ·
   rfl
  rintro⟨g1,g2⟩;rcases h1 with h|h
  ·
   exact absurd (h.symm.trans g1) (by simp)
  omega)),ag.mem hw⟩⟩
end Go.Proofs.YtkggjjnhnjjokaaGreatDoor
