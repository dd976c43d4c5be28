/- Laws and walks by which the law LabWhole is proved, each with its own conditions. -/
import Derived.Test.YtkggjjnhnjjokaaGreatDoorG1
import Derived.Lib.Join
import Derived.Test.YtkggjjnhnjjokaaGreatDoorRows
import Derived.Shelf.Strings.Builder1
import Derived.Shelf.Strings.Builder2
import Derived.Shelf.Strings.OnBuilder
import Derived.Shelf.Small.Strs
import Derived.Shelf.Strings.BuilderF
import Derived.Shelf.Strings.BuilderK
import Derived.Shelf.Utf8.RuneCount
import Derived.Shelf.Strconv.Atoi
import Derived.Shelf.Strconv.Itoa0
import Derived.Shelf.Strconv.Itoa1
import Derived.Shelf.Strconv.Itoa2
import Derived.Shelf.Strconv.Itoa3
import Derived.Shelf.Strconv.AtoiErrFast
import Derived.Shelf.Strconv.ParseIntEmpty
import Derived.Shelf.Strconv.AtoiFail
import Derived.Shelf.Strconv.Clone
import Derived.Shelf.Strconv.SyntaxError
import Derived.Shelf.LaysC
import Derived.Shelf.Strconv.ToError
import Derived.Shelf.Strconv.Lower
import Derived.Shelf.Strconv.ParseUint10
import Derived.Shelf.Strconv.ParseUint10Empty
import Derived.Shelf.Strconv.ParseUint10Any
import Derived.Shelf.Strconv.ParseInt10
import Derived.Shelf.Strconv.AtoiLong
import Derived.Shelf.Strconv.AtoiInnerAll
import Derived.Shelf.Strconv.RangeError
import Derived.Shelf.Strconv.ToErrorRange
import Derived.Shelf.Strconv.AtoiAll
import Derived.Shelf.Strconv.ErrVarAll
import Derived.Shelf.Strings.Search2
import Derived.Shelf.Strings.Search3
import Derived.Shelf.Strings.Cut
import Derived.Shelf.Strings.Count
import Derived.Shelf.Strings.Shaped
import Derived.Shelf.Strings.Split
import Derived.Shelf.Strings.SplitShaped
import Derived.Shelf.Unicode.Decode
import Derived.Shelf.Strings.RuneCount
import Derived.Shelf.Strings.Explode
import Derived.Shelf.Unicode.DecodeSlow
import Derived.Shelf.Unicode.DecodeAny
set_option maxRecDepth 20000
set_option linter.unusedSimpArgs false
set_option linter.unusedVariables false
namespace Go.Kb
open Go.ax
variable {s:aH} {i n st:Nat} {c:UInt8}
variable {ps:List aH}
theorem Fx{x:aH}: ∀(s:aH),x∈ba c s->x.length<=s.length:=by
 intro s;have key: ∀n (s:aH),s.length<=n->x∈ba c s->x.length<=s.length:=by
  intro n
  induction n with
  |zero=>
   intro s hs hx;obtain rfl:=atJ.1 (Nat.le_zero.1 hs);simp[ba]at hx;simp[hx]
  |succ n ih=>
   intro s hs hx;rcases Ag (c:=c) s with⟨_,h2⟩|⟨a,b,h1,_,h3⟩
   ·
    rw[h2,at7]at hx;rw[hx];exact att _
   rw[h3,atv]at hx;have hl:s.length=a.length+(b.length+1):=by rw[h1];simp
   rcases hx with rfl|hx
   ·
    omega
   have:=ih b (by omega) hx;omega
 exact key s.length s (att _)
variable {k:Key} {i n:Nat} {s:aH} {c:UInt8}
def ou(k:Key):List UInt8:=(List.range 16).map fun i=>UInt8.ofNat (bf k i)
theorem Zl(k:Key)(h:i<16):(ou k)[i]? =some (UInt8.ofNat (bf k i)):=by simp[ou,h]
theorem Pu(k:Key)(i:Nat):(UInt8.ofNat (bf k i)).toNat=bf k i:=by
 have:=jC k i;rw[UInt8.toNat_ofNat'];omega
theorem Fy(k:Key):((ou k).take 4).length=4:=by simp[ou]
variable {w0:World}{L:List ai}
instance aj1{b j:Nat}{T:TypeId}[h:Has L b (bR k) T j]:Hd w0 L ⟨false,b,0,4,16,none⟩ aO 1 ((ou k).take 4):=⟨fun w hw=>by
 have hb:hp w b=some (.cells (bR k) T (0,0)):=hw.get h.h;refine⟨⟨(fun e=>Bool.noConfusion e),(by show 4<=16;decide),(by show 4<=140737488355328;decide),fun _=>rfl⟩,(Fy k).symm,fun i x hx m hm=>?_⟩;obtain rfl:m=0:=by omega
 have hi:i<4:=by
  have:=(zz.1 hx).1;rw[Fy]at this;exact this
 rw[avj,if_pos hi,Zl k (by omega)]at hx;obtain rfl:=atl hx;have e:nG (hp w) b (0+i*1+0)=(bR k)[i]? :=by
  unfold nG;rw[hb];simp
 rw[e,jh k i (by omega)];show some (Value.int .u8 ((bf k i:Nat):Int))=some (Value.int .u8 ((UInt8.ofNat (bf k i)).toNat:Nat));rw[Pu]⟩
section
variable {P:Program} {N:cC} {w0:World} {env:Env} {L:List ai} {d:Option Tmp} {ty t u:TypeId} {ps:String} {af:Array Edge} {gd:Option (Nat×Bool)}
theorem Zm{e:TypeId}{x ix:Operand}{kk:IntKind}{j:Int}(hu:P.underlying t=some (.array 16 e))[he:gL P e](hx:ev env x=some (.agg (bR k)))(hj:ev env ix=some (.int kk j))(b:Nat)(ej:j=(b:Int))(hb:b<16):
  Ry P N w0 env L ⟨d, .index t x ix,ty,ps,af,gd⟩ (.int .u8 ((bf k b:Nat):Int)):=fun ac w ha _=>by
 subst ej;obtain⟨⟨de,h1,h2⟩,h3⟩:=he;have g:(b:Int)<((16:Nat):Int):=by omega
 have hk:(bR k)[b]! = .int .u8 ((bf k b:Nat):Int):=by
  rw[getElem!_def,jh k b hb]
 have oh:(bR k)[b]? =some (.int .u8 ((bf k b:Nat):Int)):=jh k b hb;simp only[execOp,ha.ev hx,ha.ev hj,Instr.index,asIntOf,Sem.run_bind,run_underlying hu,Result.andThen,Sem.run_pure,Int.natCast_nonneg,true_and,g,if_true,auy,lN w h3,part,B4 w h1,h2,avy,hk,oh];rfl
end
def uf(sep:aH)(xs:List aH):aH:=Lib.join xs sep
theorem Jw(c:UInt8)(a b:aH):uf [c] [a,b]=a++c::b:=by simp[uf,Lib.join,List.intercalate]
theorem Pv(k:Key):uf [46] (((ou k).take 4).map fun b=>dec b.toNat)=sM k:=by
 have e:(ou k).take 4=[UInt8.ofNat (bf k 0),UInt8.ofNat (bf k 1),UInt8.ofNat (bf k 2),UInt8.ofNat (bf k 3)]:=rfl;rw[e];simp only[atI,auv,Pu];simp[uf,Lib.join,List.intercalate,sM]
def lS(k:Key)(n:Int):Bool:=bm ⟨n,n,k⟩
def jD(k:Key)(n:Int):aH:=if lS k n=true then qS k n else[]
def gW(b:Bool):Int:=if b=true then 0 else 1
theorem Pw(k:Key)(h:i<32):(ot k).take (i+1)=(ot k).take i++[jP (ic k i)]:=by
 rw[atr,Jt k h];rfl
theorem Jx{k:Key}{n:Int}:lS k n=true↔(n=32\/n=128)/\ff k n=k:=by
 unfold lS;simp only[bm,ad2,auA,decide_eq_true_eq];constructor
 ·
  intro h;exact⟨by omega,by simp_all⟩
 intro h;simp_all;omega
theorem Zn{k:Key}{n:Int}(h: ¬(n=32\/n=128)):lS k n=false:=by
 rw[←Bool.not_eq_true,Jx];exact fun e=>h e.1
theorem Zo{k:Key}{n:Int}(h:n=32\/n=128):lS k n=decide (ff k n=k):=by
 rw[avL,Jx,decide_eq_true_iff];exact⟨fun e=>e.2,fun e=>⟨h,e⟩⟩
variable {k:Key} {i:Nat}
theorem Px(n:Nat)(h:n<16):((⟨([48,49,50,51,52,53,54,55,56,57,97,98,99,100,101,102]:aH).toArray⟩:ByteArray)[n]?).map (·.toNat)=some (jP n).toNat:=by
 have key: ∀n,n<16->((⟨([48,49,50,51,52,53,54,55,56,57,97,98,99,100,101,102]:aH).toArray⟩:ByteArray)[n]?).map (·.toNat)=some (jP n).toNat:=by decide
 exact key n h
theorem Zp(k:Key)(i:Nat):bf k i/2^4=ic k (2*i):=by
 rw[ic,if_pos (by omega),show 2*i/2=i by omega]
theorem Zq(k:Key)(i:Nat):bf k i&&&15=ic k (2*i+1):=by
 rw[ic,if_neg (by omega),show(2*i+1)/2=i by omega];exact Nat.and_two_pow_sub_one_eq_mod _ 4
theorem Zr(k:Key)(i:Nat):((⟨([48,49,50,51,52,53,54,55,56,57,97,98,99,100,101,102]:aH).toArray⟩:ByteArray)[bf k i/2^4]?).map (·.toNat)=some (jP (ic k (2*i))).toNat:=by
 rw[Zp];exact Px _ (Cx k _)
theorem Zs(k:Key)(i:Nat):((⟨([48,49,50,51,52,53,54,55,56,57,97,98,99,100,101,102]:aH).toArray⟩:ByteArray)[bf k i&&&15]?).map (·.toNat)=some (jP (ic k (2*i+1))).toNat:=by
 rw[Zq];exact Px _ (Cx k _)
theorem Zt(k:Key)(h:i<16):(ot k).take (2*(i+1))=(ot k).take (2*i)++[jP (ic k (2*i)),jP (ic k (2*i+1))]:=by
 rw[show 2*(i+1)=2*i+1+1 by omega,Pw k (by omega),Pw k (by omega),atw];rfl
theorem Zu(h:i<4){x:UInt8}(hx:((ou k).take 4)[i]? =some x):((((ou k).take 4).take (i+1)).map fun b=>dec b.toNat)=((((ou k).take 4).take i).map fun b=>dec b.toNat)++[dec x.toNat]:=by
 rw[atr,hx,atS];rfl
theorem Py(k:Key):(sM k).length<=15:=by
 have q0:=jC k 0;have q1:=jC k 1;have q2:=jC k 2;have q3:=jC k 3;have l0:=jB 3 (bf k 0) (by omega) (by decide);have l1:=jB 3 (bf k 1) (by omega) (by decide);have l2:=jB 3 (bf k 2) (by omega) (by decide);have l3:=jB 3 (bf k 3) (by omega) (by decide);simp only[sM,adr,af0];omega
theorem Fz(k:Key)(n:Int):(jD k n).length<=32:=by
 have:=Py k;have:=Cy k;unfold jD qS;split
 ·
  split<;>omega
 simp
theorem Zv(k:Key):(((ou k).take 4).map fun b=>dec b.toNat)≠[]/\(uf [46] (((ou k).take 4).map fun b=>dec b.toNat)).length<=140737488355328:=by
 refine⟨fun e=>?_,by rw[Pv];have:=Py k;omega⟩;have:=congrArg List.length e;rw[atM,Fy]at this;cases this
def k7(p:cH):aH:=if bm p=true then sN p else[]
def iB(r:Rt):aH:=if bm r.p=true then yK r else[]
theorem Pz{p:cH}(h:bm p=true):lS p.key p.bits=true/\0<=p.len/\p.len<=128:=by
 obtain⟨h1,h2,h3,h4⟩:=(Fo p).1 h;refine⟨?_,by omega,by omega⟩;rw[lS,Fo];exact⟨h1,by show 0<=p.bits;omega,aul _,fun j hj dD=>h4 j hj (by have:p.bits<=(j:Int):=dD;omega)⟩
theorem PA(a b:aH)(c:UInt8)(h:a.length+b.length<=1000):[a,b]≠[]/\(uf [c] [a,b]).length<=140737488355328:=by
 refine⟨by simp,?_⟩;rw[Jw,adr,af0];omega
theorem FA(p:cH):(k7 p).length<=36:=by
 unfold k7;split
 ·
  rename_i h;obtain⟨h1,h2,h3⟩:=Pz h;have hk:=Fz p.key p.bits;rw[jD,if_pos h1]at hk;have:=jB 3 p.len.toNat (by omega) (by decide);simp only[sN,adr,af0];omega
 simp
end Go.Kb
namespace Go.Proofs.YtkggjjnhnjjokaaGreatDoor
open Go.ax
instance aj2:gL Tryz.prog 3:=⟨⟨_,Tryz.underlying3,rfl⟩,by kernel_rfl⟩
instance aj3:mo Tryz.prog 3 .i64:=⟨Tryz.underlying3⟩
instance aj4:gL Tryz.prog 4:=⟨⟨_,Tryz.underlying4,rfl⟩,by kernel_rfl⟩
instance aj5:gL Tryz.prog 5:=⟨⟨_,Tryz.underlying5,rfl⟩,by kernel_rfl⟩
instance aj6:mo Tryz.prog 5 .u8:=⟨Tryz.underlying5⟩
instance aj7:gL Tryz.prog 9:=⟨⟨_,Tryz.underlying9,rfl⟩,by kernel_rfl⟩
instance aj8:mo Tryz.prog 21 .i32:=⟨Tryz.underlying21⟩
instance aj9:gL Tryz.prog 22:=⟨⟨_,Tryz.underlying22,rfl⟩,by kernel_rfl⟩
instance aka:fA Tryz.prog 22 34 19:=⟨Tryz.underlying22,by kernel_rfl⟩
instance akb:gC Tryz.prog 25 16:=⟨⟨_,Tryz.underlying25,rfl⟩,by kernel_rfl⟩
instance akc:wL Tryz.prog 25 16 1:=⟨⟨_,Tryz.underlying25,by kernel_rfl⟩⟩
instance akd:mo Tryz.prog 26 .u32:=⟨Tryz.underlying26⟩
instance ake:gL Tryz.prog 27:=⟨⟨_,Tryz.underlying27,rfl⟩,by kernel_rfl⟩
instance akf:mo Tryz.prog 27 .u16:=⟨Tryz.underlying27⟩
instance akg:gC Tryz.prog 32 18:=⟨⟨_,Tryz.underlying32,rfl⟩,by kernel_rfl⟩
instance akh:dn Tryz.prog 32 0 0:=⟨⟨_,_,0,Tryz.underlying32,rfl,rfl,by kernel_rfl⟩⟩
instance aki:dn Tryz.prog 32 1 1:=⟨⟨_,_,0,Tryz.underlying32,rfl,rfl,by kernel_rfl⟩⟩
instance akj:dn Tryz.prog 32 2 2:=⟨⟨_,_,15,Tryz.underlying32,rfl,rfl,by kernel_rfl⟩⟩
instance akk:gC Tryz.prog 34 19:=⟨⟨_,Tryz.underlying34,rfl⟩,by kernel_rfl⟩
instance akl:dn Tryz.prog 34 0 0:=⟨⟨_,_,17,Tryz.underlying34,rfl,rfl,by kernel_rfl⟩⟩
instance akm:dn Tryz.prog 34 1 18:=⟨⟨_,_,0,Tryz.underlying34,rfl,rfl,by kernel_rfl⟩⟩
instance akn:gL Tryz.prog 45:=⟨⟨_,Tryz.underlying45,rfl⟩,by kernel_rfl⟩
instance ako:fA Tryz.prog 45 47 20:=⟨Tryz.underlying45,by kernel_rfl⟩
instance akp:gC Tryz.prog 47 20:=⟨⟨_,Tryz.underlying47,rfl⟩,by kernel_rfl⟩
instance akq:dn Tryz.prog 47 0 0:=⟨⟨_,_,18,Tryz.underlying47,rfl,rfl,by kernel_rfl⟩⟩
instance akr:dn Tryz.prog 47 1 19:=⟨⟨_,_,0,Tryz.underlying47,rfl,rfl,by kernel_rfl⟩⟩
instance aks:gL Tryz.prog 53:=⟨⟨_,Tryz.underlying53,rfl⟩,by kernel_rfl⟩
instance akt:fA Tryz.prog 53 5 1:=⟨Tryz.underlying53,by kernel_rfl⟩
instance aku:gL Tryz.prog 56:=⟨⟨_,Tryz.underlying56,rfl⟩,by kernel_rfl⟩
instance akv:fA Tryz.prog 56 180 4:=⟨Tryz.underlying56,by kernel_rfl⟩
instance akw:gL Tryz.prog 57:=⟨⟨_,Tryz.underlying57,rfl⟩,by kernel_rfl⟩
instance akx:fA Tryz.prog 57 97 4:=⟨Tryz.underlying57,by kernel_rfl⟩
instance aky:gC Tryz.prog 59 6:=⟨⟨_,Tryz.underlying59,rfl⟩,by kernel_rfl⟩
instance akz:dn Tryz.prog 59 0 0:=⟨⟨_,_,0,Tryz.underlying59,rfl,rfl,by kernel_rfl⟩⟩
instance akA:dn Tryz.prog 59 1 1:=⟨⟨_,_,0,Tryz.underlying59,rfl,rfl,by kernel_rfl⟩⟩
instance akB:dn Tryz.prog 59 2 2:=⟨⟨_,_,0,Tryz.underlying59,rfl,rfl,by kernel_rfl⟩⟩
instance akC:dn Tryz.prog 59 3 3:=⟨⟨_,_,0,Tryz.underlying59,rfl,rfl,by kernel_rfl⟩⟩
instance akD:dn Tryz.prog 59 4 4:=⟨⟨_,_,0,Tryz.underlying59,rfl,rfl,by kernel_rfl⟩⟩
instance akE:dn Tryz.prog 59 5 5:=⟨⟨_,_,0,Tryz.underlying59,rfl,rfl,by kernel_rfl⟩⟩
instance akF:gL Tryz.prog 60:=⟨⟨_,Tryz.underlying60,rfl⟩,by kernel_rfl⟩
instance akG:fA Tryz.prog 60 3 1:=⟨Tryz.underlying60,by kernel_rfl⟩
instance akH:gL Tryz.prog 61:=⟨⟨_,Tryz.underlying61,rfl⟩,by kernel_rfl⟩
instance akI:mo Tryz.prog 61 .u64:=⟨Tryz.underlying61⟩
instance akJ:gC Tryz.prog 63 9:=⟨⟨_,Tryz.underlying63,rfl⟩,by kernel_rfl⟩
instance akK:dn Tryz.prog 63 0 0:=⟨⟨_,_,5,Tryz.underlying63,rfl,rfl,by kernel_rfl⟩⟩
instance akL:dn Tryz.prog 63 1 6:=⟨⟨_,_,0,Tryz.underlying63,rfl,rfl,by kernel_rfl⟩⟩
instance akM:dn Tryz.prog 63 2 7:=⟨⟨_,_,0,Tryz.underlying63,rfl,rfl,by kernel_rfl⟩⟩
instance akN:dn Tryz.prog 63 3 8:=⟨⟨_,_,0,Tryz.underlying63,rfl,rfl,by kernel_rfl⟩⟩
instance akO:gC Tryz.prog 65 10:=⟨⟨_,Tryz.underlying65,rfl⟩,by kernel_rfl⟩
instance akP:dn Tryz.prog 65 0 0:=⟨⟨_,_,8,Tryz.underlying65,rfl,rfl,by kernel_rfl⟩⟩
instance akQ:dn Tryz.prog 65 1 9:=⟨⟨_,_,0,Tryz.underlying65,rfl,rfl,by kernel_rfl⟩⟩
instance akR:gC Tryz.prog 73 38:=⟨⟨_,Tryz.underlying73,rfl⟩,by kernel_rfl⟩
instance akS:dn Tryz.prog 73 0 0:=⟨⟨_,_,0,Tryz.underlying73,rfl,rfl,by kernel_rfl⟩⟩
instance akT:dn Tryz.prog 73 1 1:=⟨⟨_,_,18,Tryz.underlying73,rfl,rfl,by kernel_rfl⟩⟩
instance akU:dn Tryz.prog 73 2 20:=⟨⟨_,_,15,Tryz.underlying73,rfl,rfl,by kernel_rfl⟩⟩
instance akV:dn Tryz.prog 73 3 36:=⟨⟨_,_,0,Tryz.underlying73,rfl,rfl,by kernel_rfl⟩⟩
instance akW:dn Tryz.prog 73 4 37:=⟨⟨_,_,0,Tryz.underlying73,rfl,rfl,by kernel_rfl⟩⟩
instance akX:gL Tryz.prog 74:=⟨⟨_,Tryz.underlying74,rfl⟩,by kernel_rfl⟩
instance akY:fA Tryz.prog 74 73 38:=⟨Tryz.underlying74,by kernel_rfl⟩
instance akZ:gC Tryz.prog 76 4:=⟨⟨_,Tryz.underlying76,rfl⟩,by kernel_rfl⟩
instance ak0:dn Tryz.prog 76 0 0:=⟨⟨_,_,0,Tryz.underlying76,rfl,rfl,by kernel_rfl⟩⟩
instance ak1:dn Tryz.prog 76 1 1:=⟨⟨_,_,0,Tryz.underlying76,rfl,rfl,by kernel_rfl⟩⟩
instance ak2:dn Tryz.prog 76 2 2:=⟨⟨_,_,0,Tryz.underlying76,rfl,rfl,by kernel_rfl⟩⟩
instance ak3:dn Tryz.prog 76 3 3:=⟨⟨_,_,0,Tryz.underlying76,rfl,rfl,by kernel_rfl⟩⟩
instance ak4:gC Tryz.prog 97 4:=⟨⟨_,Tryz.underlying97,rfl⟩,by kernel_rfl⟩
instance ak5:dn Tryz.prog 97 0 0:=⟨⟨_,_,0,Tryz.underlying97,rfl,rfl,by kernel_rfl⟩⟩
instance ak6:dn Tryz.prog 97 1 1:=⟨⟨_,_,0,Tryz.underlying97,rfl,rfl,by kernel_rfl⟩⟩
instance ak7:dn Tryz.prog 97 2 2:=⟨⟨_,_,0,Tryz.underlying97,rfl,rfl,by kernel_rfl⟩⟩
instance ak8:dn Tryz.prog 97 3 3:=⟨⟨_,_,0,Tryz.underlying97,rfl,rfl,by kernel_rfl⟩⟩
instance ak9:fA Tryz.prog 155 9 1:=⟨Tryz.underlying155,by kernel_rfl⟩
instance ala:gL Tryz.prog 170:=⟨⟨_,Tryz.underlying170,rfl⟩,by kernel_rfl⟩
instance alb:dn Tryz.prog 172 0 0:=⟨⟨_,_,0,Tryz.underlying172,rfl,rfl,by kernel_rfl⟩⟩
instance alc:dn Tryz.prog 172 1 1:=⟨⟨_,_,0,Tryz.underlying172,rfl,rfl,by kernel_rfl⟩⟩
instance ald:dn Tryz.prog 174 0 0:=⟨⟨_,_,9,Tryz.underlying174,rfl,rfl,by kernel_rfl⟩⟩
instance ale:dn Tryz.prog 174 1 10:=⟨⟨_,_,0,Tryz.underlying174,rfl,rfl,by kernel_rfl⟩⟩
instance alf:dn Tryz.prog 174 2 11:=⟨⟨_,_,1,Tryz.underlying174,rfl,rfl,by kernel_rfl⟩⟩
instance alg:gL Tryz.prog 178:=⟨⟨_,Tryz.underlying178,rfl⟩,by kernel_rfl⟩
instance alh:fA Tryz.prog 178 53 1:=⟨Tryz.underlying178,by kernel_rfl⟩
instance ali:gC Tryz.prog 180 4:=⟨⟨_,Tryz.underlying180,rfl⟩,by kernel_rfl⟩
instance alj:dn Tryz.prog 180 0 0:=⟨⟨_,_,0,Tryz.underlying180,rfl,rfl,by kernel_rfl⟩⟩
instance alk:dn Tryz.prog 180 1 1:=⟨⟨_,_,0,Tryz.underlying180,rfl,rfl,by kernel_rfl⟩⟩
instance alm:dn Tryz.prog 180 2 2:=⟨⟨_,_,0,Tryz.underlying180,rfl,rfl,by kernel_rfl⟩⟩
instance aln:dn Tryz.prog 180 3 3:=⟨⟨_,_,0,Tryz.underlying180,rfl,rfl,by kernel_rfl⟩⟩
instance alo:fA Tryz.prog 191 269 2:=⟨Tryz.underlying191,by kernel_rfl⟩
instance alp:wL Tryz.prog 242 3 1:=⟨⟨_,Tryz.underlying242,by kernel_rfl⟩⟩
instance alq:mo Tryz.prog 253 .u64:=⟨Tryz.underlying253⟩
instance alr:gL Tryz.prog 259:=⟨⟨_,Tryz.underlying259,rfl⟩,by kernel_rfl⟩
instance als:dn Tryz.prog 261 0 0:=⟨⟨_,_,8,Tryz.underlying261,rfl,rfl,by kernel_rfl⟩⟩
instance alu:dn Tryz.prog 261 1 9:=⟨⟨_,_,0,Tryz.underlying261,rfl,rfl,by kernel_rfl⟩⟩
instance alv:gC Tryz.prog 269 2:=⟨⟨_,Tryz.underlying269,rfl⟩,by kernel_rfl⟩
instance alw:dn Tryz.prog 269 0 0:=⟨⟨_,_,0,Tryz.underlying269,rfl,rfl,by kernel_rfl⟩⟩
instance alx:dn Tryz.prog 269 1 1:=⟨⟨_,_,0,Tryz.underlying269,rfl,rfl,by kernel_rfl⟩⟩
instance aly:gC Tryz.prog 314 2:=⟨⟨_,Tryz.underlying314,rfl⟩,by kernel_rfl⟩
instance alz:dn Tryz.prog 314 0 0:=⟨⟨_,_,0,Tryz.underlying314,rfl,rfl,by kernel_rfl⟩⟩
instance alA:dn Tryz.prog 314 1 1:=⟨⟨_,_,0,Tryz.underlying314,rfl,rfl,by kernel_rfl⟩⟩
instance alB:wL Tryz.prog 317 20 1:=⟨⟨_,Tryz.underlying317,by kernel_rfl⟩⟩
instance alC:gC Tryz.prog 319 0:=⟨⟨_,Tryz.underlying319,rfl⟩,by kernel_rfl⟩
instance alD:gC Tryz.prog 324 4:=⟨⟨_,Tryz.underlying324,rfl⟩,by kernel_rfl⟩
instance alE:dn Tryz.prog 324 0 0:=⟨⟨_,_,0,Tryz.underlying324,rfl,rfl,by kernel_rfl⟩⟩
instance alF:dn Tryz.prog 324 1 1:=⟨⟨_,_,0,Tryz.underlying324,rfl,rfl,by kernel_rfl⟩⟩
instance alG:dn Tryz.prog 324 2 2:=⟨⟨_,_,0,Tryz.underlying324,rfl,rfl,by kernel_rfl⟩⟩
instance alH:dn Tryz.prog 324 3 3:=⟨⟨_,_,0,Tryz.underlying324,rfl,rfl,by kernel_rfl⟩⟩
instance alI:fA Tryz.prog 366 60 1:=⟨Tryz.underlying366,by kernel_rfl⟩
instance alJ:fA Tryz.prog 396 178 1:=⟨Tryz.underlying396,by kernel_rfl⟩
instance alK:fA Tryz.prog 399 402 4:=⟨Tryz.underlying399,by kernel_rfl⟩
instance alL:gC Tryz.prog 402 4:=⟨⟨_,Tryz.underlying402,rfl⟩,by kernel_rfl⟩
instance alN:dn Tryz.prog 402 0 0:=⟨⟨_,_,0,Tryz.underlying402,rfl,rfl,by kernel_rfl⟩⟩
instance alO:dn Tryz.prog 402 1 1:=⟨⟨_,_,0,Tryz.underlying402,rfl,rfl,by kernel_rfl⟩⟩
instance alP:dn Tryz.prog 402 2 2:=⟨⟨_,_,0,Tryz.underlying402,rfl,rfl,by kernel_rfl⟩⟩
instance alQ:dn Tryz.prog 402 3 3:=⟨⟨_,_,0,Tryz.underlying402,rfl,rfl,by kernel_rfl⟩⟩
instance alR:gC Tryz.prog 432 5:=⟨⟨_,Tryz.underlying432,rfl⟩,by kernel_rfl⟩
instance alS:dn Tryz.prog 432 0 0:=⟨⟨_,_,3,Tryz.underlying432,rfl,rfl,by kernel_rfl⟩⟩
instance alT:dn Tryz.prog 432 1 4:=⟨⟨_,_,0,Tryz.underlying432,rfl,rfl,by kernel_rfl⟩⟩
instance alU:gL Tryz.prog 433:=⟨⟨_,Tryz.underlying433,rfl⟩,by kernel_rfl⟩
instance alV:fA Tryz.prog 443 433 1:=⟨Tryz.underlying443,by kernel_rfl⟩
theorem zIq{P:Program}{f:FuncId}{fn:Func}(h:P.funcs[f]? =some fn)(a:fn.body.isNone=false:=by kernel_rfl)(b:(fn.name== "runtime.NumGoroutine")=false:=by kernel_rfl):aI P f:=⟨⟨fn,h,a,b⟩⟩
instance alW:aI Tryz.prog 13:=zIq Tryz.func13
instance alX:aI Tryz.prog 15:=zIq Tryz.func15
instance alY:aI Tryz.prog 19:=zIq Tryz.func19
instance alZ:aI Tryz.prog 22:=zIq Tryz.func22
instance al0:aI Tryz.prog 25:=zIq Tryz.func25
instance al1:aI Tryz.prog 27:=zIq Tryz.func27
instance al2:aI Tryz.prog 29:=zIq Tryz.func29
instance al3:aI Tryz.prog 30:=zIq Tryz.func30
instance al4:aI Tryz.prog 32:=zIq Tryz.func32
instance al5:aI Tryz.prog 35:=zIq Tryz.func35
instance al6:aI Tryz.prog 36:=zIq Tryz.func36
instance al7:aI Tryz.prog 37:=zIq Tryz.func37
instance al8:aI Tryz.prog 38:=zIq Tryz.func38
instance al9:aI Tryz.prog 39:=zIq Tryz.func39
instance ama:aI Tryz.prog 41:=zIq Tryz.func41
instance amb:aI Tryz.prog 42:=zIq Tryz.func42
instance amc:aI Tryz.prog 43:=zIq Tryz.func43
instance amd:aI Tryz.prog 44:=zIq Tryz.func44
instance ame:aI Tryz.prog 45:=zIq Tryz.func45
instance amf:aI Tryz.prog 46:=zIq Tryz.func46
instance amg:aI Tryz.prog 50:=zIq Tryz.func50
instance amh:aI Tryz.prog 51:=zIq Tryz.func51
instance ami:aI Tryz.prog 57:=zIq Tryz.func57
instance amj:aI Tryz.prog 58:=zIq Tryz.func58
instance amk:aI Tryz.prog 62:=zIq Tryz.func62
instance aml:aI Tryz.prog 66:=zIq Tryz.func66
instance amm:aI Tryz.prog 68:=zIq Tryz.func68
instance amn:aI Tryz.prog 69:=zIq Tryz.func69
instance amo:aI Tryz.prog 74:=zIq Tryz.func74
instance amp:aI Tryz.prog 75:=zIq Tryz.func75
instance amq:aI Tryz.prog 76:=zIq Tryz.func76
instance amr:aI Tryz.prog 78:=zIq Tryz.func78
instance ams:aI Tryz.prog 79:=zIq Tryz.func79
instance amt:aI Tryz.prog 80:=zIq Tryz.func80
instance amu:aI Tryz.prog 84:=zIq Tryz.func84
instance amv:aI Tryz.prog 85:=zIq Tryz.func85
instance amw:aI Tryz.prog 86:=zIq Tryz.func86
instance amx:aI Tryz.prog 87:=zIq Tryz.func87
instance amy:aI Tryz.prog 91:=zIq Tryz.func91
instance amz:aI Tryz.prog 92:=zIq Tryz.func92
instance amA:aI Tryz.prog 93:=zIq Tryz.func93
instance amB:aI Tryz.prog 94:=zIq Tryz.func94
instance amC:aI Tryz.prog 95:=zIq Tryz.func95
instance amD:aI Tryz.prog 96:=zIq Tryz.func96
instance amE:aI Tryz.prog 97:=zIq Tryz.func97
instance amF:aI Tryz.prog 98:=zIq Tryz.func98
instance amG:aI Tryz.prog 99:=zIq Tryz.func99
instance amH:aI Tryz.prog 100:=zIq Tryz.func100
instance amI:aI Tryz.prog 101:=zIq Tryz.func101
instance amJ:aI Tryz.prog 102:=zIq Tryz.func102
instance amK:aI Tryz.prog 103:=zIq Tryz.func103
instance amL:aI Tryz.prog 104:=zIq Tryz.func104
instance amM:aI Tryz.prog 105:=zIq Tryz.func105
instance amN:aI Tryz.prog 106:=zIq Tryz.func106
instance amO:aI Tryz.prog 107:=zIq Tryz.func107
instance amP:aI Tryz.prog 108:=zIq Tryz.func108
instance amQ:aI Tryz.prog 110:=zIq Tryz.func110
instance amR:aI Tryz.prog 111:=zIq Tryz.func111
instance amS:aI Tryz.prog 112:=zIq Tryz.func112
instance amT:aI Tryz.prog 113:=zIq Tryz.func113
instance amU:aI Tryz.prog 115:=zIq Tryz.func115
instance amV:aI Tryz.prog 116:=zIq Tryz.func116
instance amW:aI Tryz.prog 117:=zIq Tryz.func117
instance amX:aI Tryz.prog 126:=zIq Tryz.func126
instance amY:aI Tryz.prog 129:=zIq Tryz.func129
instance amZ:aI Tryz.prog 130:=zIq Tryz.func130
instance am0:aI Tryz.prog 138:=zIq Tryz.func138
instance am1:aI Tryz.prog 139:=zIq Tryz.func139
instance am2:aI Tryz.prog 142:=zIq Tryz.func142
instance am3:aI Tryz.prog 143:=zIq Tryz.func143
instance am4:aI Tryz.prog 144:=zIq Tryz.func144
instance am5:aI Tryz.prog 147:=zIq Tryz.func147
instance am6:aI Tryz.prog 148:=zIq Tryz.func148
instance am7:aI Tryz.prog 149:=zIq Tryz.func149
instance am8:aI Tryz.prog 153:=zIq Tryz.func153
instance am9:aI Tryz.prog 157:=zIq Tryz.func157
instance ana:aI Tryz.prog 158:=zIq Tryz.func158
instance anb:aI Tryz.prog 159:=zIq Tryz.func159
instance ane:aI Tryz.prog 160:=zIq Tryz.func160
instance anf:aI Tryz.prog 161:=zIq Tryz.func161
instance ang:aI Tryz.prog 162:=zIq Tryz.func162
instance anh:aI Tryz.prog 163:=zIq Tryz.func163
instance ani:aI Tryz.prog 164:=zIq Tryz.func164
instance anj:aI Tryz.prog 165:=zIq Tryz.func165
instance ank:aI Tryz.prog 166:=zIq Tryz.func166
instance anl:aI Tryz.prog 167:=zIq Tryz.func167
instance anm:aI Tryz.prog 168:=zIq Tryz.func168
instance ann:aI Tryz.prog 169:=zIq Tryz.func169
instance ano:aI Tryz.prog 170:=zIq Tryz.func170
instance anp:aI Tryz.prog 171:=zIq Tryz.func171
instance anq:aI Tryz.prog 172:=zIq Tryz.func172
instance anr:aI Tryz.prog 173:=zIq Tryz.func173
instance ans:aI Tryz.prog 174:=zIq Tryz.func174
instance ant:aI Tryz.prog 175:=zIq Tryz.func175
instance anu:aI Tryz.prog 176:=zIq Tryz.func176
instance anv:aI Tryz.prog 177:=zIq Tryz.func177
instance anw:aI Tryz.prog 178:=zIq Tryz.func178
instance anx:aI Tryz.prog 179:=zIq Tryz.func179
instance anz:aI Tryz.prog 180:=zIq Tryz.func180
instance anA:aI Tryz.prog 181:=zIq Tryz.func181
instance anB:aI Tryz.prog 182:=zIq Tryz.func182
instance anC:aI Tryz.prog 185:=zIq Tryz.func185
instance anD:aI Tryz.prog 207:=zIq Tryz.func207
instance anE:aI Tryz.prog 208:=zIq Tryz.func208
instance anF:aI Tryz.prog 209:=zIq Tryz.func209
instance anG:aI Tryz.prog 214:=zIq Tryz.func214
instance anH:aI Tryz.prog 215:=zIq Tryz.func215
instance anI:aI Tryz.prog 216:=zIq Tryz.func216
instance anJ:aI Tryz.prog 217:=zIq Tryz.func217
instance anK:aI Tryz.prog 218:=zIq Tryz.func218
instance anL:aI Tryz.prog 219:=zIq Tryz.func219
instance anM:aI Tryz.prog 220:=zIq Tryz.func220
instance anN:aI Tryz.prog 221:=zIq Tryz.func221
instance anO:aI Tryz.prog 222:=zIq Tryz.func222
instance anP:aI Tryz.prog 223:=zIq Tryz.func223
instance anQ:aI Tryz.prog 224:=zIq Tryz.func224
instance anR:aI Tryz.prog 226:=zIq Tryz.func226
instance anS:aI Tryz.prog 227:=zIq Tryz.func227
instance anT:aI Tryz.prog 228:=zIq Tryz.func228
instance anU:aI Tryz.prog 229:=zIq Tryz.func229
instance anV:aI Tryz.prog 230:=zIq Tryz.func230
instance anW:aI Tryz.prog 245:=zIq Tryz.func245
instance anX:aI Tryz.prog 250:=zIq Tryz.func250
instance anY:aI Tryz.prog 251:=zIq Tryz.func251
instance anZ:aI Tryz.prog 252:=zIq Tryz.func252
instance an0:aI Tryz.prog 253:=zIq Tryz.func253
instance an1:aI Tryz.prog 254:=zIq Tryz.func254
instance an2:aI Tryz.prog 255:=zIq Tryz.func255
instance an3:aI Tryz.prog 256:=zIq Tryz.func256
instance an4:aI Tryz.prog 257:=zIq Tryz.func257
instance an5:aI Tryz.prog 258:=zIq Tryz.func258
instance an6:aI Tryz.prog 259:=zIq Tryz.func259
instance an7:aI Tryz.prog 260:=zIq Tryz.func260
instance an8:aI Tryz.prog 261:=zIq Tryz.func261
instance an9:aI Tryz.prog 262:=zIq Tryz.func262
instance aoa:aI Tryz.prog 263:=zIq Tryz.func263
instance aob:aI Tryz.prog 264:=zIq Tryz.func264
instance aoc:aI Tryz.prog 265:=zIq Tryz.func265
instance aod:aI Tryz.prog 267:=zIq Tryz.func267
instance aoe:aI Tryz.prog 268:=zIq Tryz.func268
instance aof:aI Tryz.prog 269:=zIq Tryz.func269
instance aog:aI Tryz.prog 297:=zIq Tryz.func297
instance aoh:aI Tryz.prog 298:=zIq Tryz.func298
instance aoi:aI Tryz.prog 299:=zIq Tryz.func299
instance aoj:aI Tryz.prog 300:=zIq Tryz.func300
instance aok:aI Tryz.prog 301:=zIq Tryz.func301
instance aol:aI Tryz.prog 302:=zIq Tryz.func302
instance aom:aI Tryz.prog 303:=zIq Tryz.func303
instance aon:aI Tryz.prog 304:=zIq Tryz.func304
instance aoo:aI Tryz.prog 305:=zIq Tryz.func305
instance aop:aI Tryz.prog 306:=zIq Tryz.func306
instance aoq:aI Tryz.prog 307:=zIq Tryz.func307
instance aor:aI Tryz.prog 308:=zIq Tryz.func308
instance aos:aI Tryz.prog 309:=zIq Tryz.func309
instance aot:aI Tryz.prog 310:=zIq Tryz.func310
instance aou:aI Tryz.prog 311:=zIq Tryz.func311
instance aov:aI Tryz.prog 312:=zIq Tryz.func312
instance aow:aI Tryz.prog 313:=zIq Tryz.func313
instance aox:aI Tryz.prog 314:=zIq Tryz.func314
instance aoy:aI Tryz.prog 315:=zIq Tryz.func315
instance aoz:aI Tryz.prog 326:=zIq Tryz.func326
instance aoA:aI Tryz.prog 327:=zIq Tryz.func327
instance aoB:aI Tryz.prog 328:=zIq Tryz.func328
instance aoC:aI Tryz.prog 329:=zIq Tryz.func329
instance aoD:aI Tryz.prog 330:=zIq Tryz.func330
instance aoE:aI Tryz.prog 331:=zIq Tryz.func331
instance aoF:aI Tryz.prog 332:=zIq Tryz.func332
instance aoG:aI Tryz.prog 333:=zIq Tryz.func333
instance aoH:aI Tryz.prog 334:=zIq Tryz.func334
instance aoI:aI Tryz.prog 335:=zIq Tryz.func335
instance aoJ:aI Tryz.prog 336:=zIq Tryz.func336
instance aoK:aI Tryz.prog 340:=zIq Tryz.func340
instance aoL:aI Tryz.prog 341:=zIq Tryz.func341
instance aoM:aI Tryz.prog 342:=zIq Tryz.func342
instance aoN:aI Tryz.prog 343:=zIq Tryz.func343
instance aoO:aI Tryz.prog 344:=zIq Tryz.func344
instance aoP:aI Tryz.prog 345:=zIq Tryz.func345
instance aoQ:aI Tryz.prog 346:=zIq Tryz.func346
instance aoR:aI Tryz.prog 347:=zIq Tryz.func347
instance aoS:aI Tryz.prog 348:=zIq Tryz.func348
instance aoT:aI Tryz.prog 349:=zIq Tryz.func349
instance aoU:aI Tryz.prog 350:=zIq Tryz.func350
end Go.Proofs.YtkggjjnhnjjokaaGreatDoor
namespace Go.Proofs
open Go.Shelf
def Tryz.PB:Go.Shelf.Ren:=⟨fun|156=>178|165=>225|166=>226|169=>92|240=>265|241=>266|276=>316|277=>317|n=>n,fun|31=>155|9=>9|3=>3|4=>4|0=>0|20=>20|72=>172|76=>304|70=>170|37=>53|75=>303|127=>256|164=>333|5=>5|80=>176|n=>n,fun|n=>n⟩
theorem zSq{α:Type}{a:Option α}{b c:α}(h:a=some b)(e:b=c:=by kernel_rfl):a=some c:=h.trans (congrArg some e)
theorem Tryz.Zw:Go.Proofs.Lays.n156 Tryz.prog Tryz.PB:={
 mixed:=by kernel_rfl
 f156:=zSq Tryz.func178
 f165:=zSq Tryz.func225
 f166:=zSq Tryz.func226
 f169:=zSq Tryz.func92
 f240:=zSq Tryz.func265
 f241:=zSq Tryz.func266
 f276:=zSq Tryz.func316
 f277:=zSq Tryz.func317
 t0:=Tryz.underlying0
 a0:=Tryz.isAgg0
 z0:=Tryz.sizeOf0
 v0:=Tryz.zeroValue0
 t3:=Tryz.underlying3
 a3:=Tryz.isAgg3
 z3:=Tryz.sizeOf3
 v3:=Tryz.zeroValue3
 t4:=Tryz.underlying4
 a4:=Tryz.isAgg4
 z4:=Tryz.sizeOf4
 v4:=Tryz.zeroValue4
 t9:=Tryz.underlying9
 a9:=Tryz.isAgg9
 z9:=Tryz.sizeOf9
 v9:=Tryz.zeroValue9
 t20:=Tryz.underlying20
 a20:=Tryz.isAgg20
 z20:=Tryz.sizeOf20
 v20:=Tryz.zeroValue20
 t31:=Tryz.underlying155
 a31:=Tryz.isAgg155
 z31:=Tryz.sizeOf155
 v31:=Tryz.zeroValue155
 t37:=Tryz.underlying53
 a37:=Tryz.isAgg53
 z37:=Tryz.sizeOf53
 v37:=Tryz.zeroValue53
 t70:=Tryz.underlying170
 a70:=Tryz.isAgg170
 z70:=Tryz.sizeOf170
 v70:=Tryz.zeroValue170
 t72:=Tryz.underlying172
 a72:=Tryz.isAgg172
 z72:=Tryz.sizeOf172
 v72:=Tryz.zeroValue172
 t75:=Tryz.underlying303
 a75:=Tryz.isAgg303
 z75:=Tryz.sizeOf303
 v75:=Tryz.zeroValue303
 t76:=Tryz.underlying304
 a76:=Tryz.isAgg304
 z76:=Tryz.sizeOf304
 v76:=Tryz.zeroValue304
 t127:=Tryz.underlying256
 a127:=Tryz.isAgg256
 z127:=Tryz.sizeOf256
 v127:=Tryz.zeroValue256
 t164:=Tryz.underlying333
 a164:=Tryz.isAgg333
 z164:=Tryz.sizeOf333
 v164:=Tryz.zeroValue333}
theorem Tryz.Zx:Builder.Extra Tryz.prog Tryz.PB:={
 sizeBuilder:=by kernel_rfl
 liesBuilder:=by kernel_rfl
 t5:=Tryz.underlying5
 a5:=Tryz.isAgg5
 z5:=Tryz.sizeOf5
 v5:=Tryz.zeroValue5
 infoByte:=by kernel_rfl
 cellsByte:=by kernel_rfl
 sizeByte:=by kernel_rfl
 neB5:=by decide}
open Go.RowKit in
theorem Tryz.strings_Join(bk o c:Nat)(xs:List ByteArray)(sep:ByteArray)(w:World)(FB: ∀(j:Nat) x,xs[j]? =some x->w.cell? ⟨bk,o+j,none⟩=some (.string x))(Zy:bk<w.heap.size)(hN:xs.length<=140737488355328)(vr:xs.length<=c)(hlen:(Lib.join (xs.map (·.data.toList)) sep.data.toList).length<=140737488355328):
  Calls Tryz.prog 178 #[.slice (some ⟨bk,o,none⟩) xs.length c, .string sep] w fun e w'=>e= .returned (.string ⟨(Lib.join (xs.map (·.data.toList)) sep.data.toList).toArray⟩)/\Below w.heap.size w w':=Any.strings_Join Tryz.Zw Tryz.Zx bk o c xs sep w FB Zy hN vr hlen
def Tryz.Zz:Go.Shelf.Ren:=⟨fun|137=>245|217=>270|266=>318|n=>n,fun|9=>9|5=>5|3=>3|n=>n,fun|n=>n⟩
theorem Tryz.ZA:Go.Proofs.Lays.n137 Tryz.prog Tryz.Zz:={
 mixed:=by kernel_rfl
 f137:=zSq Tryz.func245
 f217:=zSq Tryz.func270
 f266:=zSq Tryz.func318
 t3:=Tryz.underlying3
 a3:=Tryz.isAgg3
 z3:=Tryz.sizeOf3
 v3:=Tryz.zeroValue3
 t5:=Tryz.underlying5
 a5:=Tryz.isAgg5
 z5:=Tryz.sizeOf5
 v5:=Tryz.zeroValue5
 t9:=Tryz.underlying9
 a9:=Tryz.isAgg9
 z9:=Tryz.sizeOf9
 v9:=Tryz.zeroValue9}
open Go.RowKit in
theorem Tryz.strings_IndexByte(s:ByteArray)(c:Int)(w:World):
  Calls Tryz.prog 245 #[.string s, .int .u8 c] w fun e w'=>e= .returned (.int .i64 (Lib.indexByte s.data.toList c.toNat.toUInt8))/\w'=w:=Any.strings_IndexByte Tryz.ZA s c w
def Tryz.aoV:Go.Shelf.Ren:=⟨fun|172=>207|244=>243|245=>244|247=>287|279=>288|280=>289|281=>290|282=>291|287=>321|316=>322|171=>86|205=>323|321=>338|322=>339|243=>154|246=>212|283=>246|284=>247|285=>248|286=>249|129=>293|317=>292|318=>294|319=>295|320=>296|337=>324|338=>325|n=>n,fun|9=>9|3=>3|75=>303|76=>304|4=>4|5=>5|167=>378|37=>53|0=>0|85=>379|2=>2|168=>381|53=>61|175=>417|46=>253|210=>421|127=>256|145=>439|143=>437|21=>21|171=>348|173=>351|212=>385|51=>26|20=>20|213=>386|232=>440|233=>441|80=>176|n=>n,fun|15=>4|16=>5|17=>1|18=>6|19=>7|n=>n⟩
def Tryz.aoW:Go.Shelf.Ren:=⟨fun|246=>212|283=>246|284=>247|285=>248|286=>249|129=>293|317=>292|318=>294|319=>295|320=>296|337=>324|338=>325|n=>n,fun|2=>2|3=>3|9=>9|4=>4|171=>348|0=>0|53=>61|37=>53|5=>5|173=>351|212=>385|51=>26|20=>20|213=>386|46=>253|232=>440|233=>441|n=>n,fun|17=>1|18=>6|19=>7|n=>n⟩
def Tryz.aoX:Go.Shelf.Ren:=⟨fun|243=>154|246=>212|283=>246|284=>247|285=>248|286=>249|129=>293|317=>292|318=>294|319=>295|320=>296|337=>324|338=>325|n=>n,fun|3=>3|9=>9|2=>2|4=>4|171=>348|0=>0|53=>61|37=>53|5=>5|173=>351|212=>385|51=>26|20=>20|213=>386|46=>253|232=>440|233=>441|n=>n,fun|17=>1|18=>6|19=>7|n=>n⟩
def Tryz.ZB:Go.Shelf.Ren:=⟨fun|171=>86|243=>154|246=>212|283=>246|284=>247|285=>248|286=>249|129=>293|317=>292|318=>294|319=>295|320=>296|337=>324|338=>325|n=>n,fun|3=>3|9=>9|2=>2|4=>4|171=>348|0=>0|53=>61|37=>53|5=>5|173=>351|212=>385|51=>26|20=>20|213=>386|46=>253|232=>440|233=>441|n=>n,fun|17=>1|18=>6|19=>7|n=>n⟩
theorem Tryz.ZC:Go.Proofs.LaysM.n171 Tryz.prog Tryz.ZB:={
 mixed:=by kernel_rfl
 f129:=zSq Tryz.func293
 f171:=zSq Tryz.func86
 f243:=zSq Tryz.func154
 f246:=zSq Tryz.func212
 f283:=zSq Tryz.func246
 f284:=zSq Tryz.func247
 f285:=zSq Tryz.func248
 f286:=zSq Tryz.func249
 f317:=zSq Tryz.func292
 f318:=zSq Tryz.func294
 f319:=zSq Tryz.func295
 f320:=zSq Tryz.func296
 f337:=zSq Tryz.func324
 f338:=zSq Tryz.func325
 t0:=Tryz.underlying0
 a0:=Tryz.isAgg0
 z0:=Tryz.sizeOf0
 v0:=Tryz.zeroValue0
 t2:=Tryz.underlying2
 a2:=Tryz.isAgg2
 z2:=Tryz.sizeOf2
 v2:=Tryz.zeroValue2
 t3:=Tryz.underlying3
 a3:=Tryz.isAgg3
 z3:=Tryz.sizeOf3
 v3:=Tryz.zeroValue3
 t4:=Tryz.underlying4
 a4:=Tryz.isAgg4
 z4:=Tryz.sizeOf4
 v4:=Tryz.zeroValue4
 t5:=Tryz.underlying5
 a5:=Tryz.isAgg5
 z5:=Tryz.sizeOf5
 v5:=Tryz.zeroValue5
 t9:=Tryz.underlying9
 a9:=Tryz.isAgg9
 z9:=Tryz.sizeOf9
 v9:=Tryz.zeroValue9
 t20:=Tryz.underlying20
 a20:=Tryz.isAgg20
 z20:=Tryz.sizeOf20
 v20:=Tryz.zeroValue20
 t37:=Tryz.underlying53
 a37:=Tryz.isAgg53
 z37:=Tryz.sizeOf53
 v37:=Tryz.zeroValue53
 t46:=Tryz.underlying253
 a46:=Tryz.isAgg253
 z46:=Tryz.sizeOf253
 v46:=Tryz.zeroValue253
 t51:=Tryz.underlying26
 a51:=Tryz.isAgg26
 z51:=Tryz.sizeOf26
 v51:=Tryz.zeroValue26
 t53:=Tryz.underlying61
 a53:=Tryz.isAgg61
 z53:=Tryz.sizeOf61
 v53:=Tryz.zeroValue61
 t171:=Tryz.underlying348
 a171:=Tryz.isAgg348
 z171:=Tryz.sizeOf348
 v171:=Tryz.zeroValue348
 t173:=Tryz.underlying351
 a173:=Tryz.isAgg351
 z173:=Tryz.sizeOf351
 v173:=Tryz.zeroValue351
 t212:=Tryz.underlying385
 a212:=Tryz.isAgg385
 z212:=Tryz.sizeOf385
 v212:=Tryz.zeroValue385
 t213:=Tryz.underlying386
 a213:=Tryz.isAgg386
 z213:=Tryz.sizeOf386
 t232:=Tryz.underlying440
 a232:=Tryz.isAgg440
 z232:=Tryz.sizeOf440
 v232:=Tryz.zeroValue440
 t233:=Tryz.underlying441
 a233:=Tryz.isAgg441
 z233:=Tryz.sizeOf441
 v233:=Tryz.zeroValue441
 g17:=by kernel_rfl
 g18:=by kernel_rfl
 g19:=by kernel_rfl
 i0:=by kernel_rfl
 i2:=by kernel_rfl
 i3:=by kernel_rfl
 i4:=by kernel_rfl
 i5:=by kernel_rfl
 i9:=by kernel_rfl
 i20:=by kernel_rfl
 i37:=by kernel_rfl
 i46:=by kernel_rfl
 i51:=by kernel_rfl
 i53:=by kernel_rfl
 i171:=by kernel_rfl
 i173:=by kernel_rfl
 i212:=by kernel_rfl
 i232:=by kernel_rfl
 i233:=by kernel_rfl
 m17:=by kernel_rfl
 m18:=by kernel_rfl
 m19:=by kernel_rfl}
open Go.RowKit Go.Sort Go.Lib in
theorem Tryz.strconv_Itoa(n:Int)(h0: -9223372036854775808≤n)(h1:n≤9223372036854775807)(w:World)(ZD:Lib.TabIs Tryz.prog w "internal/strconv.uint64pow10" .u64 Lib.pow10Tab):
  Calls Tryz.prog 86 #[.int .i64 n] w fun e w'=>e= .returned (.string ⟨(Lib.itoa n).toArray⟩)/\ ∃k os,w'=grow (w.drewN k) os:=Any.strconv_Itoa Tryz.ZC n h0 h1 w ZD
def Tryz.ZE:Go.Shelf.Ren:=⟨fun|172=>207|244=>243|245=>244|247=>287|279=>288|280=>289|281=>290|282=>291|287=>321|316=>322|171=>86|205=>323|321=>338|322=>339|243=>154|246=>212|283=>246|284=>247|285=>248|286=>249|129=>293|317=>292|318=>294|319=>295|320=>296|337=>324|338=>325|n=>n,fun|9=>9|3=>3|75=>303|76=>304|4=>4|5=>5|167=>378|37=>53|0=>0|85=>379|2=>2|168=>381|53=>61|175=>417|46=>253|210=>421|127=>256|145=>439|143=>437|21=>21|171=>348|173=>351|212=>385|51=>26|20=>20|213=>386|232=>440|233=>441|80=>176|n=>n,fun|15=>4|16=>5|17=>1|18=>6|19=>7|n=>n⟩
theorem Tryz.Jy:Go.Proofs.LaysC.n172 Tryz.prog Tryz.ZE:={
 mixed:=by kernel_rfl
 f129:=zSq Tryz.func293
 f171:=zSq Tryz.func86
 f172:=zSq Tryz.func207
 f205:=zSq Tryz.func323
 f243:=zSq Tryz.func154
 f244:=zSq Tryz.func243
 f245:=zSq Tryz.func244
 f246:=zSq Tryz.func212
 f247:=zSq Tryz.func287
 f279:=zSq Tryz.func288
 f280:=zSq Tryz.func289
 f281:=zSq Tryz.func290
 f282:=zSq Tryz.func291
 f283:=zSq Tryz.func246
 f284:=zSq Tryz.func247
 f285:=zSq Tryz.func248
 f286:=zSq Tryz.func249
 f287:=zSq Tryz.func321
 f316:=zSq Tryz.func322
 f317:=zSq Tryz.func292
 f318:=zSq Tryz.func294
 f319:=zSq Tryz.func295
 f320:=zSq Tryz.func296
 f321:=zSq Tryz.func338
 f322:=zSq Tryz.func339
 f337:=zSq Tryz.func324
 f338:=zSq Tryz.func325
 t0:=Tryz.underlying0
 a0:=Tryz.isAgg0
 z0:=Tryz.sizeOf0
 v0:=Tryz.zeroValue0
 t2:=Tryz.underlying2
 a2:=Tryz.isAgg2
 z2:=Tryz.sizeOf2
 v2:=Tryz.zeroValue2
 t3:=Tryz.underlying3
 a3:=Tryz.isAgg3
 z3:=Tryz.sizeOf3
 v3:=Tryz.zeroValue3
 t4:=Tryz.underlying4
 a4:=Tryz.isAgg4
 z4:=Tryz.sizeOf4
 v4:=Tryz.zeroValue4
 t5:=Tryz.underlying5
 a5:=Tryz.isAgg5
 z5:=Tryz.sizeOf5
 v5:=Tryz.zeroValue5
 t9:=Tryz.underlying9
 a9:=Tryz.isAgg9
 z9:=Tryz.sizeOf9
 v9:=Tryz.zeroValue9
 t20:=Tryz.underlying20
 a20:=Tryz.isAgg20
 z20:=Tryz.sizeOf20
 v20:=Tryz.zeroValue20
 t21:=Tryz.underlying21
 a21:=Tryz.isAgg21
 z21:=Tryz.sizeOf21
 v21:=Tryz.zeroValue21
 t37:=Tryz.underlying53
 a37:=Tryz.isAgg53
 z37:=Tryz.sizeOf53
 v37:=Tryz.zeroValue53
 t46:=Tryz.underlying253
 a46:=Tryz.isAgg253
 z46:=Tryz.sizeOf253
 v46:=Tryz.zeroValue253
 t51:=Tryz.underlying26
 a51:=Tryz.isAgg26
 z51:=Tryz.sizeOf26
 v51:=Tryz.zeroValue26
 t53:=Tryz.underlying61
 a53:=Tryz.isAgg61
 z53:=Tryz.sizeOf61
 v53:=Tryz.zeroValue61
 t75:=Tryz.underlying303
 a75:=Tryz.isAgg303
 z75:=Tryz.sizeOf303
 v75:=Tryz.zeroValue303
 t76:=Tryz.underlying304
 a76:=Tryz.isAgg304
 z76:=Tryz.sizeOf304
 v76:=Tryz.zeroValue304
 t85:=Tryz.underlying379
 a85:=Tryz.isAgg379
 z85:=Tryz.sizeOf379
 v85:=Tryz.zeroValue379
 t127:=Tryz.underlying256
 a127:=Tryz.isAgg256
 z127:=Tryz.sizeOf256
 v127:=Tryz.zeroValue256
 t143:=Tryz.underlying437
 a143:=Tryz.isAgg437
 z143:=Tryz.sizeOf437
 v143:=Tryz.zeroValue437
 t145:=Tryz.underlying439
 a145:=Tryz.isAgg439
 z145:=Tryz.sizeOf439
 v145:=Tryz.zeroValue439
 t167:=Tryz.underlying378
 a167:=Tryz.isAgg378
 z167:=Tryz.sizeOf378
 v167:=Tryz.zeroValue378
 t168:=Tryz.underlying381
 a168:=Tryz.isAgg381
 z168:=Tryz.sizeOf381
 v168:=Tryz.zeroValue381
 t171:=Tryz.underlying348
 a171:=Tryz.isAgg348
 z171:=Tryz.sizeOf348
 v171:=Tryz.zeroValue348
 t173:=Tryz.underlying351
 a173:=Tryz.isAgg351
 z173:=Tryz.sizeOf351
 v173:=Tryz.zeroValue351
 t175:=Tryz.underlying417
 a175:=Tryz.isAgg417
 z175:=Tryz.sizeOf417
 v175:=Tryz.zeroValue417
 t210:=Tryz.underlying421
 a210:=Tryz.isAgg421
 z210:=Tryz.sizeOf421
 v210:=Tryz.zeroValue421
 t212:=Tryz.underlying385
 a212:=Tryz.isAgg385
 z212:=Tryz.sizeOf385
 v212:=Tryz.zeroValue385
 t213:=Tryz.underlying386
 a213:=Tryz.isAgg386
 z213:=Tryz.sizeOf386
 t232:=Tryz.underlying440
 a232:=Tryz.isAgg440
 z232:=Tryz.sizeOf440
 v232:=Tryz.zeroValue440
 t233:=Tryz.underlying441
 a233:=Tryz.isAgg441
 z233:=Tryz.sizeOf441
 v233:=Tryz.zeroValue441
 g15:=by kernel_rfl
 g16:=by kernel_rfl
 g17:=by kernel_rfl
 g18:=by kernel_rfl
 g19:=by kernel_rfl
 t80:=Tryz.underlying176
 a80:=Tryz.isAgg176
 z80:=Tryz.sizeOf176
 v80:=Tryz.zeroValue176
 i0:=by kernel_rfl
 i2:=by kernel_rfl
 i3:=by kernel_rfl
 i4:=by kernel_rfl
 i5:=by kernel_rfl
 i9:=by kernel_rfl
 i20:=by kernel_rfl
 i21:=by kernel_rfl
 i37:=by kernel_rfl
 i46:=by kernel_rfl
 i51:=by kernel_rfl
 i53:=by kernel_rfl
 i75:=by kernel_rfl
 i76:=by kernel_rfl
 i80:=by kernel_rfl
 i85:=by kernel_rfl
 i127:=by kernel_rfl
 i143:=by kernel_rfl
 i145:=by kernel_rfl
 i167:=by kernel_rfl
 i168:=by kernel_rfl
 i171:=by kernel_rfl
 i173:=by kernel_rfl
 i175:=by kernel_rfl
 i210:=by kernel_rfl
 i212:=by kernel_rfl
 i232:=by kernel_rfl
 i233:=by kernel_rfl
 m15:=by kernel_rfl
 m16:=by kernel_rfl
 m17:=by kernel_rfl
 m18:=by kernel_rfl
 m19:=by kernel_rfl
 c0:=by kernel_rfl
 c2:=by kernel_rfl
 c3:=by kernel_rfl
 c4:=by kernel_rfl
 c5:=by kernel_rfl
 c9:=by kernel_rfl
 c20:=by kernel_rfl
 c21:=by kernel_rfl
 c37:=by kernel_rfl
 c46:=by kernel_rfl
 c51:=by kernel_rfl
 c53:=by kernel_rfl
 c75:=by kernel_rfl
 c76:=by kernel_rfl
 c80:=by kernel_rfl
 c85:=by kernel_rfl
 c127:=by kernel_rfl
 c143:=by kernel_rfl
 c145:=by kernel_rfl
 c167:=by kernel_rfl
 c168:=by kernel_rfl
 c171:=by kernel_rfl
 c173:=by kernel_rfl
 c175:=by kernel_rfl
 c210:=by kernel_rfl
 c212:=by kernel_rfl
 c213:=by kernel_rfl
 c232:=by kernel_rfl
 c233:=by kernel_rfl}
open Go.RowKit in
theorem Tryz.strconv_Atoi_ok(s:ByteArray)(PC:s.size<=9223372036854775806)(v:Int)(h:Lib.atoiAll s.data.toList= .ok v)(w:World):
  Calls Tryz.prog 207 #[.string s] w fun e w'=>e= .returned (.tuple #[.int .i64 v, .nilIface])/\(w'=w\/ ∃t,w'=Lib.bytesWorld w 5 t):=Any.strconv_Atoi_ok Tryz.Jy s PC v h w
open Go.RowKit in
theorem Tryz.strconv_Atoi_syntax_var(s:ByteArray)(Jz:s.size≤281474976710656)(h:Lib.atoiAll s.data.toList=Lib.atoiAll [])(tp:TypeId)(p:Value)(w:World)(yL:w.var? Tryz.prog "strconv.ErrSyntax" =some #[.iface tp p]):
  Calls Tryz.prog 207 #[.string s] w fun e w'=> ∃N,e= .returned (.tuple #[.int .i64 0, .iface 381 (.pointer (some ⟨N,0,none⟩))])/\w.heap.size<=N/\w'.heap[N]? =some (.cells #[.string ⟨#[65,116,111,105]⟩, .string s, .iface tp p] 421 (0,0))/\Below w.heap.size w w':=Any.strconv_Atoi_syntax_var Tryz.Jy s Jz h tp p w yL
open Go.RowKit in
theorem Tryz.strconv_Atoi_range_var(s:ByteArray)(Jz:s.size≤281474976710656)(h:Lib.atoiAll s.data.toList= .range)(tp:TypeId)(p:Value)(w:World)(yL:w.var? Tryz.prog "strconv.ErrRange" =some #[.iface tp p]):
  Calls Tryz.prog 207 #[.string s] w fun e w'=> ∃N,e= .returned (.tuple #[.int .i64 (Lib.atoiSat s.data.toList), .iface 381 (.pointer (some ⟨N,0,none⟩))])/\w.heap.size<=N/\w'.heap[N]? =some (.cells #[.string ⟨#[65,116,111,105]⟩, .string s, .iface tp p] 421 (0,0))/\Below w.heap.size w w':=Any.strconv_Atoi_range_var Tryz.Jy s Jz h tp p w yL
def Tryz.aoY:Go.Shelf.Ren:=⟨fun|219=>231|217=>270|225=>271|224=>272|267=>273|266=>318|314=>319|n=>n,fun|9=>9|3=>3|4=>4|5=>5|46=>253|146=>411|51=>26|n=>n,fun|1=>0|n=>n⟩
def Tryz.ZF:Go.Shelf.Ren:=⟨fun|145=>115|220=>188|219=>231|217=>270|225=>271|224=>272|267=>273|266=>318|314=>319|n=>n,fun|9=>9|4=>4|59=>205|3=>3|5=>5|46=>253|146=>411|51=>26|n=>n,fun|1=>0|n=>n⟩
theorem Tryz.ZG:Go.Proofs.Lays.n145 Tryz.prog Tryz.ZF:={
 mixed:=by kernel_rfl
 f145:=zSq Tryz.func115
 f217:=zSq Tryz.func270
 f219:=zSq Tryz.func231
 f220:=zSq Tryz.func188
 f224:=zSq Tryz.func272
 f225:=zSq Tryz.func271
 f266:=zSq Tryz.func318
 f267:=zSq Tryz.func273
 f314:=zSq Tryz.func319
 t3:=Tryz.underlying3
 a3:=Tryz.isAgg3
 z3:=Tryz.sizeOf3
 v3:=Tryz.zeroValue3
 t4:=Tryz.underlying4
 a4:=Tryz.isAgg4
 z4:=Tryz.sizeOf4
 v4:=Tryz.zeroValue4
 t5:=Tryz.underlying5
 a5:=Tryz.isAgg5
 z5:=Tryz.sizeOf5
 v5:=Tryz.zeroValue5
 t9:=Tryz.underlying9
 a9:=Tryz.isAgg9
 z9:=Tryz.sizeOf9
 v9:=Tryz.zeroValue9
 t46:=Tryz.underlying253
 a46:=Tryz.isAgg253
 z46:=Tryz.sizeOf253
 v46:=Tryz.zeroValue253
 t51:=Tryz.underlying26
 a51:=Tryz.isAgg26
 z51:=Tryz.sizeOf26
 v51:=Tryz.zeroValue26
 t59:=Tryz.underlying205
 a59:=Tryz.isAgg205
 z59:=Tryz.sizeOf205
 v59:=Tryz.zeroValue205
 t146:=Tryz.underlying411
 a146:=Tryz.isAgg411
 z146:=Tryz.sizeOf411
 v146:=Tryz.zeroValue411
 g1:=by kernel_rfl}
open Go.RowKit Go.Lib in
theorem Tryz.strings_Cut(s sep:ByteArray)(m:Int)(w:World)(hs:s.size<4294967281)(hm:w.cell? ⟨0,0,none⟩=some (.int .i64 m)):
  Calls Tryz.prog 115 #[.string s, .string sep] w fun e w'=>e= .returned (.tuple #[.string ⟨(Lib.cut s.data.toList sep.data.toList).1.toArray⟩, .string ⟨(Lib.cut s.data.toList sep.data.toList).2.1.toArray⟩, .bool (Lib.cut s.data.toList sep.data.toList).2.2])/\ ∃n,w'=w.drewN n:=Any.strings_Cut Tryz.ZG s sep m w hs hm
def Tryz.aoZ:Go.Shelf.Ren:=⟨fun|221=>146|268=>204|138=>205|143=>206|195=>240|197=>241|218=>242|219=>231|260=>286|217=>270|225=>271|224=>272|267=>273|266=>318|314=>319|n=>n,fun|9=>9|3=>3|31=>155|4=>4|0=>0|105=>344|21=>21|5=>5|46=>253|119=>413|139=>416|138=>415|146=>411|51=>26|n=>n,fun|1=>0|3=>2|4=>3|n=>n⟩
def Tryz.ZH:Go.Shelf.Ren:=⟨fun|146=>78|221=>146|268=>204|138=>205|143=>206|195=>240|197=>241|218=>242|219=>231|260=>286|217=>270|225=>271|224=>272|267=>273|266=>318|314=>319|n=>n,fun|9=>9|31=>155|3=>3|4=>4|0=>0|105=>344|21=>21|5=>5|46=>253|119=>413|139=>416|138=>415|146=>411|51=>26|n=>n,fun|1=>0|3=>2|4=>3|n=>n⟩
theorem Tryz.ZI:Go.Proofs.Lays.n146 Tryz.prog Tryz.ZH:={
 mixed:=by kernel_rfl
 f138:=zSq Tryz.func205
 f143:=zSq Tryz.func206
 f146:=zSq Tryz.func78
 f195:=zSq Tryz.func240
 f197:=zSq Tryz.func241
 f217:=zSq Tryz.func270
 f218:=zSq Tryz.func242
 f219:=zSq Tryz.func231
 f221:=zSq Tryz.func146
 f224:=zSq Tryz.func272
 f225:=zSq Tryz.func271
 f260:=zSq Tryz.func286
 f266:=zSq Tryz.func318
 f267:=zSq Tryz.func273
 f268:=zSq Tryz.func204
 f314:=zSq Tryz.func319
 t0:=Tryz.underlying0
 a0:=Tryz.isAgg0
 z0:=Tryz.sizeOf0
 v0:=Tryz.zeroValue0
 t3:=Tryz.underlying3
 a3:=Tryz.isAgg3
 z3:=Tryz.sizeOf3
 v3:=Tryz.zeroValue3
 t4:=Tryz.underlying4
 a4:=Tryz.isAgg4
 z4:=Tryz.sizeOf4
 v4:=Tryz.zeroValue4
 t5:=Tryz.underlying5
 a5:=Tryz.isAgg5
 z5:=Tryz.sizeOf5
 v5:=Tryz.zeroValue5
 t9:=Tryz.underlying9
 a9:=Tryz.isAgg9
 z9:=Tryz.sizeOf9
 v9:=Tryz.zeroValue9
 t21:=Tryz.underlying21
 a21:=Tryz.isAgg21
 z21:=Tryz.sizeOf21
 v21:=Tryz.zeroValue21
 t31:=Tryz.underlying155
 a31:=Tryz.isAgg155
 z31:=Tryz.sizeOf155
 v31:=Tryz.zeroValue155
 t46:=Tryz.underlying253
 a46:=Tryz.isAgg253
 z46:=Tryz.sizeOf253
 v46:=Tryz.zeroValue253
 t51:=Tryz.underlying26
 a51:=Tryz.isAgg26
 z51:=Tryz.sizeOf26
 v51:=Tryz.zeroValue26
 t105:=Tryz.underlying344
 a105:=Tryz.isAgg344
 z105:=Tryz.sizeOf344
 v105:=Tryz.zeroValue344
 t119:=Tryz.underlying413
 a119:=Tryz.isAgg413
 z119:=Tryz.sizeOf413
 t138:=Tryz.underlying415
 a138:=Tryz.isAgg415
 z138:=Tryz.sizeOf415
 v138:=Tryz.zeroValue415
 t139:=Tryz.underlying416
 a139:=Tryz.isAgg416
 z139:=Tryz.sizeOf416
 v139:=Tryz.zeroValue416
 t146:=Tryz.underlying411
 a146:=Tryz.isAgg411
 z146:=Tryz.sizeOf411
 v146:=Tryz.zeroValue411
 g1:=by kernel_rfl
 g3:=by kernel_rfl
 g4:=by kernel_rfl}
open Go.RowKit Go.Lib in
theorem Tryz.strings_Split(s sep:ByteArray)(m:Int)(w:World)(hs:s.size<4294967281)(hm:w.cell? ⟨0,0,none⟩=some (.int .i64 m))(h1:1<=sep.size):
  Calls Tryz.prog 78 #[.string s, .string sep] w fun e w'=>
   e= .returned (.slice (some ⟨w.heap.size,0,none⟩) (Lib.countB s sep+1) (Lib.countB s sep+1))/\w'=w.alloc (.cells ((Lib.splitB sep 0 (Lib.countB s sep) s).map Value.string).toArray 9):=Any.strings_Split Tryz.ZI (by kernel_rfl) s sep m w hs hm h1
def Tryz.ZJ:Go.Shelf.Ren:=⟨fun|146=>78|221=>146|268=>204|138=>205|143=>206|195=>240|197=>241|218=>242|219=>231|260=>286|217=>270|225=>271|224=>272|267=>273|266=>318|314=>319|n=>n,fun|9=>9|31=>155|3=>3|4=>4|0=>0|105=>344|21=>21|5=>5|46=>253|119=>413|139=>416|138=>415|146=>411|51=>26|n=>n,fun|1=>0|3=>2|4=>3|n=>n⟩
theorem Tryz.ZK:Go.Proofs.LaysM.n146 Tryz.prog Tryz.ZJ:={
 mixed:=by kernel_rfl
 f138:=zSq Tryz.func205
 f143:=zSq Tryz.func206
 f146:=zSq Tryz.func78
 f195:=zSq Tryz.func240
 f197:=zSq Tryz.func241
 f217:=zSq Tryz.func270
 f218:=zSq Tryz.func242
 f219:=zSq Tryz.func231
 f221:=zSq Tryz.func146
 f224:=zSq Tryz.func272
 f225:=zSq Tryz.func271
 f260:=zSq Tryz.func286
 f266:=zSq Tryz.func318
 f267:=zSq Tryz.func273
 f268:=zSq Tryz.func204
 f314:=zSq Tryz.func319
 t0:=Tryz.underlying0
 a0:=Tryz.isAgg0
 z0:=Tryz.sizeOf0
 v0:=Tryz.zeroValue0
 t3:=Tryz.underlying3
 a3:=Tryz.isAgg3
 z3:=Tryz.sizeOf3
 v3:=Tryz.zeroValue3
 t4:=Tryz.underlying4
 a4:=Tryz.isAgg4
 z4:=Tryz.sizeOf4
 v4:=Tryz.zeroValue4
 t5:=Tryz.underlying5
 a5:=Tryz.isAgg5
 z5:=Tryz.sizeOf5
 v5:=Tryz.zeroValue5
 t9:=Tryz.underlying9
 a9:=Tryz.isAgg9
 z9:=Tryz.sizeOf9
 v9:=Tryz.zeroValue9
 t21:=Tryz.underlying21
 a21:=Tryz.isAgg21
 z21:=Tryz.sizeOf21
 v21:=Tryz.zeroValue21
 t31:=Tryz.underlying155
 a31:=Tryz.isAgg155
 z31:=Tryz.sizeOf155
 v31:=Tryz.zeroValue155
 t46:=Tryz.underlying253
 a46:=Tryz.isAgg253
 z46:=Tryz.sizeOf253
 v46:=Tryz.zeroValue253
 t51:=Tryz.underlying26
 a51:=Tryz.isAgg26
 z51:=Tryz.sizeOf26
 v51:=Tryz.zeroValue26
 t105:=Tryz.underlying344
 a105:=Tryz.isAgg344
 z105:=Tryz.sizeOf344
 v105:=Tryz.zeroValue344
 t119:=Tryz.underlying413
 a119:=Tryz.isAgg413
 z119:=Tryz.sizeOf413
 t138:=Tryz.underlying415
 a138:=Tryz.isAgg415
 z138:=Tryz.sizeOf415
 v138:=Tryz.zeroValue415
 t139:=Tryz.underlying416
 a139:=Tryz.isAgg416
 z139:=Tryz.sizeOf416
 v139:=Tryz.zeroValue416
 t146:=Tryz.underlying411
 a146:=Tryz.isAgg411
 z146:=Tryz.sizeOf411
 v146:=Tryz.zeroValue411
 g1:=by kernel_rfl
 g3:=by kernel_rfl
 g4:=by kernel_rfl
 i0:=by kernel_rfl
 i3:=by kernel_rfl
 i4:=by kernel_rfl
 i5:=by kernel_rfl
 i9:=by kernel_rfl
 i21:=by kernel_rfl
 i31:=by kernel_rfl
 i46:=by kernel_rfl
 i51:=by kernel_rfl
 i105:=by kernel_rfl
 i138:=by kernel_rfl
 i139:=by kernel_rfl
 i146:=by kernel_rfl
 m1:=by kernel_rfl
 s1_3:=fun w h=>Go.Proofs.cell_of_shapedOpen_int (zero:= #[.int .i64 0]) (t:=3) h (of_decide_eq_true (by kernel_rfl)) (by kernel_rfl) rfl (by kernel_rfl) (by kernel_rfl) Tryz.underlying3
 m3:=by kernel_rfl
 m4:=by kernel_rfl}
end Go.Proofs
namespace Go.Proofs.YtkggjjnhnjjokaaGreatDoor
open Go.ax Go.Kb Go.RowKit
class Tabs(w:World):Prop where
 pow:Lib.TabIs Tryz.prog w "internal/strconv.uint64pow10" .u64 Lib.pow10Tab
 len: ∃m,w.cell? ⟨0,0,none⟩=some (.int .i64 m)
theorem Tabs.at{w0 w:World}{L:List ai}(t:Tabs w0)(h:Mem w0 L w):Tabs w:=by
 obtain⟨m,hm⟩:=t.len;have h0:(0:Nat)<w0.heap.size:=by
  rcases atA 0 w0.heap.size with q|q
  ·
   exact q
  rw[World.cell?]at hm;rw[atQ (show w0.heap.size<=(⟨0,0,none⟩:Addr).block by exact q)]at hm;simp at hm
 refine⟨?_,m,?_⟩
 ·
  have hv:=t.pow;unfold Lib.TabIs World.var? at hv⊢
  cases hg:Tryz.prog.globalNamed "internal/strconv.uint64pow10" with
  |none=>rw[hg]at hv;cases hv
  |some g=>
  simp only[hg,av8]at hv⊢;have JA:g<w0.heap.size:=by
   rcases atA g w0.heap.size with q|q
   ·
    exact q
   rw[atQ q]at hv;cases hv
  rw[h.below.block g JA];exact hv
 rw[h.below.cell h0];exact hm
class ug(w:World):Prop where
 len: ∃m,w.cell? ⟨0,0,none⟩=some (.int .i64 m)
instance {w:World}[t:Tabs w]:ug w:=⟨t.len⟩
theorem ug.at{w0 w:World}{L:List ai}(t:ug w0)(h:Mem w0 L w):ug w:=by
 obtain⟨m,hm⟩:=t.len;have h0:(0:Nat)<w0.heap.size:=by
  rcases atA 0 w0.heap.size with q|q
  ·
   exact q
  rw[World.cell?]at hm;rw[atQ (show w0.heap.size<=(⟨0,0,none⟩:Addr).block by exact q)]at hm;simp at hm
 exact⟨m,by rw[h.below.cell h0];exact hm⟩
theorem PD(n:Nat):Lib.itoa (n:Int)=dec n:=by
 rw[Lib.itoa,if_neg (by omega),auy];rfl
variable {w0:World}{L:List ai}
theorem PE[t:Tabs w0](n:Nat)(h:n<9223372036854775808)(w:World)(hw:Mem w0 L w):Calls Tryz.prog 86 #[.int .i64 (n:Nat)] w fun e w'=>e= .returned (.string ⟨(dec n).toArray⟩)/\Mem w [] w':=by
 refine(Tryz.strconv_Itoa (n:Int) (by omega) (by omega) w (t.at hw).pow).mono ?_;rintro e w' ⟨he,k,os,rfl⟩;rw[PD]at he;exact⟨he, .BP ⟨rfl,rfl,rfl,by show w.heap.size<=(w.heap++os).size;rw[aud];omega,fun j hj=>by show(w.heap++os)[j]? =w.heap[j]?;exact auk hj⟩⟩
instance[t:Tabs w0](n:Nat):bU Tryz.prog 86 w0 L [.int .i64 (n:Nat)] (.string ⟨(dec n).toArray⟩) (n<9223372036854775808):=⟨fun h w hw=>PE n h w hw⟩
instance (priority:=low)[t:Tabs w0](z:Int):bU Tryz.prog 86 w0 L [.int .i64 z] (.string ⟨(dec z.toNat).toArray⟩) (0<=z/\z<9223372036854775808):=⟨fun h w hw=>by
 have:=PE z.toNat (by omega) w hw;rwa [aun h.1]at this⟩
instance{s:Sv}{xs:List aH}[q:Hd w0 L s mw 1 xs](sep:aH):bU Tryz.prog 178 w0 L [s.val, .string ⟨sep.toArray⟩] (.string ⟨(uf sep xs).toArray⟩) (xs≠[]/\(uf sep xs).length<=140737488355328):=⟨fun hp w hw=>by
 have r:=q.h w hw;have hx:0<xs.length:=auV.2 hp.1;have ft:=r.ok.sp (by have:=r.len;have:=r.ok.le;omega);have e1:(xs.map fun x=>(⟨x.toArray⟩:ByteArray)).map (·.data.toList)=xs:=by
  rw[avV];exact(auw (fun x _=>by simp)).trans (List.map_id xs)
 have el:(xs.map fun x=>(⟨x.toArray⟩:ByteArray)).length=xs.length:=by simp
 have hc: ∀(j:Nat) x,(xs.map fun x=>(⟨x.toArray⟩:ByteArray))[j]? =some x->w.cell? ⟨s.b,s.o+j,none⟩=some (.string x):=by
  intro j x hj;rw[atx]at hj;obtain⟨y,hy,rfl⟩:=au1.1 hj;have:=r.row j y hy 0 (by decide);simp only[avy,auH]at this;rw[rH,this];rfl
 have hb:s.b<w.heap.size:=by
  rcases atA s.b w.heap.size with h|h
  ·
   exact h
  have:=hc 0 _ (by rw[atx,atp hx];rfl);rw[World.cell?,atQ (show w.heap.size<=(⟨s.b,s.o+0,none⟩:Addr).block by exact h)]at this;simp at this
 have hj:=Tryz.strings_Join s.b s.o s.cap (xs.map fun x=>(⟨x.toArray⟩:ByteArray)) ⟨sep.toArray⟩ w hc hb (by rw[el];exact r.bd) (by rw[el];have:=r.len;have:=r.ok.le;omega) (by rw[e1];exact hp.2);rw[el]at hj;rw[Sv.iA (r.some hx),ft,r.len];refine hj.mono ?_;rintro e w' ⟨he,mu⟩;rw[e1]at he;exact⟨he, .BP mu⟩⟩
instance[t:ug w0](s:aH)(c:UInt8):bU Tryz.prog 115 w0 L [.string ⟨s.toArray⟩, .string ⟨[c].toArray⟩] (.tuple #[.string ⟨(aK c s).1.toArray⟩, .string ⟨(aK c s).2.1.toArray⟩, .bool (aK c s).2.2]) (s.length<4294967281):=⟨fun h w hw=>by
 obtain⟨m,hm⟩:=(t.at hw).len;refine(Tryz.strings_Cut ⟨s.toArray⟩ ⟨[c].toArray⟩ m w (by rw[sJ];exact h) hm).mono ?_;rintro e w' ⟨he,n,rfl⟩;exact⟨he, .BP ⟨rfl,rfl,rfl,att _,fun _ _=>rfl⟩⟩⟩
instance(s:aH)(c:UInt8):bU Tryz.prog 245 w0 L [.string ⟨s.toArray⟩, .int .u8 (c.toNat:Nat)] (.int .i64 (Lib.indexByte s c)) True:=⟨fun _ w hw=>by
 refine(Tryz.strings_IndexByte ⟨s.toArray⟩ c.toNat w).mono ?_;rintro e w' ⟨he,rfl⟩;have e1:((c.toNat:Int)).toNat.toUInt8=c:=by simp
 rw[e1]at he;exact⟨he, .init _⟩⟩
instance[t:ug w0](s:aH)(c:UInt8):bV Tryz.prog 78 w0 L [.string ⟨s.toArray⟩, .string ⟨[c].toArray⟩] Nat (fun b=>(⟨false,b,0,(ba c s).length,(ba c s).length,none⟩:Sv).val) (fun b=>own mw 1 ⟨false,b,0,(ba c s).length,(ba c s).length,none⟩ (ba c s)::L) (fun _=>True) (s.length<4294967281):=⟨fun h w hw=>by
 obtain⟨m,hm⟩:=(t.at hw).len;have hs:(⟨s.toArray⟩:ByteArray).size<4294967281:=by rw[sJ];exact h
 have e0:(Lib.splitB ⟨[c].toArray⟩ 0 (Lib.countB ⟨s.toArray⟩ ⟨[c].toArray⟩) ⟨s.toArray⟩).map (·.data.toList)=ba c s:=O1 c s.length ⟨s.toArray⟩ (by rw[sJ];exact att _);have el:(ba c s).length=Lib.countB ⟨s.toArray⟩ ⟨[c].toArray⟩+1:=by
  exact(YV c ⟨s.toArray⟩).symm
 have hlen:(ba c s).length<=140737488355328:=by have:=Jn c s;omega
 refine(Tryz.strings_Split ⟨s.toArray⟩ ⟨[c].toArray⟩ m w hs hm (att 1)).mono ?_;rintro e w' ⟨he,rfl⟩;refine⟨w.heap.size,by rw[he,el];rfl,trivial,hw.call (E:=[_]) (wT (enc:=mw) (c:=1) (xs:=ba c s) rfl _ _ rfl (att _) hlen ?_ fun i x hx j hj=>?_)⟩
 ·
  have:=congrArg List.length e0;rw[atM]at this;simp[this]
 obtain rfl:j=0:=by omega
 rw[←e0,atx]at hx;obtain⟨y,hy,rfl⟩:=au1.1 hx;simp only[avy,auH,auT,atx,hy,at3,mw];rw[←YT y];rfl⟩
end Go.Proofs.YtkggjjnhnjjokaaGreatDoor
namespace Go.Kb
open Go.ax
structure It where
 id:Int
 body:Sl UInt8
def qf(x:It):Array Value:= #[.int .i64 x.id,x.body.sv.val]
instance:bp qf 2:=⟨fun _=>rfl,fun x=>by
 have h1:(Value.int .i64 x.id).oneCell'=true:=rfl;simp only[qf,avc,avl,avw,Sv.one,h1,au4]⟩
instance (x:It):bQ (qf x) 0 (.int .i64 x.id):=⟨rfl⟩
instance (x:It):bQ (qf x) 1 x.body.sv.val:=⟨rfl⟩
instance:Deep It where
 c:=2
 cells:=qf
 size:=bp.size
 one:=bp.one
 cK h x:=Deep.cK h x.body
 cz x:=Deep.cz x.body
 jA h x hs:=Deep.jA h x.body hs
 mono w w' x:=Deep.mono w w' x.body
instance:gD It qf 2:=⟨rfl,fun _=>rfl⟩
variable {w0:World}{L:List ai}
instance{x:It}[q:aX w0 L x]:aX w0 L x.body:=⟨q.h⟩
instance {L R:List ai}{i:Int}{b:Sl UInt8}[k:Take L b R]:Take L (It.mk i b) R:=⟨k.h⟩
def Aj(a:Sl It):List (Int×List UInt8):=a.xs.map fun x=>(x.id,x.body.xs)
end Go.Kb
namespace Go.ax
structure pv where
 X:Type
 v:X->Value
 e:X->ai
section
variable {P:Program} {l:List Oper} {Q:Exit->Act->World->Prop} {fs:List Nat} {mk:Nat->pv} {w0:World}
def vC(P:Program)(o:Oper)(ρ:Operand->Value)(m:pv):Prop:= ∀(w0 w:World) (L:List ai),Mem w0 L w-> ∃(x:m.X) (w':World),(execOp ρ o).run P w= .ok (.value (m.v x)) w'/\Mem w0 (m.e x::L) w'
def upon(P:Program)(w:World)(R:Value->World->Prop):Result Next->Prop
 | .ok (.value v) w'=>R v w'
 | .ok .skip w'=>R undef w'
 | .ok (.enter f args) w'=>w'=w/\Calls P f args w fun e qM=> ∃v,e= .returned v/\R v qM
 |_=>False
def sP(P:Program)(l:List Oper)(fs:List Nat)(mk:Nat->pv)(Q:Exit->Act->World->Prop)(w0:World):List Nat->Act->List ai->List ai->Prop
 |[],af,L,_=> ∀w,Mem w0 L w->Q .normal af w
 |k::ord,af,L,Lq=> ∃o,l[k]? =some o/\(if fs.contains k=true then(∀i∈ord,fs.contains (i+2000)=true-> ∃oi,l[i]? =some oi/\oi.guard=none/\vC P oi af.eval (mk i))/\(if fs.contains (k+2000)=true then
  o.guard=none/\vC P o af.eval (mk k)/\ ∀x:(mk k).X,sP P l fs mk Q w0 ord (af.put o.dst ((mk k).v x)) ((mk k).e x::L) Lq
  else
   Region.wanted o (yielded l.toArray af.tmps)=true/\(∀w,Mem w0 L w->upon P w (fun v w'=> ∃L' gO,Mem w0 L' w'/\(∀w,Mem w0 L' w->Mem w0 gO w)/\(∀w,Mem w0 gO w->Mem w0 Lq w)/\(fs.contains (k+5000)=true-> ∀w,Mem w0 L' w->Mem w0 L w)/\sP P l fs mk Q w0 ord (af.put o.dst v) L' gO) ((execOp af.eval o).run P w))/\
   (fs.contains (k+4000)=true-> ∀e w,Mem w0 (e::L) w->upon P w (fun v w'=> ∃L' gO,Mem w0 (e::L') w'/\(∀w,Mem w0 L' w->Mem w0 gO w)/\(∀w,Mem w0 gO w->Mem w0 Lq w)/\(fs.contains (k+5000)=true-> ∀w,Mem w0 L' w->Mem w0 L w)/\sP P l fs mk Q w0 ord (af.put o.dst v) L' gO) ((execOp af.eval o).run P w)))
  else∃v,(Region.wanted o (yielded l.toArray af.tmps)=true->vh P o af (Mem w0 (if fs.contains (k+1000)=true then L else Lq)) v)/\(Region.wanted o (yielded l.toArray af.tmps)=false->v=undef)/\sP P l fs mk Q w0 ord (af.put o.dst v) L Lq)
def CB(o:Oper):List Nat:=(o.after.toList.filter fun e=>Region.binds .any e).map (·.on)
def JB(l:List Oper)(fs:List Nat)(A:List (List Nat))(prev seen:List Nat)(k:Nat)(o:Oper):Bool:=
 (!fs.contains k||fs.contains (k+2000)||fs.contains (k+5000)||(prev.all fun j=> !fs.contains (j+1000)||(A.getD k []).contains j))&&
 (match o.op with| .select .. =>false|_=>true)&&
 ((CB o).all fun j=>decide (j<k))&&
 (fs.contains (k+2000)||seen.all fun f=>(A.getD k []).contains f)&&
 ((A.getD k []).all fun f=>(CB o).any fun j=>j==f||(A.getD j []).contains f)&&
 ((List.range l.length).all fun j=>match dX l j with
  |none=>true
  |some d=>(!(o.looksAt l.toArray).contains d||(prev.contains j&&(CB o).contains j&&(!fs.contains (k+2000)|| !fs.contains j)))&&(j==k||o.dst !=some d))
def vD(l:List Oper)(fs:List Nat)(A:List (List Nat)):List Nat->List Nat->List Nat->Bool
 |_,_,[]=>true
 |prev,seen,k::ord=>(match l[k]?with|none=>false|some o=>JB l fs A prev seen k o)&&(!fs.contains k||fs.contains (k+2000)||(ord.all fun j=> !fs.contains (j+2000))||(fs.contains (k+4000)&&decide ((ord.filter fun j=>fs.contains (j+2000)).length<=1)))&&vD l fs A (k::prev) (if fs.contains k then k::seen else seen) ord
def FC(l:List Oper)(fs:List Nat)(A:List (List Nat))(ord:List Nat):Bool:=
 ((List.range l.length).all fun j=>ord.contains j)&&decide ord.Nodup&&(ord.all fun j=>decide (j<l.length))&&(fs.all fun j=>decide (j<2000))&&vD l fs A [] [] ord
def FD(l:List Oper)(fs:List Nat)(A:List (List Nat))(ord:List Nat):Bool:=
 ((List.range l.length).all fun j=>ord.contains j)&&decide ord.Nodup&&(ord.all fun j=>decide (j<l.length))&&vD l fs A [] [] ord
structure JC(l:List Oper)(fs:List Nat)(A:List (List Nat))(prev seen:List Nat)(k:Nat)(o:Oper):Prop where
 tmp:fs.contains k=true->fs.contains (k+2000)=false->fs.contains (k+5000)=false-> ∀j∈prev,fs.contains (j+1000)=true->j∈A.getD k []
 wG: ∀cs b,o.op≠ .select cs b
 back: ∀e∈o.after,Region.binds .any e=true->e.on<k
 ZL:fs.contains (k+2000)=false-> ∀f∈seen,f∈A.getD k []
 cert: ∀f∈A.getD k [],∃e∈o.after,Region.binds .any e=true/\(e.on=f\/f∈A.getD e.on [])
 reads: ∀j d,j<l.length->dX l j=some d->d∈o.looksAt l.toArray->j∈prev/\ ∃e∈o.after,Region.binds .any e=true/\e.on=j
 one: ∀j d,j<l.length->dX l j=some d->j≠k->o.dst≠some d
 ZM:fs.contains (k+2000)=true-> ∀j d,j<l.length->dX l j=some d->d∈o.looksAt l.toArray->fs.contains j=false
theorem JD{o:Oper}{j:Nat}:j∈CB o↔ ∃e∈o.after,Region.binds .any e=true/\e.on=j:=by
 unfold CB;simp only[auq,atY];constructor
 ·
  rintro⟨e,⟨h1,h2⟩,h3⟩;exact⟨e,by simpa using h1,h2,h3⟩
 rintro⟨e,h1,h2,h3⟩;exact⟨e,⟨by simpa using h1,h2⟩,h3⟩
theorem ZN{A:List (List Nat)}{prev seen:List Nat}{k:Nat}{o:Oper}(h:JB l fs A prev seen k o=true):JC l fs A prev seen k o:=by
 simp only[JB,ad2]at h;obtain⟨⟨⟨⟨⟨h0,h1⟩,h2⟩,h3⟩,h4⟩,h5⟩:=h;refine⟨fun hk oh ZO j hj ht=>by
  rw[hk,oh,ZO,Bool.not_true,awd,awd,awd]at h0;have:=aty.1 h0 j hj;rw[ht]at this;simpa using this,fun cs b e=>by rw[e]at h1;simp at h1,fun e he hb=>?_,fun dE f hf=>?_,fun f hf=>?_,fun j d hj hd hl=>?_,fun j d hj hd cd=>?_,fun hk j d hj hd hl=>?_⟩
 ·
  have:=aty.1 h2 e.on (JD.2 ⟨e,he,hb,rfl⟩);simpa using this
 ·
  rw[dE,awd]at h3;have:=aty.1 h3 f hf;simpa using this
 ·
  have:=aty.1 h4 f hf;obtain⟨j,hj,dD⟩:=List.any_eq_true.1 this;obtain⟨e,he,hb,rfl⟩:=JD.1 hj;exact⟨e,he,hb,by simpa using dD⟩
 ·
  have:=aty.1 h5 j (atX.2 hj);rw[hd]at this;simp only[ad2,auA,aus]at this;rcases this.1 with h6|h6
  ·
   exact absurd hl (by simpa using h6)
  exact⟨by simpa using h6.1.1,JD.1 (by simpa using h6.1.2)⟩
 ·
  have:=aty.1 h5 j (atX.2 hj);rw[hd]at this;simp only[ad2,auA,beq_iff_eq]at this;rcases this.2 with h6|h6
  ·
   exact absurd h6 cd
  simpa using h6
 have:=aty.1 h5 j (atX.2 hj);rw[hd]at this;simp only[ad2,auA,aus]at this;rcases this.1 with h6|h6
 ·
  exact absurd hl (by simpa using h6)
 rcases h6.2 with h7|h7
 ·
  rw[hk]at h7;cases h7
 exact h7
theorem wZ{A:List (List Nat)}: ∀(ord prev seen:List Nat),vD l fs A prev seen ord=true-> ∀(x:List Nat) (k:Nat) (y:List Nat),ord=x++k::y->
  ∃o,l[k]? =some o/\JC l fs A (x.reverse++prev) ((x.filter fun j=>fs.contains j).reverse++seen) k o/\(fs.contains k=true->fs.contains (k+2000)=false->(∀j∈y,fs.contains (j+2000)=false)\/(fs.contains (k+4000)=true/\(y.filter fun j=>fs.contains (j+2000)).length<=1))
 |[],_,_,_,x,k,y,e=>by simp at e
 |k0::ord,prev,seen,h,x,k,y,e=>by
  simp only[vD,ad2]at h
  cases x with
  |nil=>
   simp only[aug,avZ]at e;obtain⟨rfl,rfl⟩:=e
   cases ho:l[k0]?with
   |none=>rw[ho]at h;simp at h
   |some o=>
    rw[ho]at h;refine⟨o,rfl,by simpa using ZN h.1.1,fun h1 h2=>?_⟩;have h3:=h.1.2;rw[h1,h2]at h3;simp only[Bool.not_true,awd,auA,ad2,decide_eq_true_eq]at h3;refine h3.imp (fun h4 j hj=>?_) id;have:=aty.1 h4 j hj;simpa using this
  |cons x0 x=>
   simp only[auL,avZ]at e;obtain⟨rfl,rfl⟩:=e;obtain⟨o,ho,hk,hy⟩:=wZ _ _ _ h.2 x k y rfl;refine⟨o,ho,?_,hy⟩;have e1:(k0::x).reverse++prev=x.reverse++(k0::prev):=by simp
   have e2:(((k0::x).filter fun j=>fs.contains j).reverse++seen)=(x.filter fun j=>fs.contains j).reverse++(if fs.contains k0 then k0::seen else seen):=by
    cases hc:fs.contains k0 with
    |true=>
     rw[auu,if_pos hc,List.reverse_cons,atw];rfl
    |false=>
     rw[auu,if_neg (by rw[hc];exact auB)];rfl
   rw[e1,e2];exact hk
def qg(N0 d:Nat)(v:Value)(a:Act):Prop:=a.tmps[d]? =if d<N0 then some v else none
theorem Ak{N0 d:Nat}{v:Value}{a:Act}(h:a.tmps.size=N0):qg N0 d v (a.put (some d) v):=by
 subst h;unfold qg;simp[Act.put,aub]
def JE(P:Program)(l:List Oper)(w0:World)(N0 k:Nat)(af:Act)(Lq:List ai):Prop:=
 ∃o v,l[k]? =some o/\(∀d,o.dst=some d->qg N0 d v af)/\(Region.wanted o (yielded l.toArray af.tmps)=true->vh P o af (Mem w0 Lq) v)/\(Region.wanted o (yielded l.toArray af.tmps)=false->v=undef)
def Early(l:List Oper)(fs:List Nat)(mk:Nat->pv)(N0:Nat)(iv:List Nat)(listed:Array Bool)(a:Act)(e:Nat×ai):Prop:=
 e.1∈iv/\listed.getD e.1 true=true/\fs.contains e.1=true/\fs.contains (e.1+2000)=true/\ ∃o,∃x:(mk e.1).X,l[e.1]? =some o/\e.2=(mk e.1).e x/\ ∀d,o.dst=some d->qg N0 d ((mk e.1).v x) a
structure Core(P:Program)(l:List Oper)(fs:List Nat)(mk:Nat->pv)(Q:Exit->Act->World->Prop)(w0:World)(ord:List Nat)(a0:Act)(pre iv:List Nat)(af:Act)(L Lq:List ai)(E:List (Nat×ai))(listed:Array Bool)(a:Act)(w:World):Prop where
 ord:ord=pre++iv
 inv:HeadInv .any l.toArray l.length listed
 mem:Mem w0 (E.map (·.2)++L) w
 qT: ∀e∈E,Early l fs mk a0.tmps.size iv listed a e
 keys:(E.map (·.1)).Nodup
 Al: ∀w,Mem w0 L w->Mem w0 Lq w
 yM:sP P l fs mk Q w0 iv af L Lq
 size:a.tmps.size=a0.tmps.size
 rB:af.tmps.size=a0.tmps.size
 defers:a.defers=a0.defers
 tO:af.defers=a0.defers
 sub: ∀j,j<l.length->listed.getD j true=true->j∈pre\/j∈E.map (·.1)
 fresh: ∀j∈pre,fs.contains j=true->listed.getD j true=true
 w7: ∀j∈pre,listed.getD j true=false->JE P l w0 a0.tmps.size j af (if fs.contains (j+1000)=true then L else Lq)
 done: ∀j d,j<l.length->listed.getD j true=true->j∈pre->dX l j=some d->a.tmps[d]? =af.tmps[d]?
 rest: ∀d,(∀j,j<l.length->listed.getD j true=true->dX l j≠some d)->a.tmps[d]? =a0.tmps[d]?
 full: ∀d,(∀j∈pre,dX l j≠some d)->af.tmps[d]? =a0.tmps[d]?
variable {A:List (List Nat)} {ord:List Nat} {a0:Act}
theorem CC{o:Oper}(hn: ∀cs b,o.op≠ .select cs b){a b:Act}(h: ∀t∈o.looksAt l.toArray,a.tmps[t]? =b.tmps[t]?):
  execOp a.eval o=execOp b.eval o/\Region.wanted o (yielded l.toArray a.tmps)=Region.wanted o (yielded l.toArray b.tmps):=
 ⟨execOp_congr o hn (IG h),N5 h⟩
theorem PF{o:Oper}{a b:Act}{C D:World->Prop}{v:Value}(e:execOp a.eval o=execOp b.eval o)(hD: ∀w,D w->C w)(h:vh P o a C v):vh P o b D v:=fun w hw=>by
 have:=h w (hD w hw);unfold Oper.quietAt at this⊢;rw[←e];exact this
theorem Am{pre iv:List Nat}{i k N0:Nat}{af:Act}{Lq gO:List ai}{oi:Oper}{u:Value}(hB:vD l fs A [] [] ord=true)(cI:ord.Nodup)(bn: ∀j∈ord,j<l.length)(ho:ord=pre++i::iv)(yn:l[i]? =some oi)(hk:k∈pre)(hq: ∀w,Mem w0 gO w->Mem w0 Lq w)
  (h:JE P l w0 N0 k af Lq):JE P l w0 N0 k (af.put oi.dst u) gO:=by
 obtain⟨o,v,h1,h2,h3,h4⟩:=h;obtain⟨x,y,rfl⟩:=avI hk;have qc:ord=x++k::(y++i::iv):=by rw[ho];simp
 obtain⟨o',qh,bN,-⟩:=wZ ord [] [] hB x k _ qc;have:o'=o:=by rw[h1]at qh;exact(atl qh).symm
 subst this;have fg:i<l.length:=(zz.1 yn).1;have lM:dX l i=oi.dst:=by simp[dX,yn]
 have ov:i≠k:=fun e=>by
  subst e;rw[qc]at cI;have:=(avd.1 cI).2.1;exact(avA.1 this).1 (by simp)
 have PG:i∉x:=fun hx=>by
  rw[qc]at cI;exact(avd.1 cI).2.2 i hx i (by simp) rfl
 have JF: ∀t∈o'.looksAt l.toArray,af.tmps[t]? =(af.put oi.dst u).tmps[t]? :=fun t ht=>by
  refine(ka _ _ _ _ fun e=>?_).symm;obtain⟨hp,_⟩:=bN.reads i t fg (by rw[lM];exact e) ht;rw[auh,awm]at hp;exact PG hp
 obtain⟨e1,e2⟩:=CC bN.wG JF;refine⟨o',v,h1,fun d hd=>?_,fun hw=>PF e1 hq (h3 (by rw[e2];exact hw)),fun hw=>h4 (by rw[e2];exact hw)⟩;have:=h2 d hd;unfold qg at this⊢;rw[ka _ _ _ _ fun e=>?_]
 ·
  exact this
 ·
  exact bN.one i d fg (by rw[lM];exact e) ov hd
theorem ZP{E:List (Nat×ai)}{k:Nat}(h:k∈E.map (·.1)): ∃E1 x E2,E=E1++(k,x)::E2:=by
 obtain⟨e,he,rfl⟩:=auq.1 h;obtain⟨E1,E2,rfl⟩:=avI he;exact⟨E1,e.2,E2,rfl⟩
theorem FE(hB:vD l fs A [] [] ord=true)(cI:ord.Nodup)(bn: ∀j∈ord,j<l.length): ∀(iv pre:List Nat) (af:Act) {L Lq:List ai} {E:List (Nat×ai)} {listed:Array Bool} {a:Act} {w:World},Core P l fs mk Q w0 ord a0 pre iv af L Lq E listed a w->
  ∃ZQ JG ZR L' E',Core P l fs mk Q w0 ord a0 ZQ JG ZR L' Lq E' listed a w/\(JG=[]\/ ∃f r,JG=f::r/\fs.contains f=true/\f∉E'.map (·.1))
 |[],pre,af,L,_,E,_,_,_,H=>⟨pre,[],af,L,E,H, .inl rfl⟩
 |k::iv,pre,af,L,Lq,E,listed,a,w,H=>by
  have ow:k∉pre:=fun h=>by
   have qi:=cI;rw[H.ord]at qi;exact(avd.1 qi).2.2 k h k (by simp) rfl
  have iX: ∀j,j∈pre->j≠k:=fun j hj e=>ow (e▸hj);have hks:k∉iv:=fun h=>by
   have qi:=cI;rw[H.ord]at qi;exact(avA.1 (avd.1 qi).2.1).1 h
  obtain⟨o',sQ,bN,-⟩:=wZ ord [] [] hB pre k iv H.ord;have w8:k<l.length:=(zz.1 sQ).1;have FF:dX l k=o'.dst:=by simp[dX,sQ]
  cases hf:fs.contains k with
  |true=>
   by_cases hE:k∈E.map (·.1)
   ·
    obtain⟨E1,x,E2,rfl⟩:=ZP hE;obtain⟨_,fB,_,dE,oe,b,PH,hx,qj⟩:=H.qT (k,x) (by simp);simp only at fB dE PH hx qj;have e0:oe=o':=by rw[PH]at sQ;exact atl sQ
    subst e0;obtain⟨o,qh,hl⟩:=H.yM;rw[if_pos hf,if_pos dE]at hl;have e1:o=oe:=by rw[qh]at sQ;exact atl sQ
    subst e1;obtain⟨_,_,_,An⟩:=hl;have ZS:(((E1++(k,x)::E2).map (·.2))++L).Perm (((E1++E2).map (·.2))++x::L):=by
     simp only[atS,atI,atw,auL];exact List.Perm.append_left _ (avv.symm)
    have JH:=H.keys;simp only[atS,atI]at JH;have ZT: ∀e∈E1++E2,e.1≠k:=fun e he e2=>by
     obtain⟨n1,n2,n3⟩:=avd.1 JH;rcases atu.1 he with h|h
     ·
      exact n3 e.1 (atK h) k (by simp) e2
     ·
      exact(avA.1 n2).1 (e2▸atK h)
    refine FE hB cI bn iv (pre++[k]) (af.put o.dst ((mk k).v b)) (L:=x::L) (E:=E1++E2) ⟨by rw[H.ord];simp,H.inv,H.mem.perm ZS,fun e he=>?_,?_,fun w hw=>H.Al w (hw.sub (auK _ _)),by rw[hx];exact An b,H.size,by rw[tL];exact H.rB,H.defers,by rw[tM];exact H.tO,fun j hj hl=>?_,fun j hj sr=>?_,fun j hj hl=>?_,fun j d hj hl uh hd=>?_,H.rest,fun d hd=>?_⟩
    ·
     have hm:e∈E1++(k,x)::E2:=by
      rcases atu.1 he with h|h
      ·
       exact atT _ h
      ·
       exact auO _ (atF _ h)
     obtain⟨g1,g2⟩:=H.qT e hm;exact⟨(atv.1 g1).resolve_left (ZT e he),g2⟩
    ·
     rw[atS];exact JH.sublist (List.Sublist.append_left (auK _ _) _)
    ·
     rcases H.sub j hj hl with h|h
     ·
      exact .inl (atT _ h)
     ·
      simp only[atS,atI,atu,atv]at h;rcases h with h|h|h
      ·
       exact .inr (by simp only[atS,atu];exact .inl h)
      ·
       exact .inl (by rw[h];simp)
      ·
       exact .inr (by simp only[atS,atu];exact .inr h)
    ·
     rcases atu.1 hj with h|h
     ·
      exact H.fresh j h sr
     ·
      obtain rfl:=at7.1 h;exact fB
    ·
     rcases atu.1 hj with h|h
     ·
      have hp:=H.w7 j h hl
      cases yN:fs.contains (j+1000)with
      |true=>
       rw[yN]at hp;simp only[if_true]at hp⊢;exact Am hB cI bn H.ord qh h (fun w hw=>hw.sub (auK _ _)) hp
      |false=>
       rw[yN]at hp;simp only[at1,if_false]at hp⊢;exact Am hB cI bn H.ord qh h (fun _ h=>h) hp
     ·
      obtain rfl:=at7.1 h;rw[fB]at hl;cases hl
    ·
     rcases atu.1 uh with h|h
     ·
      rw[ka _ _ _ _ (bN.one j d hj hd (iX j h))];exact H.done j d hj hl h hd
     ·
      obtain rfl:=at7.1 h;rw[FF]at hd;have h3:=qj d hd;rw[hd];have h4:qg a0.tmps.size d ((mk j).v b) (af.put (some d) ((mk j).v b)):=Ak H.rB;unfold qg at h3 h4;rw[h3,h4]
    ·
     rw[ka _ _ _ _ (by have:=hd k (by simp);rwa [FF]at this)];exact H.full d fun j hj=>hd j (atT _ hj)
   ·
    exact⟨pre,k::iv,af,L,E,H, .inr ⟨k,iv,rfl,hf,hE⟩⟩
  |false=>
   obtain⟨o,qh,hl⟩:=H.yM;rw[if_neg (by rw[hf];exact auB)]at hl;obtain⟨v,h1,h2,h3⟩:=hl;have:o'=o:=by rw[qh]at sQ;exact(atl sQ).symm
   subst this;have JF: ∀t∈o'.looksAt l.toArray,af.tmps[t]? =(af.put o'.dst v).tmps[t]? :=fun t ht=>by
    refine(ka _ _ _ _ fun e=>?_).symm;obtain⟨hp,_⟩:=bN.reads k t w8 (by rw[FF];exact e) ht;rw[auh,awm]at hp;exact ow hp
   obtain⟨e1,e2⟩:=CC bN.wG JF;refine FE hB cI bn iv (pre++[k]) (af.put o'.dst v) ⟨by rw[H.ord];simp,H.inv,H.mem,fun e he=>?_,H.keys,H.Al,h3,H.size,by rw[tL];exact H.rB,H.defers,by rw[tM];exact H.tO,fun j hj hl=>(H.sub j hj hl).imp_left fun h=>atT _ h,fun j hj sr=>?_,fun j hj hl=>?_,fun j d hj hl uh hd=>?_,H.rest,fun d hd=>?_⟩
   ·
    obtain⟨g1,g2,g3,g4⟩:=H.qT e he;exact⟨(atv.1 g1).resolve_left (fun e2=>by rw[e2,hf]at g3;cases g3),g2,g3,g4⟩
   ·
    rcases atu.1 hj with h|h
    ·
     exact H.fresh j h sr
    ·
     obtain rfl:=at7.1 h;rw[hf]at sr;cases sr
   ·
    rcases atu.1 hj with h|h
    ·
     exact Am hB cI bn H.ord qh h (fun _ h=>h) (H.w7 j h hl)
    ·
     obtain rfl:=at7.1 h;refine⟨o',v,qh,fun d hd=>by rw[hd];exact Ak H.rB,fun hw=>PF e1 (fun _ h=>h) (h1 (by rw[e2];exact hw)),fun hw=>h2 (by rw[e2];exact hw)⟩
   ·
    rcases atu.1 uh with h|h
    ·
     rw[ka _ _ _ _ (bN.one j d hj hd (iX j h))];exact H.done j d hj hl h hd
    ·
     obtain rfl:=at7.1 h;rcases H.sub j hj hl with h5|h5
     ·
      exact absurd h5 ow
     ·
      obtain⟨e,he,ZU⟩:=auq.1 h5;obtain⟨_,_,g3,_⟩:=H.qT e he;rw[ZU,hf]at g3;cases g3
   ·
    rw[ka _ _ _ _ (by have:=hd k (by simp);rwa [FF]at this)];exact H.full d fun j hj=>hd j (atT _ hj)
theorem PI{x p1 y y':List Nat}{i:Nat}(hn:(p1++i::y').Nodup)(h:x++i::y=p1++i::y'):x=p1:=by
 induction x generalizing p1 with
 |nil=>
  cases p1 with
  |nil=>rfl
  |cons q p1=>
   simp only[aug,auL,avZ]at h;obtain⟨rfl,_⟩:=h;exact absurd (by simp) (avA.1 hn).1
 |cons c x ih=>
  cases p1 with
  |nil=>
   simp only[aug,auL,avZ]at h;obtain⟨rfl,h2⟩:=h;rw[←h2]at hn;exact absurd (by simp) (avA.1 hn).1
  |cons q p1=>
   simp only[auL,avZ]at h;obtain⟨rfl,h2⟩:=h;rw[ih (avA.1 hn).2 h2]
theorem PJ{listed:Array Bool}(hB:vD l fs A [] [] ord=true)(iH: ∀j,j<l.length->j∈ord)(inv:HeadInv .any l.toArray l.length listed): ∀(k:Nat) (o:Oper),l[k]? =some o->(∀e∈o.after,Region.binds .any e=true->listed.getD e.on false=true)->
  ∀f∈A.getD k [],listed.getD f false=true:=by
 intro k
 induction k using Nat.strongRecOn with
 |_ k ih=>
  intro o qh hd f hf;obtain⟨x,y,hx⟩:=avI (iH k (zz.1 qh).1);obtain⟨o',sQ,bN,-⟩:=wZ ord [] [] hB x k y hx;have:o'=o:=by rw[qh]at sQ;exact(atl sQ).symm
  subst this;obtain⟨e,he,hb,h⟩:=bN.cert f hf;have hl:=hd e he hb;rcases h with rfl|h
  ·
   exact hl
  ·
   have bn:=bN.back e he hb;have FG:e.on<l.length:=by have:=(zz.1 qh).1;omega
   exact ih e.on bn l[e.on] (by simp[FG]) (inv.closed e.on _ (by simp[FG]) hl) f h
theorem FH{listed:Array Bool}{i:Nat}(hi:i<listed.size)(h:listed.getD i false=true):listed.getD i true=true:=by
 simp[hi]at h⊢;exact h
theorem FI(hB:vD l fs A [] [] ord=true)(cI:ord.Nodup)(bn: ∀j∈ord,j<l.length)(iH: ∀j,j<l.length->j∈ord)(Ao: ∀k,k<l.length->fs.contains k=false->fs.contains (k+2000)=false):
  ∀(m:Nat) (pre iv:List Nat) (af:Act) (L Lq:List ai) (E:List (Nat×ai)) (listed:Array Bool) (a:Act) (w:World),left l.length listed=m->Core P l fs mk Q w0 ord a0 pre iv af L Lq E listed a w->wpAny P .any l.toArray Q m listed a w
 |0,JI,JJ,JK,L0,Lq,E0,listed,a,w,hm,H0=>by
  obtain⟨pre,iv,af,L,E,H,JL⟩:=FE hB cI bn JJ JI JK H0;have iY: ∀j,j<l.length->listed.getD j true=true:=fun j hj=>by
   cases h:listed.getD j true with
   |true=>rfl
   |false=>
    have:j∈(List.range l.length).filter fun i=> !listed.getD i true:=atY.2 ⟨List.mem_range.2 hj,by rw[h];rfl⟩;rw[atJ.1 hm]at this
    cases this
  have hr:Region.ready .any l.toArray listed=[]:=by
   refine List.eq_nil_iff_forall_not_mem.2 fun i hi=>?_;obtain⟨h1,o,h2,_⟩:=mem_ready.1 hi;rw[iY i (by have:=(au5.1 h2).1;simpa using this)]at h1;cases h1
  have JM:iv=[]:=by
   rcases JL with h|⟨k,r,hs,_,hE⟩
   ·
    exact h
   ·
    exfalso;have hk:k∈ord:=by rw[H.ord,hs];simp
    rcases H.sub k (bn k hk) (iY k (bn k hk))with this|this
    ·
     have qi:=cI;rw[H.ord,hs]at qi;exact absurd rfl ((avd.1 qi).2.2 k this k (by simp))
    ·
     exact hE this
  have hE:E=[]:=List.eq_nil_iff_forall_not_mem.2 fun e he=>by
   have:=(H.qT e he).1;rw[JM]at this;cases this
  have An:=H.yM;rw[JM]at An;have JN:=H.ord;rw[JM,auh]at JN;have e1:a=af:=by
   have:a.tmps=af.tmps:=by
    apply aut;intro d
    by_cases hw: ∃j,j<l.length/\dX l j=some d
    ·
     obtain⟨j,hj,hd⟩:=hw;exact H.done j d hj (iY j hj) (by rw[←JN];exact iH j hj) hd
    ·
     have h1: ∀j,j<l.length->dX l j≠some d:=fun j hj hd=>hw ⟨j,hj,hd⟩;rw[H.rest d fun j hj _=>h1 j hj,H.full d fun j hj=>h1 j (bn j (by rw[JN];exact hj))]
   have h2:a.defers=af.defers:=by rw[H.defers,H.tO]
   cases a;cases af
   simp_all
  subst e1;have lT:=H.mem;rw[hE]at lT;exact⟨hr,An w (by simpa using lT)⟩
 |m+1,JI,JJ,JK,L0,Lq,E0,listed,a,w,hm,H0=>by
  obtain⟨pre,iv,af,L,E,H,JL⟩:=FE hB cI bn JJ JI JK H0;have PK:Mem w0 L w:=H.mem.sub (List.sublist_append_right _ _);obtain⟨i0,BY,EK,BZ⟩: ∃i,i<l.length/\listed.getD i true=false/\ ∀j,j<i->listed.getD j true=true:=by
   have cd: ∃i,i<l.length/\listed.getD i true=false:=by
    cases hf:(List.range l.length).filter fun i=> !listed.getD i true with
    |nil=>rw[left,hf]at hm;cases hm
    |cons i r=>
     have:i∈(List.range l.length).filter fun i=> !listed.getD i true:=by rw[hf];simp
     obtain⟨h1,h2⟩:=atY.1 this;exact⟨i,atX.1 h1,by simpa using h2⟩
   obtain⟨i,h1,h2⟩:=cd
   induction i using Nat.strongRecOn with
   |_ i ih=>
    by_cases h: ∃j,j<i/\listed.getD j true=false
    ·
     obtain⟨j,hj,dD⟩:=h;exact ih j hj (by omega) dD
    ·
     refine⟨i,h1,h2,fun j hj=>?_⟩
     cases hh:listed.getD j true with
     |true=>rfl
     |false=>exact absurd ⟨j,hj,hh⟩ h
  have eI:listed.size=l.length:=by simpa using H.inv.size
  have ok: ∀k,k<l.length-> ∃x y o,ord=x++k::y/\l[k]? =some o/\JC l fs A (x.reverse++[]) ((x.filter fun j=>fs.contains j).reverse++[]) k o:=fun k hk=>by
   obtain⟨x,y,hx⟩:=avI (iH k hk);obtain⟨o,ho,bN,-⟩:=wZ ord [] [] hB x k y hx;exact⟨x,y,o,hx,ho,bN⟩
  have B2:i0∈Region.ready .any l.toArray listed:=by
   obtain⟨x,y,o,_,ho,bN⟩:=ok i0 BY;refine mem_ready.2 ⟨EK,o,by simpa using ho,fun e he hb=>?_⟩;have h1:=bN.back e he hb;have h2:=BZ e.on h1;have h3:e.on<listed.size:=by omega
   simp[h3]at h2⊢;exact h2
  refine⟨fun h=>(by rw[h]at B2;cases B2),fun i hi=>?_⟩;obtain⟨iX,o',qc,rC⟩:=mem_ready.1 hi;have vE:i<l.length:=by have:=(au5.1 qc).1;simpa using this
  obtain⟨x,y,o,hx,ho,bN⟩:=ok i vE;have:o'=o:=by simpa[ho]using qc.symm
  subst this;have tP:left l.length (listed.setIfInBounds i true)=m:=by have:=N6 vE iX;omega
  have lM:dX l i=o'.dst:=by simp[dX,ho]
  have iw: ∀j,j≠i->(listed.setIfInBounds i true).getD j true=listed.getD j true:=fun j cF=>getD_set_ne true (Ne.symm cF);have qN:(listed.setIfInBounds i true).getD i true=true:=by simp[show i<listed.size by omega]
  have ui: ∀j d,j<l.length->dX l j=some d->j≠i->o'.dst≠some d:=bN.one;have PL:(∀j∈x,j∈pre)-> ∀t∈o'.looksAt l.toArray,a.tmps[t]? =af.tmps[t]? :=fun k9 t ht=>by
   by_cases hw: ∃j,j<l.length/\dX l j=some t
   ·
    obtain⟨j,hj,hd⟩:=hw;obtain⟨rz,e,he,hb,fN⟩:=bN.reads j t hj hd ht;have hl:=rC e he hb;rw[fN]at hl;rw[auh,awm]at rz;exact H.done j t hj (FH (by omega) hl) (k9 j rz) hd
   ·
    have h1: ∀j,j<l.length->dX l j≠some t:=fun j hj hd=>hw ⟨j,hj,hd⟩;rw[H.rest t fun j hj _=>h1 j hj,H.full t fun j hj=>h1 j (bn j (by rw[H.ord];exact atT _ hj))]
  by_cases sR:i∈pre
  ·
   have k9: ∀j∈x,j∈pre:=fun j hj=>by
    obtain⟨p1,p2,hp⟩:=avI sR;have h1:=H.ord;rw[hp,hx,atw,auL]at h1;have CD:=cI;rw[hx]at CD;have h2:x=p1:=PI (h1▸CD) h1;rw[hp,←h2];exact atT _ hj
   obtain⟨ee,ew⟩:=CC bN.wG (PL k9);obtain⟨op,v,dN,ZV,FJ,ZW⟩:=H.w7 i sR iX;have:op=o':=by rw[ho]at dN;exact(atl dN).symm
   subst this;have kb:fs.contains i=false:=by
    cases h:fs.contains i with
    |false=>rfl
    |true=>have:=H.fresh i sR h;rw[iX]at this;cases this
   have next: ∀w',Mem w [] w'->wpAny P .any l.toArray Q m (listed.setIfInBounds i true) (a.put op.dst v) w':=fun w' gR=>by
    refine FI hB cI bn iH Ao m pre iv af L Lq E _ _ w' tP ⟨H.ord,H.inv.set hi vE,by simpa using H.mem.call gR,fun e he=>?_,H.keys,H.Al,H.yM,by rw[tL];exact H.size,H.rB,by rw[tM];exact H.defers,H.tO,fun j hj hl=>?_,fun j hj hf=>?_,fun j hj hl=>?_,fun j d hj hl uh hd=>?_,fun d hd=>?_,H.full⟩
    ·
     obtain⟨g1,g2,g3,g4,oe,b,g5,g7,g8⟩:=H.qT e he;have CE:e.1≠i:=fun e2=>by
      have qi:=cI;rw[H.ord]at qi;exact(avd.1 qi).2.2 i sR e.1 g1 e2.symm
     refine⟨g1,by rw[iw _ CE];exact g2,g3,g4,oe,b,g5,g7,fun d hd=>?_⟩;have:=g8 d hd;unfold qg at this⊢;rw[ka _ _ _ _ (ui e.1 d (zz.1 g5).1 (by simp[dX,g5,hd]) CE)];exact this
    ·
     by_cases cF:j=i
     ·
      subst cF;exact .inl sR
     ·
      exact H.sub j hj (by rw[←iw j cF];exact hl)
    ·
     rw[iw j (fun e=>by subst e;rw[kb]at hf;cases hf)];exact H.fresh j hj hf
    ·
     exact H.w7 j hj (by rw[←iw j (fun e=>by subst e;rw[qN]at hl;cases hl)];exact hl)
    ·
     by_cases cF:j=i
     ·
      subst cF;rw[lM]at hd;have h2:=ZV d hd;rw[hd];have h3:qg a0.tmps.size d v (a.put (some d) v):=Ak H.size;unfold qg at h2 h3;rw[h2,h3]
     ·
      rw[iw j cF]at hl;rw[ka _ _ _ _ (ui j d hj hd cF)];exact H.done j d hj hl uh hd
    ·
     have h1:op.dst≠some d:=by
      have:=hd i vE qN;rwa [lM]at this
     rw[ka _ _ _ _ h1];refine H.rest d fun j hj hl=>?_
     by_cases cF:j=i
     ·
      subst cF;rw[lM];exact h1
     ·
      exact hd j hj (by rw[iw j cF];exact hl)
   unfold wpOp;simp only[qc];rw[ew];split
   ·
    rename_i rD;have h1:=FJ rD w (by
     split
     ·
      exact PK
     ·
      exact H.Al w PK)
    refine .inl ?_;unfold Oper.wp;rw[ee];unfold Oper.quietAt at h1;generalize(execOp af.eval op).run P w=r at h1;unfold Oper.quietUpon at h1;split at h1
    ·
     obtain⟨rfl,rfl⟩:=h1;exact next _ (Mem.init _)
    ·
     obtain⟨rfl,e⟩:=h1;rw[e]at next;exact next _ (Mem.init _)
    ·
     obtain⟨rfl,vj⟩:=h1;exact vj.mono fun e qM ⟨he,hm⟩=>by subst he;exact next _ hm
    ·
     exact h1.elim
   ·
    rename_i rD;have:=ZW (by simpa using rD);rw[this]at next;exact next w (Mem.init _)
  ·
   have JO:i∈iv:=by
    have:=iH i vE;rw[H.ord]at this;exact(atu.1 this).resolve_left sR
   rcases JL with rfl|⟨f,r,rfl,qU,CF⟩
   ·
    cases JO
   have ZX: ∀(v:Value) (j d:Nat),j<l.length->(listed.setIfInBounds i true).getD j true=true->j∈pre->dX l j=some d->(a.put o'.dst v).tmps[d]? =af.tmps[d]? :=fun v j d hj hl uh hd=>by
    have cF:j≠i:=fun e=>sR (e▸uh);rw[iw j cF]at hl;rw[ka _ _ _ _ (ui j d hj hd cF)];exact H.done j d hj hl uh hd
   have FK: ∀(v:Value) (d:Nat),(∀j,j<l.length->(listed.setIfInBounds i true).getD j true=true->dX l j≠some d)->(a.put o'.dst v).tmps[d]? =a0.tmps[d]? :=fun v d hd=>by
    have h1:o'.dst≠some d:=by
     have:=hd i vE qN;rwa [lM]at this
    rw[ka _ _ _ _ h1];refine H.rest d fun j hj hl=>?_
    by_cases cF:j=i
    ·
     subst cF;rw[lM];exact h1
    ·
     exact hd j hj (by rw[iw j cF];exact hl)
   have JP:i∉E.map (·.1):=fun h=>by
    obtain⟨e,he,rfl⟩:=auq.1 h;have:=(H.qT e he).2.1;rw[iX]at this;cases this
   have PM: ∀(v:Value),∀e∈E,Early l fs mk a0.tmps.size (f::r) (listed.setIfInBounds i true) (a.put o'.dst v) e:=fun v e he=>by
    obtain⟨g1,g2,g3,g4,oe,b,g5,g7,g8⟩:=H.qT e he;have CE:e.1≠i:=fun e2=>JP (e2▸atK he);refine⟨g1,by rw[iw _ CE];exact g2,g3,g4,oe,b,g5,g7,fun d hd=>?_⟩;have:=g8 d hd;unfold qg at this⊢;rw[ka _ _ _ _ (ui e.1 d (zz.1 g5).1 (by simp[dX,g5,hd]) CE)];exact this
   by_cases PN:i=f
   ·
    subst PN;have k9: ∀j∈x,j∈pre:=fun j hj=>by
     have h1:=H.ord;rw[hx]at h1;have CD:=cI;rw[hx]at CD;have h2:x=pre:=PI (h1▸CD) h1;rw[←h2];exact hj
    obtain⟨ee,ew⟩:=CC bN.wG (PL k9);obtain⟨of,rE,hl⟩:=H.yM;have:of=o':=by rw[ho]at rE;exact(atl rE).symm
    subst this;rw[if_pos qU]at hl;replace hl:=hl.2;have next: ∀v w' E' L' gO,E'=E->(∀e∈E,e.1∈r)->Mem w0 (E'.map (·.2)++L') w'->(∀w,Mem w0 L' w->Mem w0 gO w)->(∀w,Mem w0 gO w->Mem w0 Lq w)->(fs.contains (i+2000)=true\/fs.contains (i+5000)=true-> ∀w,Mem w0 L' w->Mem w0 L w)->sP P l fs mk Q w0 r (af.put of.dst v) L' gO->wpAny P .any l.toArray Q m (listed.setIfInBounds i true) (a.put of.dst v) w':=fun v w' E' L' gO yO yP g1 g2 g3 PO g4=>by
     subst yO;refine FI hB cI bn iH Ao m (pre++[i]) r (af.put of.dst v) L' gO E' _ _ w' tP ⟨by rw[H.ord];simp,H.inv.set hi vE,g1,fun e he=>?_,H.keys,g2,g4,by rw[tL];exact H.size,by rw[tL];exact H.rB,by rw[tM];exact H.defers,by rw[tM];exact H.tO,fun j hj ox=>?_,fun j hj hf=>?_,fun j hj ox=>?_,fun j d hj ox uh hd=>?_,FK v,fun d hd=>?_⟩
     ·
      obtain⟨g1',ZY⟩:=PM v e he;exact⟨yP e he,ZY⟩
     ·
      by_cases cF:j=i
      ·
       subst cF;exact .inl (by simp)
      ·
       exact(H.sub j hj (by rw[←iw j cF];exact ox)).imp_left fun h=>atT _ h
     ·
      rcases atu.1 hj with h|h
      ·
       by_cases cF:j=i
       ·
        subst cF;exact qN
       ·
        rw[iw j cF];exact H.fresh j h hf
      ·
       obtain rfl:=at7.1 h;exact qN
     ·
      rcases atu.1 hj with h|h
      ·
       have cF:j≠i:=fun e=>sR (e▸h)
       cases yN:fs.contains (j+1000)with
       |true=>
        cases qV:fs.contains (i+2000)with
        |true=>
         have hp:=H.w7 j h (by rw[←iw j cF];exact ox);rw[yN]at hp;simp only[if_true]at hp⊢;exact Am hB cI bn H.ord ho h (PO (.inl qV)) hp
        |false=>
         cases h5:fs.contains (i+5000)with
         |true=>
          have hp:=H.w7 j h (by rw[←iw j cF];exact ox);rw[yN]at hp;simp only[if_true]at hp⊢;exact Am hB cI bn H.ord ho h (PO (.inr h5)) hp
         |false=>
          exfalso;obtain⟨oi,wI,FL,-⟩:=wZ ord [] [] hB pre i r H.ord;have e1:oi=of:=by rw[ho]at wI;exact(atl wI).symm
          subst e1;have ZZ:=FL.tmp qU qV h5 j (by rw[auh,awm];exact h) yN;have j9:=PJ hB iH H.inv i oi ho rC j ZZ;have hjo:j∈ord:=by rw[H.ord];exact atT _ h
          have:=FH (by have:=bn j hjo;omega) j9;rw[iw j cF]at ox;rw[this]at ox;cases ox
       |false=>
        have hp:=H.w7 j h (by rw[←iw j cF];exact ox);rw[yN]at hp;simp only[at1,if_false]at hp⊢;exact Am hB cI bn H.ord ho h g3 hp
      ·
       obtain rfl:=at7.1 h;rw[qN]at ox;cases ox
     ·
      rcases atu.1 uh with h|h
      ·
       have cF:j≠i:=fun e=>sR (e▸h);rw[ka _ _ _ _ (ui j d hj hd cF),ka _ _ _ _ (ui j d hj hd cF)];rw[iw j cF]at ox;exact H.done j d hj ox h hd
      ·
       obtain rfl:=at7.1 h;rw[lM]at hd;rw[hd];have h3:qg a0.tmps.size d v (a.put (some d) v):=Ak H.size;have h4:qg a0.tmps.size d v (af.put (some d) v):=Ak H.rB;unfold qg at h3 h4;rw[h3,h4]
     ·
      have h1:of.dst≠some d:=by
       have:=hd i (by simp);rwa [lM]at this
      rw[ka _ _ _ _ h1];exact H.full d fun j hj=>hd j (atT _ hj)
    have yP: ∀e∈E,e.1∈r:=fun e he=>by
     have:=(H.qT e he).1;exact(atv.1 this).resolve_left fun e2=>JP (e2▸atK he)
    cases qV:fs.contains (i+2000)with
    |true=>
     rw[if_pos qV]at hl;obtain⟨hg,JQ,An⟩:=hl;obtain⟨mx,w',gK,JR⟩:=JQ w0 w (E.map (·.2)++L) H.mem;unfold wpOp;simp only[qc];rw[if_pos (by simp[Region.wanted,hg])];refine .inl ?_;unfold Oper.wp;rw[ee,gK];refine next _ _ E ((mk i).e mx::L) Lq rfl yP ?_ (fun w hw=>H.Al w (hw.sub (auK _ _))) (fun _ h=>h) (fun _ w hw=>hw.sub (auK _ _)) (An _);exact JR.perm (avv.symm)
    |false=>
     rw[if_neg (by rw[qV];exact auB)]at hl;obtain⟨hg,gK,aaa⟩:=hl;have FM:E=[]\/ ∃x,E=[x]/\fs.contains (i+4000)=true:=by
      obtain⟨oi,wI,FL,hry⟩:=wZ ord [] [] hB pre i r H.ord;rcases hry qU qV with h|⟨h4,h5⟩
      ·
       refine .inl (List.eq_nil_iff_forall_not_mem.2 fun e he=>?_);have h1:=h e.1 (yP e he);rw[(H.qT e he).2.2.2.1]at h1;cases h1
      ·
       rcases yO:E with _|⟨x,_|⟨y,E'⟩⟩
       ·
        exact .inl rfl
       ·
        exact .inr ⟨x,rfl,h4⟩
       ·
        exfalso;have m1:x.1∈r.filter fun j=>fs.contains (j+2000):=atY.2 ⟨yP x (by rw[yO];simp),(H.qT x (by rw[yO];simp)).2.2.2.1⟩;have m2:y.1∈r.filter fun j=>fs.contains (j+2000):=atY.2 ⟨yP y (by rw[yO];simp),(H.qT y (by rw[yO];simp)).2.2.2.1⟩;have PQ:=H.keys;rw[yO]at PQ;have cd:x.1≠y.1:=fun e=>(avA.1 PQ).1 (by simp[e]);rcases eQ:(r.filter fun j=>fs.contains (j+2000))with _|⟨z,_|⟨z2,fl⟩⟩
        ·
         rw[eQ]at m1;cases m1
        ·
         rw[eQ,at7]at m1 m2;exact cd (m1.trans m2.symm)
        ·
         rw[eQ]at h5;simp at h5
     have h1:upon P w (fun v w'=> ∃L' gO,Mem w0 (E.map (·.2)++L') w'/\(∀w,Mem w0 L' w->Mem w0 gO w)/\(∀w,Mem w0 gO w->Mem w0 Lq w)/\(fs.contains (i+5000)=true-> ∀w,Mem w0 L' w->Mem w0 L w)/\sP P l fs mk Q w0 r (af.put of.dst v) L' gO) ((execOp af.eval of).run P w):=by
      have rK:=H.mem;rcases FM with hE|⟨x,hE,h4⟩
      ·
       rw[hE]at rK⊢;exact gK w (by simpa using rK)
      ·
       rw[hE]at rK⊢;exact aaa h4 x.2 w (by simpa using rK)
     have JS: ∀v w',(∃L' gO,Mem w0 (E.map (·.2)++L') w'/\(∀w,Mem w0 L' w->Mem w0 gO w)/\(∀w,Mem w0 gO w->Mem w0 Lq w)/\(fs.contains (i+5000)=true-> ∀w,Mem w0 L' w->Mem w0 L w)/\sP P l fs mk Q w0 r (af.put of.dst v) L' gO)->wpAny P .any l.toArray Q m (listed.setIfInBounds i true) (a.put of.dst v) w':=fun v w' ⟨L',gO,g1,g2,g3,g5,g4⟩=>
      next v w' E L' gO rfl yP g1 g2 g3 (fun h=>h.elim (fun h=>by rw[qV]at h;cases h) g5) g4
     unfold wpOp;simp only[qc];rw[if_pos (by rw[ew];exact hg)];refine .inl ?_;unfold Oper.wp;rw[ee];generalize(execOp af.eval of).run P w=r' at h1;unfold upon at h1;split at h1
     ·
      exact JS _ _ h1
     ·
      exact JS _ _ h1
     ·
      obtain⟨rfl,vj⟩:=h1;exact vj.mono fun e qM ⟨u,he,hR⟩=>by subst he;exact JS u _ hR
     ·
      exact h1.elim
   ·
    have B3:i∈r:=(atv.1 JO).resolve_left PN
    cases qV:fs.contains (i+2000)with
    |false=>
     exfalso;obtain⟨r1,r2,rfl⟩:=avI B3;have w9:ord=(pre++f::r1)++i::r2:=by rw[H.ord];simp
     obtain⟨oi,wI,FL,-⟩:=wZ ord [] [] hB _ i r2 w9;have e1:oi=o':=by rw[ho]at wI;exact(atl wI).symm
     subst e1;have Ap:=FL.ZL qV f (by
      rw[auh,awm,atY];exact⟨by simp,qU⟩)
     have eQ:=PJ hB iH H.inv i oi ho rC f Ap;have sr:f∈ord:=by rw[H.ord];simp
     rcases H.sub f (bn f sr) (FH (by have:=bn f sr;omega) eQ)with vg|vg
     ·
      have qi:=cI;rw[H.ord]at qi;exact(avd.1 qi).2.2 f vg f (by simp) rfl
     ·
      exact CF vg
    |true=>
     obtain⟨of,rE,hl⟩:=H.yM;rw[if_pos qU]at hl;obtain⟨oa,PR,hga,JQ⟩:=hl.1 i B3 qV;have e1:oa=o':=by rw[ho]at PR;exact(atl PR).symm
     subst e1;have aab: ∀t∈oa.looksAt l.toArray,a.tmps[t]? =af.tmps[t]? :=fun t ht=>by
      by_cases hw: ∃j,j<l.length/\dX l j=some t
      ·
       obtain⟨j,hj,hd⟩:=hw;obtain⟨_,e,he,hb,fN⟩:=bN.reads j t hj hd ht;have ox:=rC e he hb;rw[fN]at ox;have PS:=FH (by omega) ox;rcases H.sub j hj PS with hp|hp
       ·
        exact H.done j t hj PS hp hd
       ·
        obtain⟨e2,CG,rfl⟩:=auq.1 hp;have g3:=(H.qT e2 CG).2.2.1;rw[bN.ZM qV e2.1 t hj hd ht]at g3;cases g3
      ·
       have h1: ∀j,j<l.length->dX l j≠some t:=fun j hj hd=>hw ⟨j,hj,hd⟩;rw[H.rest t fun j hj _=>h1 j hj,H.full t fun j hj=>h1 j (bn j (by rw[H.ord];exact atT _ hj))]
     obtain⟨ee,_⟩:=CC bN.wG aab;obtain⟨mx,w',gK,JR⟩:=JQ w0 w (E.map (·.2)++L) H.mem;have kb:fs.contains i=true:=by
      cases kb:fs.contains i with
      |true=>rfl
      |false=>
       exfalso;obtain⟨r1,r2,rfl⟩:=avI B3;exact absurd qV (by rw[Ao i vE kb];exact auB)
     unfold wpOp;simp only[qc];rw[if_pos (by simp[Region.wanted,hga])];refine .inl ?_;unfold Oper.wp;rw[ee,gK];refine FI hB cI bn iH Ao m pre (f::r) af L Lq ((i,(mk i).e mx)::E) _ _ _ tP ⟨H.ord,H.inv.set hi vE,JR,fun e he=>?_,avA.2 ⟨JP,H.keys⟩,H.Al,H.yM,by rw[tL];exact H.size,H.rB,by rw[tM];exact H.defers,H.tO,fun j hj hl=>?_,fun j hj hf=>?_,fun j hj hl=>?_,ZX _,FK _,H.full⟩
     ·
      rcases atv.1 he with rfl|he
      ·
       exact⟨JO,qN,kb,qV,oa,mx,ho,rfl,fun d hd=>by rw[hd];exact Ak H.size⟩
      ·
       exact PM _ e he
     ·
      by_cases cF:j=i
      ·
       subst cF;exact .inr (by simp)
      ·
       exact(H.sub j hj (by rw[←iw j cF];exact hl)).imp_right fun h=>atF _ h
     ·
      have cF:j≠i:=fun e=>sR (e▸hj);rw[iw j cF];exact H.fresh j hj hf
     ·
      have cF:j≠i:=fun e=>sR (e▸hj);exact H.w7 j hj (by rw[←iw j cF];exact hl)
theorem PT{id:Nat}{ro:Option Nat}[kW Q]{a:Act}{w:World}{L Lq:List ai}(A:List (List Nat))(ord:List Nat)(cI:qL l=true)(hm:P.follows .mixedOrders=true)(hB:FD l fs A ord=true)(hC:Mem w0 L {w with drawn:=w.drawn+1})(nB: ∀w,Mem w0 L w->Mem w0 Lq w)
  (Ao: ∀k,k<l.length->fs.contains k=false->fs.contains (k+2000)=false)
  (h:sP P l fs mk Q w0 ord a L Lq):(Code.region id l.toArray true).wpIn (mW ro) 0 P Q a w:=by
 simp only[FD,ad2,decide_eq_true_eq]at hB;obtain⟨⟨⟨h1,h2⟩,h3⟩,h4⟩:=hB;have iH: ∀j,j<l.length->j∈ord:=fun j hj=>by have:=aty.1 h1 j (atX.2 hj);simpa using this
 have bn: ∀j∈ord,j<l.length:=fun j hj=>by have:=aty.1 h3 j hj;simpa using this
 refine IC cI hm ?_;have IJ:HeadInv .any l.toArray l.length (Array.replicate l.toArray.size false):=
  ⟨by simp,fun j oj _ hl=>(by rw[getD_replicate_false]at hl;cases hl),fun t h1 h2=>by simp at h2;omega⟩
 have iX: ∀j,j<l.length->(Array.replicate l.toArray.size false).getD j true=false:=fun j hj=>by simp[hj]
 have tP:left l.length (Array.replicate l.toArray.size false)=l.length:=by
  unfold left;rw[List.filter_eq_self.2 (fun j hj=>?_),awj];rw[iX j (atX.1 hj)];rfl
 have:=FI (P:=P) (Q:=Q) (w0:=w0) (a0:=a) h4 h2 bn iH Ao l.length [] ord a L Lq [] (Array.replicate l.toArray.size false) a _ tP
  ⟨rfl,IJ,hC,fun e he=>(by cases he),List.nodup_nil,nB,h,rfl,rfl,rfl,rfl,fun j hj hl=>(by rw[iX j hj]at hl;cases hl),fun j hj=>(by cases hj),fun j hj=>(by cases hj),fun j d hj hl=>(by rw[iX j hj]at hl;cases hl),fun _ _=>rfl,fun _ _=>rfl⟩
 simpa using this
theorem aac{id:Nat}{ro:Option Nat}[kW Q]{a:Act}{w:World}{L Lq:List ai}(A:List (List Nat))(ord:List Nat)(cI:qL l=true)(hm:P.follows .mixedOrders=true)(hB:FC l fs A ord=true)(hC:Mem w0 L {w with drawn:=w.drawn+1})(nB: ∀w,Mem w0 L w->Mem w0 Lq w)
  (h:sP P l fs mk Q w0 ord a L Lq):(Code.region id l.toArray true).wpIn (mW ro) 0 P Q a w:=by
 have h5: ∀k,fs.contains (k+2000)=false:=fun k=>by
  simp only[FC,ad2]at hB
  cases hk:fs.contains (k+2000)with
  |false=>rfl
  |true=>
   have:=aty.1 hB.1.2 (k+2000) (by simpa using hk);have:=of_decide_eq_true this;omega
 refine PT A ord cI hm ?_ hC nB (fun k _ _=>h5 k) h;simp only[FC,FD,ad2]at hB⊢;exact⟨hB.1.1,hB.2⟩
end
open Go.RowKit
section
variable {P:Program} {N:cC} {w0:World} {env:Env} {L R R1 R2:List ai} {Q:Exit->Act->World->Prop} {d:Option Tmp} {ty:TypeId} {ps:String} {af:Array Edge} {gd:Option (Nat×Bool)} {K:Value->List ai->Prop}
def aS(P:Program)(N:cC)(w0:World)(env:Env)(L:List ai)(o:Oper)(K:Value->List ai->Prop):Prop:=
 ∀a w,dw N env a->Mem w0 L w->upon P w (fun v w'=> ∃L',Mem w0 L' w'/\K v L') ((execOp a.eval o).run P w)
theorem vF{o:Oper}(h: ∀a w,dw N env a->Mem w0 L w-> ∃v w' L',(execOp a.eval o).run P w= .ok (.value v) w'/\Mem w0 L' w'/\K v L'):aS P N w0 env L o K:=fun a w ha hw=>by
 obtain⟨v,w',L',h1,h2,h3⟩:=h a w ha hw;rw[h1];exact⟨L',h2,h3⟩
theorem JT{o:Oper}(h: ∀a w,dw N env a->Mem w0 L w-> ∃w' L',(execOp a.eval o).run P w= .ok .skip w'/\Mem w0 L' w'/\K undef L'):aS P N w0 env L o K:=fun a w ha hw=>by
 obtain⟨w',L',h1,h2,h3⟩:=h a w ha hw;rw[h1];exact⟨L',h2,h3⟩
theorem CH{w:World}{R R':Value->World->Prop}(h: ∀v w,R v w->R' v w){r:Result Next}(hr:upon P w R r):upon P w R' r:=by
 unfold upon at hr⊢;split at hr
 ·
  exact h _ _ hr
 ·
  exact h _ _ hr
 ·
  exact⟨hr.1,hr.2.mono fun e qM ⟨v,he,hv⟩=>⟨v,he,h _ _ hv⟩⟩
 exact hr.elim
theorem PU{o:Oper}{K':Value->List ai->Prop}(h:aS P N w0 env L o K')(hk: ∀v L',K' v L'-> ∃FN,(∀w,Mem w0 L' w->Mem w0 FN w)/\K v FN):aS P N w0 env L o K:=fun a w ha hw=>
 CH (fun v _ ⟨L',h1,h2⟩=>by obtain⟨FN,h3,h4⟩:=hk v L' h2;exact⟨FN,h3 _ h1,h4⟩) (h a w ha hw)
theorem qk{X:Type}{val:X->Value}{L':X->List ai}{pr:X->Prop}{pre:Prop}{f:FuncId}{xs:List Operand}{ts:Array TypeId}{vs:List Value}[hf:aI P f](hx:iz env xs=some vs)
  [hc:bV P f w0 L vs X val L' pr pre] (hp:pre) (hk: ∀x,pr x->K (val x) (L' x)):
  aS P N w0 env L ⟨d, .call {callee:= .value (.func f),args:=xs.toArray,argTypes:=ts},ty,ps,af,gd⟩ K:=fun a w ha hw=>by
 rw[EP hf w rfl,ha.iz hx];exact⟨rfl,(hc.h hp w hw).mono fun e w' ⟨x,he,k9,hm⟩=>⟨val x,he,L' x,hm,hk x k9⟩⟩
section
variable {α:Type} {enc:α->Array Value} {c:Nat} {s:Sv} {xs ys:List α}
theorem aad{t:TypeId}{z:Value}[hz:eP P t z](hk: ∀b,K ((.pointer (some ⟨b,0,none⟩))) ((aq b z.cells t::L))):
  aS P N w0 env L ⟨d, .alloc t,ty,ps,af,none⟩ K:=
 vF fun a w ha hw=>⟨_,_,_,by simp only[execOp,Instr.alloc,newVar,newRow,Sem.run_bind,EO w hz,newObj,Sem.run,Result.andThen,Sem.run_pure];rfl,hw.alloc z.cells t,hk _⟩
theorem PW{t:TypeId}{cs:Array Value}[hz:eP P t (.agg cs)](hk: ∀b,K ((.pointer (some ⟨b,0,none⟩))) ((aq b cs t::L))):
  aS P N w0 env L ⟨d, .alloc t,ty,ps,af,none⟩ K:=aad (z:= .agg cs) hk
theorem uj{t:TypeId}{x y:Operand}{i b o:Nat}{cs:Array Value}{T:TypeId}{v:Value}(hx:ev env x=some (.pointer (some ⟨b,o,none⟩)))(hy:ev env y=some v)[ht:gL P t][hh:Has L b cs T i](ho:o<cs.size)(hv:v.oneCell'=true){cs':Array Value}{L':List ai}(gU:cs.setIfInBounds o v=cs')[hu:fO L i (aq b cs' T) L'](hk:K undef (L')):
  aS P N w0 env L ⟨none, .store t x y,ty,ps,af,none⟩ K:=
 JT fun a w ha hw=>by
  have hi:=hh.h;have hb:=hw.block hi;have hc:w.cell? ⟨b,o,none⟩=some cs[o]:=by rw[hw.cell hi];simp[ho]
  have hf:w.frozen? ⟨b,o,none⟩=false:=frozen_of_row w b o cs T hb;subst gU;refine⟨w.setCell ⟨b,o,none⟩ v,_,?_,?_,hk⟩
  ·
   have h1:(storeCells ⟨b,o,none⟩ [v]).run P w= .ok () (w.setCell ⟨b,o,none⟩ v):=by
    have:=run_storeCells_at (P:=P) b o T [v] 0 cs w hb (by simp;omega) (by simpa using hv);rw[this,setCell_eq_setRow w b o cs T (0,0) v hb];congr 2;apply av6;simp[List.set_eq_take_append_cons_drop,ho]
   have gU:v.cells= #[v]:=by cases v<;>simp_all[Value.oneCell',Value.cells]
   simp only[execOp,ha.ev hx,ha.ev hy,Instr.storeAt,Instr.sureAddr,storeVar,Sem.run_bind,Sem.run_pure,Result.andThen,lN w ht.size,gU];simp[h1]
  ·
   rw[setCell_eq_setRow w b o cs T (0,0) v hb];rw[←hu.h];exact hw.setRow hi _
theorem JU{t:TypeId}{x y:Operand}{i b o n:Nat}{cs vs:Array Value}{T:TypeId}(hx:ev env x=some (.pointer (some ⟨b,o,none⟩)))(hy:ev env y=some (.agg vs))[ht:gC P t n][hh:Has L b cs T i][hs:gn vs n](ho:o+n<=cs.size){cs':Array Value}{L':List ai}(gU:over cs o vs=cs')[hu:fO L i (aq b cs' T) L'](hk:K undef (L')):
  aS P N w0 env L ⟨none, .store t x y,ty,ps,af,none⟩ K:=
 JT fun a w ha hw=>by
  have hi:=hh.h;have hn:=hs.h;have hv:=hs.one;have hb:=hw.block hi;subst gU;refine⟨_,_,?_,by rw[←hu.h];exact hw.setRow hi _,hk⟩;have h1:=run_storeCells_at (P:=P) b o T vs.toList 0 cs w hb (by simp;omega) (fun v mq=>(at4.1 hv) v (by simpa using mq));simp only[execOp,ha.ev hx,ha.ev hy,Instr.storeAt,Instr.sureAddr,storeVar,Value.cells,Sem.run_bind,Sem.run_pure,Result.andThen,lN w ht.size,hn];simp[h1,over]
theorem ql{t:TypeId}{x y:Operand}{i b n:Nat}{cs vs:Array Value}{T:TypeId}(hx:ev env x=some (.pointer (some ⟨b,0,none⟩)))(hy:ev env y=some (.agg vs))[ht:gC P t n][hh:Has L b cs T i][hs:gn vs n][hc:gn cs n]{L':List ai}[hu:fO L i (aq b vs T) L'](hk:K undef (L')):
  aS P N w0 env L ⟨none, .store t x y,ty,ps,af,none⟩ K:=by
 have hn:=hs.h;have X9:=hc.h;refine JU hx hy (by omega) (?_:over cs 0 vs=vs) hk;apply av6;simp[over];omega
theorem aae{x y:Operand}{tx gM e:TypeId}{i b o dl dc sl sc:Nat}{a:Addr}{cs vs:Array Value}{T:TypeId}(hx:ev env x=some (.slice (some ⟨b,o,none⟩) dl dc))(hy:ev env y=some (.slice (some a) sl sc))
  [ht:fA P tx e 1] [hh:Has L b cs T i] (hn:vs.size=Nat.min sl dl) (nE: ∀w,Mem w0 L w-> ∀j,j<vs.size->w.cell? (a.add j)=vs[j]?) (hv:vs.all (·.oneCell')=true) (ho:o+vs.size<=cs.size)
  {cs':Array Value} {L':List ai} (gU:over cs o vs=cs') [hu:fO L i (aq b cs' T) L'] (hk:K ((.int .i64 vs.size)) (L')):
  aS P N w0 env L ⟨d, .call {callee:= .builtin .copy,args:= #[x,y],argTypes:= #[tx,gM]},ty,ps,af,none⟩ K:=
 vF fun aa w ha hw=>by
  have hi:=hh.h;have hb:=hw.block hi;subst gU;have gK:=run_copy_row (P:=P) w tx gM ty e b o dl dc a sl sc cs T vs.toList ht.fc ht.size hb (by simpa using hn)
   (fun j v mq=>by
    have hj:j<vs.size:=by simpa using(zz.1 mq).1
    rw[nE w hw j hj];simpa using mq) (by simpa using ho) (fun v mq=>(at4.1 hv) v (by simpa using mq))
  refine⟨_,w.setRow b (over cs o vs),_,?_,by rw[←hu.h];exact hw.setRow hi _,hk⟩;simp[execOp,ha.ev hx,ha.ev hy,resolve,invoke,builtin,gK,Result.andThen,goInt,over]
theorem FO{t tx e:TypeId}{x y:Operand}{yv:Value}{cw i:Nat}[ht:eK P t e c cw][he:bp enc c](hx:ev env x=some s.val)(hy:ev env y=some yv)[q:fX L s enc c xs i](hc:0<c)
  (hs: ∀w,Mem w0 L w->Src P c tx yv ys.length (aJ enc ys) w) (hb:(xs.length+ys.length)*cw<=140737488355328) (ib:xs.length+ys.length<=140737488355328) {L':Sv->List ai} [hu: ∀s',fO L i (own enc c s' (xs++ys)) (L' s')]
  (hk: ∀s':Sv,s'.Ok->s'.len=(xs++ys).length->K (s'.val) ((L' s'))):
  aS P N w0 env L ⟨d, .call {callee:= .builtin .append,args:= #[x,y],argTypes:= #[t,tx]},ty,ps,af,none⟩ K:=
 vF fun a w ha hw=>by
  obtain⟨s',w',h1,h2,h3,h4⟩:=Ja (ty:=ty) ht hc hw q.h (hs w hw) hb ib;refine⟨s'.val,w',L' s',?_,by rw[←(hu s').h];exact h4,hk s' h2 h3⟩;simp[execOp,ha.ev hx,ha.ev hy,resolve,invoke,builtin,h1,Result.andThen]
theorem PX{t e:TypeId}{cw n:Nat}[ht:eK P t e c cw][he:bp enc c]{ops:List (Nat×Operand)}{vals:List Value}(xs:List α)(hx:ke env ops=some (idx vals 0))(hv:vals.map Value.cells=xs.map enc)(hn:xs.length=n)(hc:0<n*c)(rI:n*c<=16777216)
  (hk: ∀b,K ((Sv.val ⟨false,b,0,n,n,none⟩)) ((own enc c ⟨false,b,0,n,n,none⟩ xs::L))):
  aS P N w0 env L ⟨d, .buildSlice t n ops.toArray,ty,ps,af,none⟩ K:=
 vF fun a w ha hw=>by
  subst hn;have e1:(ops.toArray.map fun(p:Nat×Operand)=>match p with|(i,x)=>(i,a.eval x))=(idx vals 0).toArray:=by
   rw[←ha.ke hx];simp
  refine⟨_,_,_,?_,hw.call (wT (enc:=enc) (c:=c) (xs:=xs) (cs:=(aJ enc xs).toArray) (e:=e) rfl xs.length xs.length rfl (att _) (E5 hc rI) (by simp[ia]) fun i x hx j hj=>by rw[←oc (enc:=enc) xs i x hx j hj];simp),hk _⟩;simp only[execOp,e1,Sem.run_bind,E6 ht hv hc rI w,Result.andThen,Sem.run_pure];rfl
theorem PY{t e:TypeId}{cw n cap:Nat}{z:Value}{x y:Operand}{k k':IntKind}{ix iy:Int}[ht:eK P t e c cw][hz:eP P e z](x0:α)(h0:enc x0=z.cells)(hx:ev env x=some (.int k ix))(hy:ev env y=some (.int k' iy))(ex:ix=(n:Int))(ey:iy=(cap:Int))(hle:n<=cap)(hb:cw*cap<=281474976710656)(ib:cap<=140737488355328)
  (hk: ∀b,K ((Sv.val ⟨false,b,0,n,cap,none⟩)) ((own enc c ⟨false,b,0,n,cap,none⟩ (List.replicate n x0)::L))):
  aS P N w0 env L ⟨d, .makeSlice t x y,ty,ps,af,none⟩ K:=
 vF fun a w ha hw=>by
  subst ex ey;obtain⟨w',h1,h2⟩:=Jb ht hz (k:=k) (k':=k') (n:=n) x0 h0 hle hb ib w;exact⟨_,w',_,by simp only[execOp,ha.ev hx,ha.ev hy,Sem.run_bind,h1,Result.andThen,Sem.run_pure],hw.call h2,hk _⟩
theorem yQ{t:TypeId}{x y:Operand}{i k j n p:Nat}{a a':α}{v:Value}(sz:(P.info? t).map (·.size)=some n)[he:bp enc c](hx:ev env x=some (.pointer (some ⟨s.b,p,none⟩)))(hy:ev env y=some v)[q:fX L s enc c xs i](iI:p=s.o+k*c+j)
  (ha:xs[k]? =some a) (hv:v.cells.all (·.oneCell')=true) (hn:v.cells.size=n) (hj:j+n<=c) (sF:over (enc a) j v.cells=enc a') {L':List ai} [hu:fO L i (own enc c s (xs.set k a')) L'] (hk:K undef (L')):
  aS P N w0 env L ⟨none, .store t x y,ty,ps,af,none⟩ K:=
 JT fun aa w Cg hw=>by
  subst iI hn;obtain⟨w',h1,h2⟩:=OE (P:=P) hw q ha hv hj sF hu;refine⟨w',_,?_,h2,hk⟩;simp only[execOp,Cg.ev hx,Cg.ev hy,Instr.storeAt,Instr.sureAddr,storeVar,Sem.run_bind,Sem.run_pure,Result.andThen,lN w sz];simp[h1]
theorem aaf{P:Program}{N:cC}{w0:World}{env:Env}{L:List ai}{ty:TypeId}{ps:String}{af:Array Edge}{τ:Type}{t:TypeId}{x y:Operand}{i k p:Nat}{s:Sv}{xs:List (Sl τ)}{a:Sl τ}(a':Sl τ)
  (sz:(P.info? t).map (·.size)=some 1) (hx:ev env x=some (.pointer (some ⟨s.b,p,none⟩))) (hy:ev env y=some a'.sv.val) [q:fX L s (cq (τ:=τ)) 1 xs i] (iI:p=s.o+k*1) (ha:xs[k]? =some a) {L':List ai} [hu:fO L i (own cq 1 s (xs.set k a')) L'] (hk:K undef (L')):
  aS P N w0 env L ⟨none, .store t x y,ty,ps,af,none⟩ K:=
 yQ (j:=0) (a':=a') sz hx hy (q:=q) iI ha (by rw[Sv.jM];simp[Sv.one]) (by rw[Sv.jM];rfl) (by decide) (by rw[Sv.jM];rfl) hk
theorem aag{α:Type}{enc:α->Array Value}{x y:Operand}{tx gM e:TypeId}{i b o dl dc:Nat}{sv:Sv}{ys:List α}{cs:Array Value}{T:TypeId}(hx:ev env x=some (.slice (some ⟨b,o,none⟩) dl dc))(hy:ev env y=some sv.val)
  [ht:fA P tx e 1] [hh:Has L b cs T i] [q:Hd w0 L sv enc 1 ys] [he:bp enc 1] (h0:0<ys.length) (hl:ys.length<=dl) (ho:o+ys.length<=cs.size)
  {cs':Array Value} {L':List ai} (gU:over cs o (aJ enc ys).toArray=cs') [hu:fO L i (aq b cs' T) L'] (hk:K ((.int .i64 (ys.length:Nat))) (L')):
  aS P N w0 env L ⟨d, .call {callee:= .builtin .copy,args:= #[x,y],argTypes:= #[tx,gM]},ty,ps,af,none⟩ K:=fun a w ha hw=>by
 have r:=q.h w hw;have hn:=r.some (i:=0) h0;have hlen:=r.len;rw[Sv.iA hn,r.ok.sp (by have:=r.ok.le;omega)]at hy;have hs:(aJ enc ys).toArray.size=ys.length:=by rw[auj,ia,avy]
 have kB:=hk;rw[←hs]at kB;refine aae (vs:=(aJ enc ys).toArray) hx hy ?_ (fun w hw j hj=>?_) ?_ (by rw[hs];exact ho) gU kB a w ha hw
 ·
  rw[hs];simp only[Nat.min_def];split<;>omega
 ·
  rw[hs]at hj;have:=oc (enc:=enc) ys j ys[j] (by simp[hj]) 0 (by decide);have r2:=(q.h w hw).row j ys[j] (by simp[hj]) 0 (by decide);simp only[avy,auH]at this r2;rw[Addr.gT,rH,r2,←this];simp
 ·
  rw[at4];intro v hv;exact vp (enc:=enc) ys v (by simpa using hv)
end
section
variable {τ:Type} [dp:Deep τ] {enc:τ->Array Value} {c:Nat}
end
theorem PZ{l:List Oper}{rest:List Oper}{o:Oper}(hg:o.guard=none)(hd:dx N o.dst=true)(h:aS P N w0 env L o (fun v L'=>Sq P N w0 l Q rest (cy env o.dst v) L')):Sq P N w0 l Q (o::rest) env L:=fun a w ha hw=>by
 unfold wpList;rw[if_pos (sA hg)];refine .inl ?_;have h1:=h a w ha hw;unfold Oper.wp;generalize(execOp a.eval o).run P w=r at h1;unfold upon at h1;split at h1
 ·
  obtain⟨L',h2,h3⟩:=h1;exact h3 _ _ (ha.put hd _) h2
 ·
  obtain⟨L',h2,h3⟩:=h1;exact h3 _ _ (ha.put hd _) h2
 ·
  obtain⟨rfl,hc⟩:=h1;exact hc.mono fun e qM ⟨v,he,L',h2,h3⟩=>by subst he;exact h3 _ _ (ha.put hd _) h2
 exact h1.elim
end
section
variable {P:Program} {N:cC} {w0:World} {env:Env} {L Lq:List ai} {l:List Oper} {fs ord:List Nat} {mk:Nat->pv} {Q:Exit->Act->World->Prop} {k:Nat} {o:Oper}
def Ln(P:Program)(N:cC)(w0:World)(l:List Oper)(fs:List Nat)(mk:Nat->pv)(Q:Exit->Act->World->Prop)(ord:List Nat)(env:Env)(L Lq:List ai):Prop:= ∀a,dw N env a->sP P l fs mk Q w0 ord a L Lq
def Cert(P:Program)(N:cC)(env:Env)(l:List Oper)(fs:List Nat)(mk:Nat->pv)(ord:List Nat):Prop:=
 ∀i∈ord,fs.contains (i+2000)=true-> ∃oi,l[i]? =some oi/\oi.guard=none/\ ∀a,dw N env a->vC P oi a.eval (mk i)
theorem Cert.none(h:(ord.all fun i=> !fs.contains (i+2000))=true):Cert P N env l fs mk ord:=fun i hi hf=>by
 have:=aty.1 h i hi;rw[hf]at this;cases this
theorem Cert.one{i:Nat}{m:pv}(ho:l[i]? =some o)(hg:o.guard=Option.none)(hm:mk i=m)(h: ∀a,dw N env a->vC P o a.eval m)(hr:Cert P N env l fs mk (ord.filter fun j=> !(j==i))):Cert P N env l fs mk ord:=fun j hj hf=>by
 by_cases e:j=i
 ·
  subst e;exact⟨o,ho,hg,by rw[hm];exact h⟩
 exact hr j (atY.2 ⟨hj,by simpa using e⟩) hf
theorem Cert.at(h:Cert P N env l fs mk ord){a:Act}(ha:dw N env a): ∀i∈ord,fs.contains (i+2000)=true-> ∃oi,l[i]? =some oi/\oi.guard=Option.none/\vC P oi a.eval (mk i):=fun i hi hf=>by
 obtain⟨oi,h1,h2,h3⟩:=h i hi hf;exact⟨oi,h1,h2,h3 a ha⟩
theorem P0(h:Ex N w0 Q .normal env L):Ln P N w0 l fs mk Q [] env L Lq:=fun a ha w hw=>h a w ha hw
theorem P1{v:Value}(ho:l[k]? =some o)(hf:fs.contains k=false)(hd:dx N o.dst=true)(h1: ∀a,dw N env a->Region.wanted o (yielded l.toArray a.tmps)=true->vh P o a (Mem w0 Lq) v)(h2: ∀a,dw N env a->Region.wanted o (yielded l.toArray a.tmps)=false->v=undef)
  (hk:Ln P N w0 l fs mk Q ord (cy env o.dst v) L Lq) (my:fs.contains (k+1000)=false:=by rfl):Ln P N w0 l fs mk Q (k::ord) env L Lq:=fun a ha=>
 ⟨o,ho,by
  rw[if_neg (by rw[hf];exact auB)];exact⟨v,by rw[if_neg (by rw[my];exact auB)];exact h1 a ha,h2 a ha,hk _ (ha.put hd v)⟩⟩
theorem aah{v:Value}(ho:l[k]? =some o)(h:Yl P N w0 env L o v)(hk:Ln P N w0 l fs mk Q ord (cy env o.dst v) L Lq)(hg:o.guard=none:=by rfl)(hd:dx N o.dst=true:=by rfl)(hf:fs.contains k=false:=by rfl)(my:fs.contains (k+1000)=true:=by rfl):Ln P N w0 l fs mk Q (k::ord) env L Lq:=fun a ha=>
 ⟨o,ho,by
  rw[if_neg (by rw[hf];exact auB)];exact⟨v,fun _=>by rw[if_pos my];exact h a ha,(fun hw=>by rw[sA hg]at hw;cases hw),hk _ (ha.put hd v)⟩⟩
theorem gE{v:Value}(ho:l[k]? =some o)(h:Ry P N w0 env L o v)(hk:Ln P N w0 l fs mk Q ord (cy env o.dst v) L Lq)(hg:o.guard=none:=by rfl)(hd:dx N o.dst=true:=by rfl)(hf:fs.contains k=false:=by rfl)(my:fs.contains (k+1000)=true:=by rfl):Ln P N w0 l fs mk Q (k::ord) env L Lq:=aah ho h.yl hk hg hd hf my
theorem yR{v:Value}(ho:l[k]? =some o)(h:Yl P N w0 env Lq o v)(hk:Ln P N w0 l fs mk Q ord (cy env o.dst v) L Lq)(hg:o.guard=none:=by rfl)(hd:dx N o.dst=true:=by rfl)(hf:fs.contains k=false:=by rfl)(my:fs.contains (k+1000)=false:=by rfl):Ln P N w0 l fs mk Q (k::ord) env L Lq:=
 P1 (my:=my) ho hf hd (fun a ha _=>h a ha) (fun a ha hw=>by rw[sA hg]at hw;cases hw) hk
theorem an{v:Value}(ho:l[k]? =some o)(h:Ry P N w0 env Lq o v)(hk:Ln P N w0 l fs mk Q ord (cy env o.dst v) L Lq)(hg:o.guard=none:=by rfl)(hd:dx N o.dst=true:=by rfl)(hf:fs.contains k=false:=by rfl)(my:fs.contains (k+1000)=false:=by rfl):Ln P N w0 l fs mk Q (k::ord) env L Lq:=yR ho h.yl hk hg hd hf my
theorem P2{v:Value}{j t:Nat}{g:Bool}(ho:l[k]? =some o)(hg:o.guard=some (j,false))(hj:(l[j]?).bind (·.dst)=some t)(hv:look env t=some (.bool g))(h:(!g)=true->Yl P N w0 env Lq o v)
  (hk:Ln P N w0 l fs mk Q ord (cy env o.dst (if(!g)=true then v else undef)) L Lq) (hd:dx N o.dst=true:=by rfl) (hf:fs.contains k=false:=by rfl) (my:fs.contains (k+1000)=false:=by rfl):Ln P N w0 l fs mk Q (k::ord) env L Lq:=
 P1 (my:=my) ho hf hd (fun a ha hw=>by
  rw[yx ha hg hj hv]at hw
  cases g
  ·
   exact h rfl a ha
  ·
   cases hw) (fun a ha hw=>by
  rw[yx ha hg hj hv]at hw
  cases g
  ·
   cases hw
  ·
   rfl) hk
theorem aai(ho:l[k]? =some o)(h:aS P N w0 env L o fun v L'=> ∃gO,(∀w,Mem w0 L' w->Mem w0 gO w)/\(∀w,Mem w0 gO w->Mem w0 Lq w)/\Ln P N w0 l fs mk Q ord (cy env o.dst v) L' gO)(hg:o.guard=none:=by rfl)(hd:dx N o.dst=true:=by rfl)(hf:fs.contains k=true:=by rfl)(uk:fs.contains (k+2000)=false:=by rfl)(Aq:fs.contains (k+4000)=false:=by rfl)(vG:fs.contains (k+5000)=false:=by rfl)(hC:Cert P N env l fs mk ord:=by exact Cert.none rfl):Ln P N w0 l fs mk Q (k::ord) env L Lq:=fun a ha=>
 ⟨o,ho,by
  rw[if_pos hf,if_neg (by rw[uk];exact auB)];exact⟨hC.at ha,sA hg,fun w hw=>CH (fun v w' ⟨L',h1,gO,h2,h3,h4⟩=>⟨L',gO,h1,h2,h3,(fun h=>by rw[vG]at h;cases h),h4 _ (ha.put hd v)⟩) (h a w ha hw),fun h=>by rw[Aq]at h;cases h⟩⟩
theorem P3(ho:l[k]? =some o)(h:aS P N w0 env L o fun v L'=>(∀w,Mem w0 L' w->Mem w0 Lq w)/\(∀w,Mem w0 L' w->Mem w0 L w)/\Ln P N w0 l fs mk Q ord (cy env o.dst v) L' Lq)(hg:o.guard=none:=by rfl)(hd:dx N o.dst=true:=by rfl)(hf:fs.contains k=true:=by rfl)(uk:fs.contains (k+2000)=false:=by rfl)(Aq:fs.contains (k+4000)=false:=by rfl)(hC:Cert P N env l fs mk ord:=by exact Cert.none rfl):Ln P N w0 l fs mk Q (k::ord) env L Lq:=fun a ha=>
 ⟨o,ho,by
  rw[if_pos hf,if_neg (by rw[uk];exact auB)];exact⟨hC.at ha,sA hg,fun w hw=>CH (fun v w' ⟨L',h1,h2,h3,h4⟩=>⟨L',Lq,h1,h2,fun _ h=>h,(fun _=>h3),h4 _ (ha.put hd v)⟩) (h a w ha hw),fun h=>by rw[Aq]at h;cases h⟩⟩
theorem aaj(K:Value->List ai->Prop)(ho:l[k]? =some o)(h:aS P N w0 env L o K)(hF: ∀e,aS P N w0 env (e::L) o fun v L'=> ∃L1,(∀w,Mem w0 L' w->Mem w0 (e::L1) w)/\K v L1)(hk: ∀v L',K v L'->(∀w,Mem w0 L' w->Mem w0 Lq w)/\Ln P N w0 l fs mk Q ord (cy env o.dst v) L' Lq)(hC:Cert P N env l fs mk ord)(hg:o.guard=none:=by rfl)(hd:dx N o.dst=true:=by rfl)(hf:fs.contains k=true:=by rfl)(uk:fs.contains (k+2000)=false:=by rfl)(vG:fs.contains (k+5000)=false:=by rfl):Ln P N w0 l fs mk Q (k::ord) env L Lq:=fun a ha=>
 ⟨o,ho,by
  rw[if_pos hf,if_neg (by rw[uk];exact auB)];exact⟨hC.at ha,sA hg,fun w hw=>CH (fun v w' ⟨L',h1,h2⟩=>⟨L',Lq,h1,(hk v L' h2).1,fun _ h=>h,(fun h=>by rw[vG]at h;cases h),(hk v L' h2).2 _ (ha.put hd v)⟩) (h a w ha hw),fun _ e w hw=>CH (fun v w' ⟨L',h1,L1,h2,h3⟩=>⟨L1,Lq,h2 _ h1,(hk v L1 h3).1,fun _ h=>h,(fun h=>by rw[vG]at h;cases h),(hk v L1 h3).2 _ (ha.put hd v)⟩) (hF e a w ha hw)⟩⟩
theorem vH{X:Type}{val:X->Value}{L':X->List ai}{L2:ai->X->List ai}{pr:X->Prop}{pre:Prop}{f:FuncId}{xs:List Operand}{ts:Array TypeId}{vs:List Value}{d:Option Tmp}{ty:TypeId}{ps:String}{af:Array Edge}[hf:aI P f](ho:l[k]? =some ⟨d, .call {callee:= .value (.func f),args:=xs.toArray,argTypes:=ts},ty,ps,af,none⟩)(hx:iz env xs=some vs)
  [hc:bV P f w0 L vs X val L' pr pre] [JV: ∀e,bV P f w0 (e::L) vs X val (L2 e) pr pre] (hp:pre) (hP: ∀e x w,Mem w0 (L2 e x) w->Mem w0 (e::L' x) w) (hC:Cert P N env l fs mk ord) (hk: ∀x,pr x->(∀w,Mem w0 (L' x) w->Mem w0 Lq w)/\Ln P N w0 l fs mk Q ord (cy env d (val x)) (L' x) Lq)
  (hd:dx N d=true:=by rfl) (Ar:fs.contains k=true:=by rfl) (uk:fs.contains (k+2000)=false:=by rfl) (vG:fs.contains (k+5000)=false:=by rfl):Ln P N w0 l fs mk Q (k::ord) env L Lq:=
 aaj (fun v L1=> ∃x,v=val x/\L1=L' x/\pr x) ho (qk hx hp fun x k9=>⟨x,rfl,rfl,k9⟩) (fun e=>PU (qk (K:=fun v L1=> ∃x,v=val x/\L1=L2 e x/\pr x) hx hp fun x k9=>⟨x,rfl,rfl,k9⟩) fun v L1 ⟨x,h1,h2,h3⟩=>⟨L1,fun _ h=>h,L' x,fun w hw=>hP e x w (by rw[←h2];exact hw),x,h1,rfl,h3⟩)
  (fun v L1 ⟨x,h1,h2,h3⟩=>by subst h1;subst h2;exact hk x h3) hC rfl hd Ar uk vG
theorem pw{m:pv}(ho:l[k]? =some o)(hm:mk k=m)(h: ∀a,dw N env a->vC P o a.eval m)(hC:Cert P N env l fs mk ord)(hk: ∀x:m.X,Ln P N w0 l fs mk Q ord (cy env o.dst (m.v x)) (m.e x::L) Lq)(hg:o.guard=none:=by rfl)(hd:dx N o.dst=true:=by rfl)(hf:fs.contains k=true:=by rfl)(my:fs.contains (k+2000)=true:=by rfl):Ln P N w0 l fs mk Q (k::ord) env L Lq:=fun a ha=>by
 subst hm;refine⟨o,ho,?_⟩;rw[if_pos hf,if_pos my];exact⟨hC.at ha,hg,h a ha,fun x=>hk x _ (ha.put hd _)⟩
theorem dr(ho:l[k]? =some o)(h:aS P N w0 env L o fun v L'=>(∀w,Mem w0 L' w->Mem w0 Lq w)/\Ln P N w0 l fs mk Q ord (cy env o.dst v) L' Lq)(hg:o.guard=none:=by rfl)(hd:dx N o.dst=true:=by rfl)(hf:fs.contains k=true:=by rfl)(uk:fs.contains (k+2000)=false:=by rfl)(Aq:fs.contains (k+4000)=false:=by rfl)(vG:fs.contains (k+5000)=false:=by rfl)(hC:Cert P N env l fs mk ord:=by exact Cert.none rfl):Ln P N w0 l fs mk Q (k::ord) env L Lq:=
 aai (uk:=uk) (Aq:=Aq) (vG:=vG) (hC:=hC) ho (PU h fun v L' ⟨h1,h2⟩=>⟨L',fun _ h=>h,Lq,h1,fun _ h=>h,h2⟩) hg hd hf
def JW:List (Nat×pv)->Nat->pv
 |[],_=>⟨Unit,fun _=>undef,fun _=> .emp⟩
 |(i,m)::r,k=>match Nat.beq i k with
  |true=>m
  |false=>JW r k
@[reducible] def mz (P:Program)(t:TypeId){z:Value}[_hz:eP P t z]:pv:=⟨Nat,fun b=> .pointer (some ⟨b,0,none⟩),fun b=>aq b z.cells t⟩
theorem mA{t:TypeId}{z:Value}[hz:eP P t z]{d:Option Tmp}{ty:TypeId}{ps:String}{af:Array Edge}{gd:Option (Nat×Bool)}: ∀a,dw N env a->vC P ⟨d, .alloc t,ty,ps,af,gd⟩ a.eval (mz P t):=fun a _ w0 w L hw=>by
 refine⟨w.heap.size,w.alloc (.cells z.cells t),?_,hw.alloc z.cells t⟩;simp only[execOp,Instr.alloc,newVar,newRow,Sem.run_bind,EO w hz,newObj,Sem.run,Result.andThen,Sem.run_pure];rfl
@[reducible] def qm {α:Type}(enc:α->Array Value)(c n:Nat)(xs:List α):pv:=⟨Nat,fun b=>Sv.val ⟨false,b,0,n,n,none⟩,fun b=>own enc c ⟨false,b,0,n,n,none⟩ xs⟩
theorem As{α:Type}{enc:α->Array Value}{c:Nat}{t e:TypeId}{cw n:Nat}{d:Option Tmp}{ty:TypeId}{ps:String}{af:Array Edge}{gd:Option (Nat×Bool)}[ht:eK P t e c cw][he:bp enc c]{ops:List (Nat×Operand)}{vals:List Value}(xs:List α)(hx:ke env ops=some (idx vals 0))(hv:vals.map Value.cells=xs.map enc)(hn:xs.length=n)(hc:0<n*c)(rI:n*c<=16777216):
  ∀a,dw N env a->vC P ⟨d, .buildSlice t n ops.toArray,ty,ps,af,gd⟩ a.eval (qm enc c n xs):=fun a ha w0 w L hw=>by
 subst hn;have e1:(ops.toArray.map fun(p:Nat×Operand)=>match p with|(i,x)=>(i,a.eval x))=(idx vals 0).toArray:=by
  rw[←ha.ke hx];simp
 refine⟨w.heap.size,_,?_,hw.call (wT (enc:=enc) (c:=c) (xs:=xs) (cs:=(aJ enc xs).toArray) (e:=e) rfl xs.length xs.length rfl (att _) (E5 hc rI) (by simp[ia]) fun i x hx j hj=>by rw[←oc (enc:=enc) xs i x hx j hj];simp)⟩;simp only[execOp,e1,Sem.run_bind,E6 ht hv hc rI w,Result.andThen,Sem.run_pure];rfl
theorem qn{id:Nat}[kW Q](fs:List Nat)(A:List (List Nat))(ord:List Nat)(Lq:List ai)(mk:List (Nat×pv))(JX:(fs.all fun j=>decide (j<2000)||decide (4000<=j)||fs.contains (j -2000))=true)(nB: ∀w,Mem w0 L w->Mem w0 Lq w)(hm:P.follows .mixedOrders=true)(hB:FD l fs A ord=true)(h:Ln P N w0 l fs (JW mk) Q ord env L Lq)(bn:l.length<=1000:=by decide)(cI:qL l=true:=by kernel_rfl):Cw P N w0 Q (.region id l.toArray true) env L:=fun a _ ha hw=>by
 refine PT A ord cI hm hB hw.EB nB (fun k w8 hk=>?_) (h a ha)
 cases h2:fs.contains (k+2000)with
 |false=>rfl
 |true=>
  have:=aty.1 JX (k+2000) (by simpa using h2);rw[auA,auA,decide_eq_true_eq,decide_eq_true_eq]at this;rcases this with(h|h)|h
  ·
   omega
  ·
   omega
  rw[Nat.add_sub_cancel,hk]at h;cases h
theorem ji{id:Nat}[kW Q](fs:List Nat)(A:List (List Nat))(ord:List Nat)(Lq:List ai)(nB: ∀w,Mem w0 L w->Mem w0 Lq w)(hm:P.follows .mixedOrders=true)(hB:FC l fs A ord=true)(h:Ln P N w0 l fs (JW []) Q ord env L Lq)(cI:qL l=true:=by kernel_rfl):Cw P N w0 Q (.region id l.toArray true) env L:=fun a _ ha hw=>
 aac A ord cI hm hB hw.EB nB (h a ha)
end
theorem Ry.n{P:Program}{N:cC}{w0:World}{env:Env}{L:List ai}{d:Option Tmp}{ty:TypeId}{ps:String}{af:Array Edge}{gd:Option (Nat×Bool)}{s:TypeId}{x:Operand}{fi off b o o':Nat}[hf:dn P s fi off](hx:ev env x=some (.pointer (some ⟨b,o,none⟩)))(ho:Nat.add o off=o':=by(simp only[Nat.add_eq,Nat.reduceAdd];exact rfl)):
  Ry P N w0 env L ⟨d, .fieldAddr s x fi,ty,ps,af,gd⟩ (.pointer (some ⟨b,o',none⟩)):=aN hx ho
theorem tS{P:Program}{N:cC}{w0:World}{l:List Oper}{Q:Exit->Act->World->Prop}{rest:List Oper}{env:Env}{L:List ai}{d:Option Tmp}{ty:TypeId}{ps:String}{af:Array Edge}(op:Op)(gd:Option (Nat×Bool))(h:Sq P N w0 l Q (⟨d,op,ty,ps,af,gd⟩::rest) env L):Sq P N w0 l Q (⟨d,op,ty,ps,af,gd⟩::rest) env L:=h
theorem tQ{P:Program}{N:cC}{w0:World}{l:List Oper}{fs:List Nat}{F:Act->Prop}{k:Nat}{rest:List Oper}{env:Env}{L:List ai}{d:Option Tmp}{ty:TypeId}{ps:String}{af:Array Edge}(op:Op)(gd:Option (Nat×Bool))(h:Qt P N w0 l fs F k (⟨d,op,ty,ps,af,gd⟩::rest) env L):Qt P N w0 l fs F k (⟨d,op,ty,ps,af,gd⟩::rest) env L:=h
structure Wr(p:Prop):Prop where
 h:p
theorem Gs{G G':Prop}(k:G')(h:Wr G'->G:=by
 intro k
 first
 |(with_reducible refine tS (.move _) none ?_);exact ag (bo rfl) k.h
 |(with_reducible refine tS (.assign _) none ?_);exact ag (gS rfl) k.h
 |(with_reducible refine tS (.fieldAddr _ _ _) none ?_);exact ag (Ry.n rfl) k.h
 |(with_reducible refine tS (.load _ _) none ?_);exact ag (bI rfl) k.h
 |(with_reducible refine tS (.load _ _) none ?_);exact ag (kC rfl) k.h
 |(with_reducible refine tS (.binOp .add _ _ _ _) none ?_);exact ag (yt rfl rfl (by omega)) k.h
 |(with_reducible refine tS (.binOp .sub _ _ _ _) none ?_);exact ag (zT rfl rfl (by omega)) k.h
 |(with_reducible refine tS (.pick _ _ _) none ?_);exact ag (zO rfl rfl rfl) k.h
 |(with_reducible refine tS (.pick _ _ _) none ?_);exact ag (zN rfl rfl rfl) k.h
 |(with_reducible refine tS (.unOp _ _ _) none ?_);exact ag (nC rfl) k.h
 |(with_reducible refine tS (.binOp _ _ _ _ _) none ?_);exact ag (fE rfl rfl rfl) k.h
 |(with_reducible refine tS (.nilCheck _) none ?_);exact ag (gq rfl) k.h
 |(with_reducible refine tS (.call _) none ?_);exact ag (tY rfl) k.h
 |(with_reducible refine tS (.store _ _ _) none ?_);exact X8 rfl rfl k.h
 |(with_reducible refine tS (.call _) none ?_);exact cO (bM rfl trivial) k.h):G:=h ⟨k⟩
theorem Gq{G G':Prop}(k:G')(h:Wr G'->G:=by
 intro k
 first
 |(with_reducible refine tQ (.move _) none ?_);exact cr (bo rfl) k.h
 |(with_reducible refine tQ (.assign _) none ?_);exact cr (gS rfl) k.h
 |(with_reducible refine tQ (.fieldAddr _ _ _) none ?_);exact cr (Ry.n rfl) k.h
 |(with_reducible refine tQ (.load _ _) none ?_);exact cr (bI rfl) k.h
 |(with_reducible refine tQ (.load _ _) none ?_);exact cr (kC rfl) k.h
 |(with_reducible refine tQ (.binOp .add _ _ _ _) none ?_);exact cr (yt rfl rfl (by omega)) k.h
 |(with_reducible refine tQ (.binOp .sub _ _ _ _) none ?_);exact cr (zT rfl rfl (by omega)) k.h
 |(with_reducible refine tQ (.pick _ _ _) none ?_);exact cr (zO rfl rfl rfl) k.h
 |(with_reducible refine tQ (.pick _ _ _) none ?_);exact cr (zN rfl rfl rfl) k.h
 |(with_reducible refine tQ (.unOp _ _ _) none ?_);exact cr (nC rfl) k.h
 |(with_reducible refine tQ (.binOp _ _ _ _ _) none ?_);exact cr (fE rfl rfl rfl) k.h
 |(with_reducible refine tQ (.nilCheck _) none ?_);exact cr (gq rfl) k.h
 |(with_reducible refine tQ (.call _) none ?_);exact cr (tY rfl) k.h):G:=h ⟨k⟩
theorem Gg{G G':Prop}(k:G')(h:Wr G'->G:=by
 intro k
 first
 |(with_reducible refine tS (.move _) (some (_,false)) ?_);exact bJ rfl rfl rfl (fun hg=>Ry.yl (bo rfl)) k.h
 |(with_reducible refine tS (.fieldAddr _ _ _) (some (_,false)) ?_);exact bJ rfl rfl rfl (fun hg=>Ry.yl (Ry.n rfl)) k.h
 |(with_reducible refine tS (.load _ _) (some (_,false)) ?_);exact bJ rfl rfl rfl (fun hg=>Ry.yl (bI (aF hg rfl))) k.h
 |(with_reducible refine tS (.binOp _ _ _ _ _) (some (_,false)) ?_);exact bJ rfl rfl rfl (fun hg=>Ry.yl (fE (aF hg rfl) rfl rfl)) k.h
 |(with_reducible refine tS (.binOp _ _ _ _ _) (some (_,false)) ?_);exact bJ rfl rfl rfl (fun hg=>Ry.yl (fE (aF hg rfl) (aF hg rfl) rfl)) k.h
 |(with_reducible refine tS (.call _) (some (_,false)) ?_);exact bJ rfl rfl rfl (fun hg=>Ry.yl (tY (aF hg rfl))) k.h
 |(with_reducible refine tS (.move _) (some (_,true)) ?_);exact jw rfl rfl rfl (fun hg=>Ry.yl (bo rfl)) k.h
 |(with_reducible refine tS (.fieldAddr _ _ _) (some (_,true)) ?_);exact jw rfl rfl rfl (fun hg=>Ry.yl (Ry.n rfl)) k.h
 |(with_reducible refine tS (.load _ _) (some (_,true)) ?_);exact jw rfl rfl rfl (fun hg=>Ry.yl (bI (aF hg rfl))) k.h
 |(with_reducible refine tS (.binOp _ _ _ _ _) (some (_,true)) ?_);exact jw rfl rfl rfl (fun hg=>Ry.yl (fE (aF hg rfl) rfl rfl)) k.h
 |(with_reducible refine tS (.binOp _ _ _ _ _) (some (_,true)) ?_);exact jw rfl rfl rfl (fun hg=>Ry.yl (fE (aF hg rfl) (aF hg rfl) rfl)) k.h
 |(with_reducible refine tS (.call _) (some (_,true)) ?_);exact jw rfl rfl rfl (fun hg=>Ry.yl (tY (aF hg rfl))) k.h):G:=h ⟨k⟩
theorem Gh{G G':Prop}(k:G')(h:Wr G'->G:=by
 intro k
 first
 |(with_reducible refine tQ (.move _) (some (_,false)) ?_);exact jx rfl rfl rfl (fun hg=>Ry.yl (bo rfl)) k.h
 |(with_reducible refine tQ (.fieldAddr _ _ _) (some (_,false)) ?_);exact jx rfl rfl rfl (fun hg=>Ry.yl (Ry.n rfl)) k.h
 |(with_reducible refine tQ (.load _ _) (some (_,false)) ?_);exact jx rfl rfl rfl (fun hg=>Ry.yl (bI (aF hg rfl))) k.h
 |(with_reducible refine tQ (.binOp _ _ _ _ _) (some (_,false)) ?_);exact jx rfl rfl rfl (fun hg=>Ry.yl (fE (aF hg rfl) rfl rfl)) k.h
 |(with_reducible refine tQ (.binOp _ _ _ _ _) (some (_,false)) ?_);exact jx rfl rfl rfl (fun hg=>Ry.yl (fE (aF hg rfl) (aF hg rfl) rfl)) k.h
 |(with_reducible refine tQ (.call _) (some (_,false)) ?_);exact jx rfl rfl rfl (fun hg=>Ry.yl (tY (aF hg rfl))) k.h
 |(with_reducible refine tQ (.move _) (some (_,true)) ?_);exact gp rfl rfl rfl (fun hg=>Ry.yl (bo rfl)) k.h
 |(with_reducible refine tQ (.fieldAddr _ _ _) (some (_,true)) ?_);exact gp rfl rfl rfl (fun hg=>Ry.yl (Ry.n rfl)) k.h
 |(with_reducible refine tQ (.load _ _) (some (_,true)) ?_);exact gp rfl rfl rfl (fun hg=>Ry.yl (bI (aF hg rfl))) k.h
 |(with_reducible refine tQ (.binOp _ _ _ _ _) (some (_,true)) ?_);exact gp rfl rfl rfl (fun hg=>Ry.yl (fE (aF hg rfl) rfl rfl)) k.h
 |(with_reducible refine tQ (.binOp _ _ _ _ _) (some (_,true)) ?_);exact gp rfl rfl rfl (fun hg=>Ry.yl (fE (aF hg rfl) (aF hg rfl) rfl)) k.h
 |(with_reducible refine tQ (.call _) (some (_,true)) ?_);exact gp rfl rfl rfl (fun hg=>Ry.yl (tY (aF hg rfl))) k.h):G:=h ⟨k⟩
theorem tR{P:Program}{N:cC}{w0:World}{Q:Exit->Act->World->Prop}{env:Env}{L:List ai}{id:Nat}{l:Array Oper}(h:Cw P N w0 Q (.region id l false) env L):Cw P N w0 Q (.region id l false) env L:=h
theorem Gc{G G':Prop}(k:G')(h:Wr G'->G:=by
 intro k
 repeat (first
  |(with_reducible refine ET ?_)
  |(with_reducible refine EW ?_)
  |(with_reducible refine ER ?_)
  |(with_reducible refine Oo ?_)
  |(with_reducible refine I3 ?_)
  |(with_reducible refine Ou ?_)
  |(with_reducible refine Ot ?_)
  |(with_reducible refine On ?_)
  |(with_reducible refine Ox ?_)
  |(with_reducible refine Ow ?_)
  |(with_reducible refine Ov ?_)
  |(with_reducible refine Oq ?_)
  |(with_reducible refine P0 ?_)
  |(with_reducible refine Oh ?_)
  |(with_reducible refine tR ?_);refine EU ?_)
 exact k.h):G:=h ⟨k⟩
theorem Gi{G G':Prop}(k:G')(h:Wr G'->G:=by
 intro k
 first
  |(with_reducible refine ET ?_)
  |(with_reducible refine EW ?_)
  |(with_reducible refine ER ?_)
  |(with_reducible refine Oo ?_)
  |(with_reducible refine I3 ?_)
  |(with_reducible refine Ou ?_)
  |(with_reducible refine Ot ?_)
  |(with_reducible refine On ?_)
  |(with_reducible refine Ox ?_)
  |(with_reducible refine Ow ?_)
  |(with_reducible refine Ov ?_)
  |(with_reducible refine Oq ?_)
  |(with_reducible refine P0 ?_)
  |(with_reducible refine Oh ?_)
  |(with_reducible refine tR ?_);refine EU ?_
 exact k.h):G:=h ⟨k⟩
theorem bz{p q:Prop}(h:p)(e:p=q:=by(try simp only[Z0,Z1,Z2,Z3,Z4,Z5,Z6,Z7,Z8,Z9]);exact rfl):q:=e▸h
theorem tSn{P:Program}{N:cC}{w0:World}{l:List Oper}{Q:Exit->Act->World->Prop}{rest:List Oper}{env:Env}{L:List ai}{d:Option Tmp}{ty:TypeId}{ps:String}{af:Array Edge}{op:Op}(h:Sq P N w0 l Q (⟨d,op,ty,ps,af,none⟩::rest) env L):Sq P N w0 l Q (⟨d,op,ty,ps,af,none⟩::rest) env L:=h
theorem tSg{P:Program}{N:cC}{w0:World}{l:List Oper}{Q:Exit->Act->World->Prop}{rest:List Oper}{env:Env}{L:List ai}{d:Option Tmp}{ty:TypeId}{ps:String}{af:Array Edge}{op:Op}{g:Nat×Bool}(h:Sq P N w0 l Q (⟨d,op,ty,ps,af,some g⟩::rest) env L):Sq P N w0 l Q (⟨d,op,ty,ps,af,some g⟩::rest) env L:=h
theorem tQn{P:Program}{N:cC}{w0:World}{l:List Oper}{fs:List Nat}{F:Act->Prop}{k:Nat}{rest:List Oper}{env:Env}{L:List ai}{d:Option Tmp}{ty:TypeId}{ps:String}{af:Array Edge}{op:Op}(h:Qt P N w0 l fs F k (⟨d,op,ty,ps,af,none⟩::rest) env L):Qt P N w0 l fs F k (⟨d,op,ty,ps,af,none⟩::rest) env L:=h
theorem tQg{P:Program}{N:cC}{w0:World}{l:List Oper}{fs:List Nat}{F:Act->Prop}{k:Nat}{rest:List Oper}{env:Env}{L:List ai}{d:Option Tmp}{ty:TypeId}{ps:String}{af:Array Edge}{op:Op}{g:Nat×Bool}(h:Qt P N w0 l fs F k (⟨d,op,ty,ps,af,some g⟩::rest) env L):Qt P N w0 l fs F k (⟨d,op,ty,ps,af,some g⟩::rest) env L:=h
theorem Gz{G G':Prop}(k:G')(h:Wr G'->G:=by
 intro k
 first
 |(with_reducible refine tSn ?_);refine Gs ?_;exact k.h
 |(with_reducible refine tSg ?_);refine Gg ?_;exact k.h
 |(with_reducible refine tQn ?_);refine Gq ?_;exact k.h
 |(with_reducible refine tQg ?_);refine Gh ?_;exact k.h
 |refine Gc ?_;exact k.h):G:=h ⟨k⟩
theorem av{G G':Prop}(k:G')(h:Wr G'->G:=by intro k;(iterate 2 (refine Gz ?_));exact k.h):G:=h ⟨k⟩
theorem al{G G':Prop}(k:G')(h:Wr G'->G:=by intro k;(iterate 3 (refine Gz ?_));exact k.h):G:=h ⟨k⟩
theorem ar{G G':Prop}(k:G')(h:Wr G'->G:=by intro k;(iterate 4 (refine Gz ?_));exact k.h):G:=h ⟨k⟩
theorem aQ{G G':Prop}(k:G')(h:Wr G'->G:=by intro k;(iterate 5 (refine Gz ?_));exact k.h):G:=h ⟨k⟩
theorem aZ{G G':Prop}(k:G')(h:Wr G'->G:=by intro k;(iterate 6 (refine Gz ?_));exact k.h):G:=h ⟨k⟩
theorem di{G G':Prop}(k:G')(h:Wr G'->G:=by intro k;(iterate 7 (refine Gz ?_));exact k.h):G:=h ⟨k⟩
theorem fI{G G':Prop}(k:G')(h:Wr G'->G:=by intro k;(iterate 8 (refine Gz ?_));exact k.h):G:=h ⟨k⟩
theorem ja{G G':Prop}(k:G')(h:Wr G'->G:=by intro k;(iterate 9 (refine Gz ?_));exact k.h):G:=h ⟨k⟩
theorem qW{G G':Prop}(k:G')(h:Wr G'->G:=by intro k;(iterate 10 (refine Gz ?_));exact k.h):G:=h ⟨k⟩
theorem qo{G G':Prop}(k:G')(h:Wr G'->G:=by intro k;(iterate 11 (refine Gz ?_));exact k.h):G:=h ⟨k⟩
theorem CI{G G':Prop}(k:G')(h:Wr G'->G:=by intro k;(iterate 12 (refine Gz ?_));exact k.h):G:=h ⟨k⟩
theorem JY{G G':Prop}(k:G')(h:Wr G'->G:=by intro k;(iterate 13 (refine Gz ?_));exact k.h):G:=h ⟨k⟩
theorem aak{G G':Prop}(k:G')(h:Wr G'->G:=by intro k;(iterate 14 (refine Gz ?_));exact k.h):G:=h ⟨k⟩
theorem JZ{G G':Prop}(k:G')(h:Wr G'->G:=by intro k;(iterate 15 (refine Gz ?_));exact k.h):G:=h ⟨k⟩
theorem J0{G G':Prop}(k:G')(h:Wr G'->G:=by intro k;(iterate 16 (refine Gz ?_));exact k.h):G:=h ⟨k⟩
theorem P4{G G':Prop}(k:G')(h:Wr G'->G:=by intro k;(iterate 17 (refine Gz ?_));exact k.h):G:=h ⟨k⟩
theorem P5{G G':Prop}(k:G')(h:Wr G'->G:=by intro k;(iterate 18 (refine Gz ?_));exact k.h):G:=h ⟨k⟩
theorem aal{G G':Prop}(k:G')(h:Wr G'->G:=by intro k;(iterate 20 (refine Gz ?_));exact k.h):G:=h ⟨k⟩
theorem aam{G G':Prop}(k:G')(h:Wr G'->G:=by intro k;(iterate 21 (refine Gz ?_));exact k.h):G:=h ⟨k⟩
theorem aan{G G':Prop}(k:G')(h:Wr G'->G:=by intro k;(iterate 22 (refine Gz ?_));exact k.h):G:=h ⟨k⟩
theorem aao{G G':Prop}(k:G')(h:Wr G'->G:=by intro k;(iterate 24 (refine Gz ?_));exact k.h):G:=h ⟨k⟩
theorem aap{G G':Prop}(k:G')(h:Wr G'->G:=by intro k;(iterate 27 (refine Gz ?_));exact k.h):G:=h ⟨k⟩
theorem aaq{G G':Prop}(k:G')(h:Wr G'->G:=by intro k;(iterate 28 (refine Gz ?_));exact k.h):G:=h ⟨k⟩
theorem P6{G G':Prop}(k:G')(h:Wr G'->G:=by intro k;(iterate 29 (refine Gz ?_));exact k.h):G:=h ⟨k⟩
theorem aar{G G':Prop}(k:G')(h:Wr G'->G:=by intro k;(iterate 31 (refine Gz ?_));exact k.h):G:=h ⟨k⟩
theorem gu{G G':Prop}(k:G')(h:Wr G'->G:=by intro k;(iterate 2 (refine Gi ?_));exact k.h):G:=h ⟨k⟩
theorem kD{G G':Prop}(k:G')(h:Wr G'->G:=by intro k;(iterate 3 (refine Gi ?_));exact k.h):G:=h ⟨k⟩
theorem J1{G G':Prop}(k:G')(h:Wr G'->G:=by intro k;(iterate 4 (refine Gi ?_));exact k.h):G:=h ⟨k⟩
theorem P7{G G':Prop}(k:G')(h:Wr G'->G:=by intro k;(iterate 5 (refine Gi ?_));exact k.h):G:=h ⟨k⟩
theorem mB{G G':Prop}(k:G')(h:Wr G'->G:=by intro k;(iterate 6 (refine Gi ?_));exact k.h):G:=h ⟨k⟩
theorem Gy7{G G':Prop}(k:G')(h:Wr G'->G:=by intro k;(iterate 7 (refine Gi ?_));exact k.h):G:=h ⟨k⟩
theorem Gb{G p q A B:Prop}(a:p->A)(b:q->B)(h:Wr (p->A)->Wr (q->B)->G:=by
 intro a b;refine lO rfl (fun h=>?_) (fun h=>?_)
 ·
  exact a.h (bz h)
 exact b.h (bz h)):G:=h ⟨a⟩ ⟨b⟩
theorem Gr{P:Program}{fn:Func}{w0:World}{L:List ai}{env:Env}{R:Ending->World->Prop}{n:Nat}{e:Exit}{v:Value}(h: ∀w,Mem w0 L w->R (.returned v) w)(he:e= .ret\/e= .normal:=by exact .inl rfl)(hr: ∀a w,dw ⟨n,[],none⟩ env a->Mem w0 L w->(results fn a.tmps).run P w= .ok v w:=by
 first
 |exact OG rfl (z8 rfl)
 |exact Yw rfl (by first|exact z8 rfl|exact Aa rfl) (by first|exact z8 rfl|exact Aa rfl)
 |exact Yx rfl (by first|exact z8 rfl|exact Aa rfl) (by first|exact z8 rfl|exact Aa rfl) (by first|exact z8 rfl|exact Aa rfl)
 |exact OG rfl (Aa rfl)):Ex ⟨n,[],none⟩ w0 (rA P fn R) e env L:=ez he hr h
theorem Ge{a b:Bool}{w0 w1:World}{L M:List ai}[hk:ah L M](h:a=b)(hw:Mem w0 L w1):Ending.returned (.bool a)= .returned (.bool b)/\Mem w0 M w1:=⟨by rw[h],ah.mem hw⟩
theorem Gf{a b:Int}{k:IntKind}{w0 w1:World}{L M:List ai}[hk:ah L M](h:a=b)(hw:Mem w0 L w1):Ending.returned (.int k a)= .returned (.int k b)/\Mem w0 M w1:=⟨by rw[h],ah.mem hw⟩
theorem Gk{P:Program}{f:FuncId}{a:Array Value}{w0 w:World}{L:List ai}{X:Type}{val:X->Value}{pr:X->Prop}(E:X->List ai)(hw:Mem w0 L w)(h:Calls P f a w fun e w'=> ∃x,e= .returned (val x)/\pr x/\Mem w (E x) w'):Calls P f a w fun e w'=> ∃x,e= .returned (val x)/\pr x/\Mem w0 (E x++L) w':=h.mono fun e w' ⟨x,h1,h2,h3⟩=>⟨x,h1,h2,hw.call h3⟩
theorem sb{e e':Env}(h:Sub e e':=by repeat (first|exact Sub.nil _|refine Sub.cons rfl ?_)):Sub e e':=h
theorem oM{p:Prop}(h:p:=by omega):p:=h
theorem oF{p:Prop}(h:p:=by first|omega|(simp only[];omega)):p:=h
theorem oK{p:Prop}(h:p:=by kernel_rfl):p:=h
theorem Gl0{P:Program}{fn:Func}{R:Ending->World->Prop}{N:Nat}{f:FuncId}{c:Code}{w:World}(hf:P.funcs[f]? =some fn)(hb:fn.body=some c)(hN:fn.ntmps=N)(hle:Nat.ble 0 N=true)(h:Cw P ⟨N,[],none⟩ w (rA P fn R) c [] []):Calls P f #[] w R:=yA (args:=[]) hf hb hN hle h
theorem ct{P:Program}{fn:Func}{R:Ending->World->Prop}{N:Nat}{f:FuncId}{c:Code}{w:World}{v0:Value}(hf:P.funcs[f]? =some fn)(hb:fn.body=some c)(hN:fn.ntmps=N)(hle:Nat.ble 1 N=true)(h:Cw P ⟨N,[],none⟩ w (rA P fn R) c [(0,v0)] []):Calls P f #[v0] w R:=yA (args:=[v0]) hf hb hN hle h
theorem dz{P:Program}{fn:Func}{R:Ending->World->Prop}{N:Nat}{f:FuncId}{c:Code}{w:World}{v0 v1:Value}(hf:P.funcs[f]? =some fn)(hb:fn.body=some c)(hN:fn.ntmps=N)(hle:Nat.ble 2 N=true)(h:Cw P ⟨N,[],none⟩ w (rA P fn R) c [(0,v0),(1,v1)] []):Calls P f #[v0,v1] w R:=yA (args:=[v0,v1]) hf hb hN hle h
theorem um{P:Program}{fn:Func}{R:Ending->World->Prop}{N:Nat}{f:FuncId}{c:Code}{w:World}{v0 v1 v2:Value}(hf:P.funcs[f]? =some fn)(hb:fn.body=some c)(hN:fn.ntmps=N)(hle:Nat.ble 3 N=true)(h:Cw P ⟨N,[],none⟩ w (rA P fn R) c [(0,v0),(1,v1),(2,v2)] []):Calls P f #[v0,v1,v2] w R:=yA (args:=[v0,v1,v2]) hf hb hN hle h
theorem P8{P:Program}{fn:Func}{R:Ending->World->Prop}{N:Nat}{f:FuncId}{c:Code}{w:World}{v0 v1 v2 v3:Value}(hf:P.funcs[f]? =some fn)(hb:fn.body=some c)(hN:fn.ntmps=N)(hle:Nat.ble 4 N=true)(h:Cw P ⟨N,[],none⟩ w (rA P fn R) c [(0,v0),(1,v1),(2,v2),(3,v3)] []):Calls P f #[v0,v1,v2,v3] w R:=yA (args:=[v0,v1,v2,v3]) hf hb hN hle h
theorem Gl5{P:Program}{fn:Func}{R:Ending->World->Prop}{N:Nat}{f:FuncId}{c:Code}{w:World}{v0 v1 v2 v3 v4:Value}(hf:P.funcs[f]? =some fn)(hb:fn.body=some c)(hN:fn.ntmps=N)(hle:Nat.ble 5 N=true)(h:Cw P ⟨N,[],none⟩ w (rA P fn R) c [(0,v0),(1,v1),(2,v2),(3,v3),(4,v4)] []):Calls P f #[v0,v1,v2,v3,v4] w R:=yA (args:=[v0,v1,v2,v3,v4]) hf hb hN hle h
end Go.ax
namespace Go.Kb
structure sS where
 len:Int
 dN:UInt16
 deriving DecidableEq
def sS.no:sS:=⟨0,0⟩
structure Nd where
 P9:List sS
 Qa:List Int
 hs:P9.length=16
 hn:Qa.length=16
 deriving DecidableEq
def Nd.sl(n:Nd)(b:Nat):sS:=n.P9.getD b sS.no
def Nd.nx(n:Nd)(b:Nat):Int:=n.Qa.getD b 0
def Nd.mk'(f:Nat->sS)(g:Nat->Int):Nd:=⟨(List.range 16).map f,(List.range 16).map g,by simp,by simp⟩
def Nd.zero:Nd:=Nd.mk' (fun _=>sS.no) (fun _=>0)
theorem Nd.ext'{m n:Nd}(h1: ∀b,b<16->m.sl b=n.sl b)(h2: ∀b,b<16->m.nx b=n.nx b):m=n:=by
 obtain⟨a,b,ha,hb⟩:=m;obtain⟨c,d,hc,hd⟩:=n;have e1:a=c:=auz fun i=>by
  rcases atA i 16 with hi|hi
  ·
   have:=h1 i hi;simp only[Nd.sl,av0]at this;rw[atp (by omega),atp (by omega)]at this⊢;simpa using this
  rw[atB (by omega),atB (by omega)]
 have e2:b=d:=auz fun i=>by
  rcases atA i 16 with hi|hi
  ·
   have:=h2 i hi;simp only[Nd.nx,av0]at this;rw[atp (by omega),atp (by omega)]at this⊢;simpa using this
  rw[atB (by omega),atB (by omega)]
 subst e1;subst e2;rfl
def Qb(k:Key)(n b:Nat):Key:=if n%2=0 then Cu k (n/2) (16*b%256)else Cu k (n/2) ((bf k (n/2)+b)%256)
def aas(p:cH):Nat:=((p.len -1)/4).toNat
structure Wy where
 steps:Nat
 key:Key
 deriving DecidableEq
def aat(k:Key)(s:Nat):Wy:=⟨s,ff k ((4*s:Nat):Int)⟩
def root:Wy:=⟨0,0#128⟩
def child(w:Wy)(b:Nat):Wy:=⟨w.steps+1,Qb w.key w.steps b⟩
def hit(r:Rt)(bits:Int)(w:Wy)(b:Nat):Bool:=decide (r.p.bits=bits)&&decide (aas r.p=w.steps)&&Y5 r.p (Qb w.key w.steps b)
def aau(bits:Int)(w:Wy)(b:Nat)(s:sS)(r:Rt):sS:=if hit r bits w b=true/\s.len<=r.p.len then⟨r.p.len+1,r.dN⟩else s
def aav(bits:Int)(R:List Rt)(w:Wy)(b:Nat):sS:=R.foldl (aau bits w b) sS.no
def aaw(W:List Wy)(w:Wy)(b:Nat):Int:=if child w b∈W then(W.idxOf (child w b):Nat)else 0
def aax(bits:Int)(W:List Wy)(R:List Rt)(w:Wy):Nd:=Nd.mk' (aav bits R w) (aaw W w)
def kst(k:Key)(n:Nat):Nat:=(Y4 k n).toNat
section
variable {k:Key} {n b:Nat}
end
def Wy.ok(w:Wy):Prop:=w.steps<32/\ff w.key ((4*w.steps:Nat):Int)=w.key
def nodes(bits:Int)(W:List Wy)(R:List Rt):List Nd:=W.map (aax bits W R)
section
variable {bits:Int} {W:List Wy} {R:List Rt} {w:Wy} {node b:Nat}
end
section
variable {bits:Int} {W:List Wy} {R:List Rt} {r:Rt} {f:Nat}
end
theorem Au{t:List Rt}(h:cL t=true){r:Rt}(hr:r∈t):bm r.p=true:=by
 obtain⟨i,hi⟩:=avg.1 hr;have bn:=(zz.1 hi).1
 cases hm:bm r.p with
 |true=>rfl
 |false=>rw[Fp bn (Pe hi hm)]at h;cases h
theorem xd{t:List Rt}(h:cL t=true):t.length<=256:=by
 rcases atA 256 t.length with h1|h1
 ·
  rw[Pc h1]at h;cases h
 exact h1
open Go.ax
def cf(x:Int):Array Value:= #[.int .i64 x]
instance:bp cf 1:=⟨fun _=>rfl,fun _=>by simp[cf,Value.oneCell']⟩
instance (x:Int):bQ (cf x) 0 (.int .i64 x):=⟨rfl⟩
instance:Deep Int:=Deep.flat cf 1
instance:gD Int cf 1:=⟨rfl,fun _=>rfl⟩
instance:Plain Int:=⟨fun _=>rfl⟩
end Go.Kb
namespace Go.ax
open Go.Kb
section
variable {P:Program} {N:cC} {w0:World} {env:Env} {L:List ai} {d:Option Tmp} {ty:TypeId} {ps:String} {af:Array Edge} {gd:Option (Nat×Bool)}
theorem gq{x:Operand}{a:Addr}(hx:ev env x=some (.pointer (some a))):Ry P N w0 env L ⟨d, .nilCheck x,ty,ps,af,gd⟩ (.pointer (some a)):=fun _ w ha _=>by
 simp only[execOp,ha.ev hx,Sem.run_pure]
variable {s:Sv} {xs:List Nd} {a:Nd}
end
section
variable {P:Program} {N:cC} {w0:World} {env:Env} {L:List ai} {l:List Oper} {Q:Exit->Act->World->Prop} {rest:List Oper} {ty:TypeId} {ps:String} {af:Array Edge}
variable {s:Sv} {xs:List Nd} {a:Nd}
end
open Go.RowKit
theorem FP{w0 w:World}{L R:List ai}{e:ai}{i:Nat}(q:L[i]? =some e)(d:L.eraseIdx i=R)(h:Mem w0 L w):Mem w0 (e::R) w:=by
 have:=h.perm (pn q);rwa [d]at this
theorem px{w0 w:World}{L R1 R2:List ai}{e1 e2:ai}{i j:Nat}(h1:L[i]? =some e1)(d1:L.eraseIdx i=R1)(h2:R1[j]? =some e2)(d2:R1.eraseIdx j=R2)(h:Mem w0 L w):Mem w0 (e1::e2::R2) w:=by
 subst d1;subst d2;exact h.perm ((pn h1).trans ((pn h2).cons _))
instance (priority:=low) ah.drop {L L':List ai}{e:ai}[k:ah L L']:ah (e::L) L':=⟨by
 obtain⟨R,hR⟩:=k.h;exact⟨e::R,(hR.cons e).trans avv.symm⟩⟩
section
variable {P:Program} {N:cC} {w0:World} {env:Env} {L:List ai} {Q:Exit->Act->World->Prop} {d:Option Tmp} {ty:TypeId} {ps:String} {af:Array Edge} {gd:Option (Nat×Bool)} {K:Value->List ai->Prop}
theorem Ry.to{o:Oper}{v v':Value}(h:Ry P N w0 env L o v)(e:v=v'):Ry P N w0 env L o v':=e▸h
theorem FQ{f:FuncId}{x:Operand}{lU:Array Value}{xs:List Operand}{ts:Array TypeId}{vs:List Value}{v:Value}[hf:aI P f](hx:ev env x=some (.func (.func f) #[] lU))(CJ:iz env xs=some vs)
  (hc: ∀w,Mem w0 L w->Calls P f (vs++lU.toList).toArray w fun e w'=>e= .returned v/\Mem w [] w'):
  Yl P N w0 env L ⟨d, .call {callee:= .value x,args:=xs.toArray,argTypes:=ts},ty,ps,af,gd⟩ v:=fun a ha w hw=>by
 unfold Oper.quietAt;obtain⟨fn,h1,h2,h3⟩:=hf.fn;have IP: ¬fn.body=none:=fun e=>by simp[e]at h2
 have zR: ¬fn.name= "runtime.NumGoroutine" :=by simpa using h3
 have e:(execOp a.eval ⟨d, .call {callee:= .value x,args:=xs.toArray,argTypes:=ts},ty,ps,af,gd⟩).run P w= .ok (.enter f (vs++lU.toList).toArray) w:=by
  have hm:=ha.iz CJ;simp[execOp,resolve,ha.ev hx,Deferred.ofValue,invoke,callFunc,h1,IP,zR,Result.andThen,←hm]
 rw[e];exact⟨rfl,hc w hw⟩
theorem J2{f:Fn}{xs:List Operand}{vs:List Value}(hx:iz env xs=some vs):Ry P N w0 env L ⟨d, .makeFunc f #[] xs.toArray,ty,ps,af,gd⟩ (.func f #[] vs.toArray):=fun a w ha _=>by
 have hm:=ha.iz hx;simp[execOp,Instr.makeFunc,Result.andThen,←hm]
instance (s:Sv):bQ (tW s) 0 s.val:=⟨rfl⟩
instance (s:Sv):bQ s.val.cells 0 s.val:=⟨by rw[Sv.jM];rfl⟩
variable {s:Sv} {xs:List Nd} {a:Nd}
end
def dP(e:TypeId)(s:Sv)(xs:aH):ai:=
 ⟨fun k=>s.nil=false/\k=s.b,fun h=>(own aO 1 s xs).sat h/\(s.nil=false->s.o=0/\0<s.cap/\ ∃cs fz,h s.b=some (.cells cs e fz)),fun h h' e' st=>⟨(own aO 1 s xs).loc h h' e' st.1,fun hn=>by rw[e' s.b ⟨hn,rfl⟩];exact st.2 hn⟩⟩
class mC(L:List ai)(s:Sv)(e:outParam TypeId)(xs:outParam aH)(i:outParam Nat):Prop where
 h:L[i]? =some (dP e s xs)
instance (priority:=high) mC.here {L:List ai}{s:Sv}{e:TypeId}{xs:aH}:mC (dP e s xs::L) s e xs 0:=⟨rfl⟩
instance mC.there{L:List ai}{s:Sv}{e:TypeId}{xs:aH}{x:ai}{i:Nat}[q:mC L s e xs i]:mC (x::L) s e xs (i+1):=⟨by simpa using q.h⟩
variable {w0:World}{L:List ai}
instance mC.hd{s:Sv}{e:TypeId}{xs:aH}{i:Nat}[q:mC L s e xs i]:Hd w0 L s aO 1 xs:=⟨fun _ hw=>(hw.get q.h).1.1⟩
theorem Mem.aay{w0 w:World}{L:List ai}(e:TypeId)(h:Mem w0 L w):Mem w0 (dP e Sv.none []::L) w:=
 h.call (E:=[dP e Sv.none []]) ⟨Below.refl _ _,fun x hx=>by
  obtain rfl:=at7.1 hx;exact⟨⟨eJ.nil aO 1 _,(fun h=>by cases h)⟩,fun h=>by cases h⟩,fun x hx k hk=>by
  obtain rfl:=at7.1 hx;exact absurd hk.1 (by simp[Sv.none]),by simp⟩
theorem Qc{α:Type}{L:List α}{i:Nat}{x y:α}(h:L[i]? =some x):(L.set i y)[i]? =some y:=by
 rw[auo,if_pos rfl,if_pos (zz.1 h).1]
theorem aaz{P:Program}{t tx ty e:TypeId}{cw:Nat}(ht:eK P t e 1 cw){w0 w:World}{L:List ai}{i:Nat}{s:Sv}{xs ys:aH}{x:Value}
  (hw:Mem w0 L w) (hi:L[i]? =some (dP e s xs)) (hs:Src P 1 tx x ys.length (aJ aO ys) w) (hb:(xs.length+ys.length)*cw<=140737488355328) (ib:xs.length+ys.length<=140737488355328):
  ∃s' w',(Builtin.append_ #[t,tx] ty #[s.val,x]).run P w= .ok (Sv.val s') w'/\Mem w0 (L.set i (dP e s' (xs++ys))) w':=by
 have Qd:=hw.get hi;have mr:Mem w0 (L.set i (own aO 1 s xs)) w:=hw.change hi (fun k h=>h) (fun _ _=>rfl) rfl ⟨rfl,rfl,rfl⟩ Qd.1;obtain⟨s',w',h1,h2,h3,h4,h5⟩:=OB (ty:=ty) ht (by decide) mr (Qc hi) hs hb ib;rw[avM]at h4;have dq:=Qc (y:=own aO 1 s' (xs++ys)) hi;have h6:=h4.change (e':=dP e s' (xs++ys)) dq (fun k h=>h) (fun _ _=>rfl) rfl ⟨rfl,rfl,rfl⟩ ⟨h4.get dq,fun hn=>by
  rcases h5 with⟨e1,e2,e3,e4,e5⟩|⟨e1,e2,e3,cs,e4⟩
  ·
   obtain⟨o0,c0,cs,fz,hb⟩:=Qd.2 (by rw[←e1];exact hn);obtain⟨cs',h⟩:=e5 cs e fz hb;exact⟨e3.trans o0,by rw[e4];exact c0,cs',fz,by rw[e2];exact h⟩
  ·
   exact⟨e2,e3,cs,(0,0),e4⟩⟩
 rw[avM]at h6;exact⟨s',w',h1,h6⟩
section
variable {P:Program} {N:cC} {w0:World} {env:Env} {L:List ai} {l:List Oper} {Q:Exit->Act->World->Prop} {rest:List Oper} {d:Option Tmp} {ty:TypeId} {ps:String} {af:Array Edge} {gd:Option (Nat×Bool)} {s:Sv} {xs ys:aH}
theorem Qe{t tx e:TypeId}{x y:Operand}{yv:Value}{cw i:Nat}[ht:eK P t e 1 cw](hx:ev env x=some s.val)(hy:ev env y=some yv)[q:mC L s e xs i]
  (hs: ∀w,Mem w0 L w->Src P 1 tx yv ys.length (aJ aO ys) w) (hb:(xs.length+ys.length)*cw<=140737488355328) (ib:xs.length+ys.length<=140737488355328) {L':Sv->List ai} [hu: ∀s',fO L i (dP e s' (xs++ys)) (L' s')]
  (hk: ∀s':Sv,Sq P N w0 l Q rest (cy env d s'.val) (L' s')) (hd:dx N d=true:=by rfl):
  Sq P N w0 l Q (⟨d, .call {callee:= .builtin .append,args:= #[x,y],argTypes:= #[t,tx]},ty,ps,af,none⟩::rest) env L:=
 nD rfl hd fun a w ha hw=>by
  obtain⟨s',w',h1,h4⟩:=aaz (ty:=ty) ht hw q.h (hs w hw) hb ib;refine⟨s'.val,w',L' s',?_,by rw[←(hu s').h];exact h4,hk s'⟩;simp[execOp,ha.ev hx,ha.ev hy,resolve,invoke,builtin,h1,Result.andThen]
theorem aaA{tx:TypeId}(hk:P.underlying tx=some .string)(s:aH)(w:World):Src P 1 tx (.string ⟨s.toArray⟩) s.length (aJ aO s) w:=by
 have h:=Src.ofString w hk ⟨s.toArray⟩;rw[sJ]at h;have e:byteCells ⟨s.toArray⟩=aJ aO s:=by
  show(s.toArray.toList).map _=_;rw[List.toList_toArray]
  induction s with
  |nil=>rfl
  |cons a r ih=>rw[atI];exact congrArg (List.cons _) (ih (Src.ofString w hk ⟨r.toArray⟩|>fun q=>by rw[sJ]at q;exact q))
 rw[←e];exact h
theorem aaB{src dst t:TypeId}{j:TypeInfo}{x:Operand}{b o i:Nat}{cs:Array Value}{T:TypeId}(hs:P.underlying src=some (.pointer t))(hd:P.underlying dst=some .unsafePointer)(ht:P.info? t=some j)(hj:j.size≠0)(hx:ev env x=some (.pointer (some ⟨b,o,none⟩)))[hh:Has L b cs T i](ho:o<cs.size):
  Ry P N w0 env L ⟨d, .convert src dst x,ty,ps,af,gd⟩ (.pointer (some ⟨b,o,none⟩)):=fun a w ha hw=>by
 have hb:=hw.block hh.h;have:=Lib.run_to_unsafe (P:=P) w (a:=⟨b,o,none⟩) (cells:=cs.size) (e:=T) hs hd ht hj (by simp[World.shape?,hb]) ho;simp only[execOp,ha.ev hx,this,Sem.run_bind,Result.andThen,Sem.run_pure]
theorem aaC{src dst u:TypeId}{j:TypeInfo}{x:Operand}{b o i:Nat}{cs:Array Value}{T:TypeId}(hs:P.underlying src=some .unsafePointer)(hd:P.underlying dst=some (.pointer u))(hu:P.info? u=some j)(hx:ev env x=some (.pointer (some ⟨b,o,none⟩)))[hh:Has L b cs T i](hl:liesAt P P.depth T (cs.size/P.cellsOf T) o u 1=true):
  Ry P N w0 env L ⟨d, .convert src dst x,ty,ps,af,gd⟩ (.pointer (some ⟨b,o,none⟩)):=fun a w ha hw=>by
 have hb:=hw.block hh.h;have:=Lib.run_from_unsafe (P:=P) w (a:=⟨b,o,none⟩) (cells:=cs.size) (e:=T) hs hd hu (by simp[World.shape?,hb]) hl;simp only[execOp,ha.ev hx,this,Sem.run_bind,Result.andThen,Sem.run_pure]
def xe(s:Sv):Value:=if s.nil=true then .pointer none else .pointer (some ⟨s.b,0,none⟩)
theorem aaD{t e:TypeId}{x:Operand}{i:Nat}(hx:ev env x=some s.val)[q:mC L s e xs i]:
  Ry P N w0 env L ⟨d, .call {callee:= .builtin .unsafeSliceData,args:= #[x],argTypes:= #[t]},ty,ps,af,gd⟩ (xe s):=fun a w ha hw=>by
 obtain⟨h1,h2⟩:=hw.get q.h;have hr:(Builtin.unsafeSliceData_ #[t] ty #[s.val]).run P w= .ok (xe s) w:=by
  cases hn:s.nil with
  |true=>rw[Sv.sC hn,xe,if_pos hn];rfl
  |false=>
   obtain⟨o0,c0,_⟩:=h2 hn;rw[Sv.iA hn,xe,if_neg (by rw[hn];simp),(h1.2 hn).1,o0];exact Lib.run_unsafeSliceData_row w #[t] ty ⟨s.b,0,none⟩ s.len s.cap (by omega)
 simp[execOp,ha.ev hx,resolve,invoke,builtin,hr,Result.andThen]
theorem aaE{K:Value->List ai->Prop}{pt it e:TypeId}{x y:Operand}{i:Nat}{n:Int}{R:List ai}(hp:P.underlying pt=some (.pointer e))(hc:P.cellsOf e=1)(hx:ev env x=some (xe s))(hy:ev env y=some (.int .i64 n))[q:mC L s e xs i](en:n=(xs.length:Int))[dl:cn L i R]
  (hk:K (.string ⟨xs.toArray⟩) R):
  aS P N w0 env L ⟨d, .call {callee:= .builtin .unsafeString,args:= #[x,y],argTypes:= #[pt,it]},ty,ps,af,none⟩ K:=
 vF fun a w ha hw=>by
  subst en;obtain⟨h1,h2⟩:=hw.get q.h;have hr: ∃w',(Builtin.unsafeString_ #[pt,it] ty #[xe s, .int .i64 (xs.length:Nat)]).run P w= .ok (.string ⟨xs.toArray⟩) w'/\Mem w0 R w':=by
   have aaF:Mem w0 R w:=by rw[←dl.h];exact hw.sub (List.eraseIdx_sublist L i)
   by_cases h0:xs=[]
   ·
    subst h0;refine⟨w,?_,aaF⟩;rw[xe];split
    ·
     exact Lib.run_unsafeString_none w pt it ty none
    ·
     exact Lib.run_unsafeString_none w pt it ty _
   ·
    have hlen:0<xs.length:=auV.2 h0;have hn:=h1.1.some hlen;obtain⟨o0,c0,cs,fz,hb⟩:=h2 hn;obtain⟨_,E4,T2,Yo,qX,eI,_⟩:=h1.2 hn;have gU:E4=cs:=by have:=qX.symm.trans hb;cases this;rfl
    subst gU;have hl:=h1.1.len;have hle:=h1.1.ok.le;have kg:=h1.1.bd;rw[o0,auf,avy]at eI;have mu:w.heap[s.b]? =some (.cells E4 e fz):=hb;have wR: ∀j x,xs[j]? =some x->w.cell? ((⟨s.b,0,none⟩:Addr).add j)=some (.int .u8 x.toNat):=fun j x hj=>by
     have:=h1.1.row j x hj 0 (by decide);rw[o0,auf,avy,auH]at this;rw[Addr.gT,rH,auf];exact this
    have hr:=Lib.run_unsafeString_row (P:=P) w pt it ty e hp hc s.b E4.size (by simp[World.shape?,mu]) xs h0 (by omega) (by omega) wR;refine⟨_,by rw[xe,if_neg (by rw[hn];simp)];exact hr,?_⟩;have pa:=hw.change (w':=w.freeze ⟨s.b,0,none⟩ xs.length) (e':=⟨fun k=>s.nil=false/\k=s.b,fun _=>True,fun _ _ _ _=>trivial⟩) q.h (fun k h=>h) (fun k hk=>?_) ?_ ?_ trivial
    ·
     have h9:Mem w0 (List.eraseIdx (List.set L i _) i) (w.freeze ⟨s.b,0,none⟩ xs.length):=pa.sub (List.eraseIdx_sublist _ i);rw[List.eraseIdx_set_eq,dl.h]at h9;exact h9
    ·
     unfold World.freeze;split
     ·
      rfl
     ·
      simp only[Array.getElem?_modify];rw[if_neg (fun g=>hk ⟨hn,g.symm⟩)]
    ·
     unfold World.freeze;split
     ·
      rfl
     ·
      simp
    ·
     unfold World.freeze;split<;>exact⟨rfl,rfl,rfl⟩
  obtain⟨w',h3,h4⟩:=hr;refine⟨_,w',R,?_,h4,hk⟩;simp[execOp,ha.ev hx,ha.ev hy,resolve,invoke,builtin,h3,Result.andThen]
def CK:Option (TypeId×Value)->Value
 |none=> .nilIface
 |some (t,v)=> .iface t v
theorem aaG{t u:TypeId}{x:Operand}{ms:Array (String×TypeId)}{o:Option (TypeId×Value)}(ht:P.underlying t=some (.interface ms))(hx:ev env x=some (CK o)):
  Ry P N w0 env L ⟨d, .binOp .neq t x (.const .nilIface) u,ty,ps,af,gd⟩ (.bool o.isSome):=fun a w ha _=>by
 have h1:=ha.ev hx
 cases o with
 |none=>
  have h2:(binOp .neq t .nilIface .nilIface).run P w= .ok (.bool false) w:=by
   have h: ∀d:Nat,(Op.equalIn (d+1) t .nilIface .nilIface).run P w= .ok true w:=fun d=>by simp[Op.equalIn,run_underlying ht]
   simp only[binOp];simp[Op.equal,Op.maxDepth,h 9999]
  have h3:(eqGuard .neq t x (.const .nilIface) .nilIface .nilIface).run P w= .ok () w:=by cases x<;>rfl
  rw[CK]at h1;have hy:a.eval (.const .nilIface)= .nilIface:=rfl;simp only[execOp,h1,hy,Sem.run_bind,h3,Result.andThen,h2,Sem.run_pure,Option.isSome_none]
 |some q=>
  obtain⟨tq,vq⟩:=q;have h2:(binOp .neq t (.iface tq vq) .nilIface).run P w= .ok (.bool true) w:=by
   have h: ∀d:Nat,(Op.equalIn (d+1) t (.iface tq vq) .nilIface).run P w= .ok false w:=fun d=>by simp[Op.equalIn,run_underlying ht]
   simp only[binOp];simp[Op.equal,Op.maxDepth,h 9999]
  have h3:(eqGuard .neq t x (.const .nilIface) (.iface tq vq) .nilIface).run P w= .ok () w:=rfl;rw[CK]at h1;have hy:a.eval (.const .nilIface)= .nilIface:=rfl;simp only[execOp,h1,hy,Sem.run_bind,h3,Result.andThen,h2,Sem.run_pure,Option.isSome_some]
theorem aaH{t u e:TypeId}{x y:Operand}{o:Option Addr}(ht:P.underlying t=some (.pointer e))(hx:ev env x=some (.pointer o))(hy:ev env y=some (.pointer none)):
  Ry P N w0 env L ⟨d, .binOp .eql t x y u,ty,ps,af,gd⟩ (.bool o.isNone):=fun a w ha _=>by
 have h2:(binOp .eql t (.pointer o) (.pointer none)).run P w= .ok (.bool o.isNone) w:=by
  have h: ∀d:Nat,(Op.equalIn (d+1) t (.pointer o) (.pointer none)).run P w= .ok o.isNone w:=fun d=>by cases o<;>simp[Op.equalIn,run_underlying ht]
  simp only[binOp];simp[Op.equal,Op.maxDepth,h 9999]
 have h3:(eqGuard .eql t x y (.pointer o) (.pointer none)).run P w= .ok () w:=rfl;simp only[execOp,ha.ev hx,ha.ev hy,Sem.run_bind,h3,Result.andThen,h2,Sem.run_pure]
theorem aaI{t u e:TypeId}{x y:Operand}{j:TypeInfo}{p:Addr}(ht:P.underlying t=some (.pointer e))(hj:P.info? e=some j)(hx:ev env x=some (.pointer (some p)))(hy:ev env y=some (.pointer (some p))):
  Ry P N w0 env L ⟨d, .binOp .neq t x y u,ty,ps,af,gd⟩ (.bool false):=fun a w ha _=>by
 have h2:=Lib.run_neq_ptr_same (P:=P) w p ht hj;have h3:(eqGuard .neq t x y (.pointer (some p)) (.pointer (some p))).run P w= .ok () w:=rfl;simp only[execOp,ha.ev hx,ha.ev hy,Sem.run_bind,h3,Result.andThen,h2,Sem.run_pure]
end
end Go.ax
namespace Go.Kb
open Go.ax
variable {k kk:Key} {i j n v:Nat} {s:aH} {c:UInt8}
def vI(k:Key)(i v:Nat):Key:=oo fun j=>if j=i then v else bf k j
theorem J3(k:Key)(i:Nat)(hv:v<256)(hj:j<16):bf (vI k i v) j=if j=i then v else bf k j:=by
 rw[vI,ud _ _ hj];have:=jC k j;split<;>omega
theorem Qf(k:Key)(i:Nat)(hi:i<16)(hv:v<256):(bR k).setIfInBounds i (.int .u8 ((v:Nat):Int))=bR (vI k i v):=by
 refine Jo (by simp[eL]) fun j hj=>?_;rw[J3 k i hv hj,aub]
 by_cases e:i=j
 ·
  subst e;simp[eL,hi]
 rw[if_neg e,if_neg (fun h=>e h.symm)];exact jh k j hj
theorem Qg:bf (0#128) j=0:=by simp[bf]
def Av(ps:List aH)(i:Nat)(k:Key):Prop:=(∀j,j<16->bf k j=if j<i then(bD (ps.getD j []) 255).getD 0 else 0)/\ ∀j,j<i->(bD (ps.getD j []) 255).isSome=true
theorem aaJ(ps:List aH):Av ps 0 (0#128):=⟨fun j _=>by rw[Qg,if_neg (by omega)],fun j h=>absurd h (Nat.not_lt_zero j)⟩
theorem J4(s:aH):(bD s 255).getD 0<256:=by
 cases e:bD s 255 with
 |none=>simp
 |some n=>have:=(jN.1 e).2;simp;omega
theorem getD_at{α:Type}{xs:List α}{i:Nat}{x d:α}(h:xs[i]? =some x):xs.getD i d=x:=by simp[List.getD,h]
theorem Av.step{ps:List aH}{x:aH}(h:Av ps i k)(hx:ps[i]? =some x)(ho:(bD x 255).isSome=true)(hi:i<4):Av ps (i+1) (vI k i ((bD x 255).getD 0)):=by
 have e:ps.getD i []=x:=getD_at hx;refine⟨fun j hj=>?_,fun j hj=>?_⟩
 ·
  rw[J3 k i (J4 x) hj]
  by_cases ej:j=i
  ·
   subst ej;rw[if_pos rfl,if_pos (by omega),e]
  rw[if_neg ej,h.1 j hj]
  by_cases hl:j<i
  ·
   rw[if_pos hl,if_pos (by omega)]
  rw[if_neg hl,if_neg (by omega)]
 by_cases ej:j=i
 ·
  subst ej;rw[e];exact ho
 exact h.2 j (by omega)
theorem Qh{ps:List aH}(h:ps.length=4): ∃a b c d,ps=[a,b,c,d]:=by
 match ps,h with
 |[a,b,c,d],_=>exact⟨a,b,c,d,rfl⟩
theorem aaK(h:(ba 46 s).length≠4):kZ s=none:=by
 unfold kZ;split
 ·
  rename_i a b c d e;rw[e]at h;exact absurd rfl h
 rfl
theorem aaL{x:aH}(hl:(ba 46 s).length=4)(hx:(ba 46 s)[i]? =some x)(hn:(bD x 255).isSome=false):kZ s=none:=by
 obtain⟨a,b,c,d,e⟩:=Qh hl;have J5:bD x 255=none:=by cases q:bD x 255 with
  |none=>rfl
  |some z=>rw[q]at hn;cases hn
 unfold kZ;rw[e]at hx⊢;have hm:x∈[a,b,c,d]:=alM hx;simp only[atv,auX,or_false]at hm;rcases hm with rfl|rfl|rfl|rfl
 all_goals simp only[J5]
 all_goals(split<;>first|rfl|(rename_i h1 h2 h3 h4;simp_all))
theorem aaM(hl:(ba 46 s).length=4)(h:Av (ba 46 s) 4 k):kZ s=some k:=by
 obtain⟨a,b,c,d,e⟩:=Qh hl;rw[e]at h;obtain⟨na,ha⟩:=at6.1 (h.2 0 (by decide));obtain⟨nb,hb⟩:=at6.1 (h.2 1 (by decide));obtain⟨nc,hc⟩:=at6.1 (h.2 2 (by decide));obtain⟨nd,hd⟩:=at6.1 (h.2 3 (by decide));simp only[List.getD_cons_zero,List.getD_cons_succ]at ha hb hc hd;unfold kZ;rw[e];simp only[ha,hb,hc,hd];refine congrArg some (uc fun j hj=>?_);rw[yJ (jN.1 ha).2 (jN.1 hb).2 (jN.1 hc).2 (jN.1 hd).2 hj,h.1 j hj];rcases atA j 4 with h4|h4
 ·
  have:j=0\/j=1\/j=2\/j=3:=by omega
  rcases this with rfl|rfl|rfl|rfl
  ·
   simp[ha]
  ·
   simp[hb]
  ·
   simp[hc]
  simp[hd]
 rw[if_neg (by omega),if_neg (by omega),if_neg (by omega),if_neg (by omega),if_neg (by omega)]
theorem aaN(h: ¬sO (s.getD i 0)<0):sO (s.getD i 0)=((lQ s i:Nat):Int)/\lQ s i<16/\(kY (s.getD i 0)).isSome=true:=by
 unfold sO lQ at*
 cases e:kY (s.getD i 0)with
 |none=>rw[e]at h;simp at h
 |some n=>exact⟨rfl,Js e,rfl⟩
theorem aaO(h:sO (s.getD i 0)<0)(hi:i<s.length):nK s=none:=by
 unfold nK;rw[if_neg];rintro⟨_,ha⟩;have:=aty.1 ha (s.getD i 0) (by simp[List.getD,hi]);unfold sO at h
 cases e:kY (s.getD i 0)with
 |none=>rw[e]at this;cases this
 |some n=>rw[e]at h;simp only at h;omega
theorem aaP(c:UInt8):Lib.indexByte ([48,49,50,51,52,53,54,55,56,57,97,98,99,100,101,102]:aH) c=sO c:=by
 have key: ∀n,n<256->Lib.indexByte ([48,49,50,51,52,53,54,55,56,57,97,98,99,100,101,102]:aH) (UInt8.ofNat n)=sO (UInt8.ofNat n):=by decide+kernel
 have:=key c.toNat c.toNat_lt;rwa [UInt8.ofNat_toNat]at this
def xh(s:aH)(i:Nat)(k:Key):Prop:=(∀j,j<16->bf k j=if 2*j+1<i then 16*lQ s (2*j)+lQ s (2*j+1)else if 2*j<i then lQ s (2*j)else 0)/\ ∀j,j<i->(kY (s.getD j 0)).isSome=true
theorem aaQ(s:aH):xh s 0 (0#128):=⟨fun j _=>by rw[Qg,if_neg (by omega),if_neg (by omega)],fun j h=>absurd h (Nat.not_lt_zero j)⟩
theorem FR(h:(kY (s.getD i 0)).isSome=true):lQ s i<16:=by
 unfold lQ;obtain⟨n,e⟩:=at6.1 h;rw[e];exact Js e
theorem xh.lt(h:xh s i k)(hi:i<32):bf k (i/2)<16:=by
 rw[h.1 (i/2) (by omega),if_neg (by omega)];split
 ·
  exact FR (h.2 _ (by omega))
 omega
theorem Qi(hn:n<16):v*16|||n=v*16+n:=by
 have:=Nat.two_pow_add_eq_or_of_lt (i:=4) (show n<2^4 from hn) v;rw[auP v 16];exact this.symm
theorem xh.step(h:xh s i k)(hi:i<32)(ho:(kY (s.getD i 0)).isSome=true):xh s (i+1) (vI k (i/2) (bf k (i/2)*16|||lQ s i)):=by
 have hl:=h.lt hi;have hx:=FR ho;rw[Qi hx];refine⟨fun j hj=>?_,fun j hj=>?_⟩
 ·
  rw[J3 k _ (by omega) hj]
  by_cases ej:j=i/2
  ·
   rw[if_pos ej,←ej,h.1 j hj,if_neg (by omega)];rcases Nat.mod_two_eq_zero_or_one i with e|e
   ·
    rw[if_neg (by omega),if_neg (by omega),if_pos (by omega),show 2*j=i by omega];omega
   rw[if_pos (by omega),if_pos (by omega),show 2*j+1=i by omega];omega
  rw[if_neg ej,h.1 j hj]
  by_cases h1:2*j+1<i
  ·
   rw[if_pos h1,if_pos (by omega)]
  rw[if_neg h1,if_neg (by omega),if_neg (by omega),if_neg (by omega)]
 by_cases ej:j=i
 ·
  subst ej;exact ho
 exact h.2 j (by omega)
theorem aaR(h:s.length≠32):nK s=none:=by unfold nK;rw[if_neg (fun e=>h e.1)]
theorem aaS(h: ∀j,j<s.length->(kY (s.getD j 0)).isSome=true):Fu s=true:=by
 refine aty.2 fun c hc=>?_;obtain⟨j,hj,rfl⟩:=awa hc;have:=h j hj;simpa[List.getD,hj]using this
theorem aaT(hl:s.length=32)(h:xh s 32 k):nK s=some k:=by
 unfold nK;rw[if_pos ⟨hl,aaS fun j hj=>h.2 j (by omega)⟩];refine congrArg some (uc fun j hj=>?_);rw[h.1 j hj,if_pos (by omega),Ai,ud _ _ hj];have:=FR (h.2 (2*j) (by omega));have:=FR (h.2 (2*j+1) (by omega));omega
def iK(s:aH):Key:=if 60<s.length then 0#128 else match nL s with|some (k,_)=>k|none=>0#128
def fQ(s:aH):Nat:=if 60<s.length then 0 else match nL s with|some (_,n)=>n.toNat|none=>0
def jj(s:aH):Int:=if 60<s.length then 3 else match nL s with|some _=>0|none=>2
theorem Qj(h:60<s.length):iK s=0#128/\fQ s=0/\jj s=3:=by simp[iK,fQ,jj,h]
theorem aaU(h: ¬60<s.length)(hs:kZ s=some k):iK s=k/\fQ s=32/\jj s=0:=by simp[iK,fQ,jj,h,nL,hs]
theorem aaV(h: ¬60<s.length)(hs:kZ s=none)(hw:nK s=some k):iK s=k/\fQ s=128/\jj s=0:=by simp[iK,fQ,jj,h,nL,hs,hw]
theorem aaW(h: ¬60<s.length)(hs:kZ s=none)(hw:nK s=none):iK s=0#128/\fQ s=0/\jj s=2:=by simp[iK,fQ,jj,h,nL,hs,hw]
variable {s a b:aH} {c:UInt8} {n top:Nat}
theorem xi(c:UInt8)(s:aH):(∃a b,s=a++c::b/\aK c s=(a,b,true)/\ba c s=a::ba c b)\/(aK c s=(s,[],false)/\ba c s=[s]):=by
 rcases Ag (c:=c) s with⟨h1,h2⟩|⟨a,b,h1,h2,h3⟩
 ·
  exact .inr ⟨OZ h1,h2⟩
 exact .inl ⟨a,b,h1,by rw[h1,O0 h2],h3⟩
theorem Qk(hc:c∈b)(hd:lP c=false):bD b top=none:=by
 cases e:bD b top with
 |none=>rfl
 |some n=>
  obtain⟨rfl,_⟩:=jN.1 e;exact absurd hc (vz hd)
theorem J6(c:UInt8)(s:aH):(aK c s).1.length<=s.length/\(aK c s).2.1.length<=s.length:=by
 rcases xi c s with⟨a,b,h1,h2,_⟩|⟨h2,_⟩
 ·
  rw[h2,h1];simp;omega
 rw[h2];simp
theorem aaX(h:(aK 47 s).2.2=false):lR s=none:=by
 rcases xi 47 s with⟨a,b,_,h2,_⟩|⟨_,h3⟩
 ·
  rw[h2]at h;cases h
 unfold lR;rw[h3]
def vJ(a b:aH):Option cH:=match nL a,bD b 128 with
 |some (k,bits),some n=>if bm ⟨bits,(n:Int),k⟩=true then some ⟨bits,(n:Int),k⟩else none
 |_,_=>none
theorem aaY(h:ba 47 s=[a,b]):lR s=vJ a b:=by
 unfold lR;rw[h];rfl
theorem FT(h:(aK 47 s).2.2=true):lR s=vJ (aK 47 s).1 (aK 47 s).2.1:=by
 rcases xi 47 s with⟨a,b,_,h2,h3⟩|⟨h2,_⟩
 ·
  rw[h2];rcases xi 47 b with⟨x,y,e1,_,e3⟩|⟨_,e3⟩
  ·
   have hn:bD b 128=none:=Qk (c:=47) (by rw[e1];simp) (by decide);unfold lR vJ;rw[h3,e3,hn];have:ba 47 y≠[]:=Cs y
   cases q:ba 47 y with
   |nil=>exact absurd q this
   |cons z zs=>simp only;split<;>simp_all
  exact aaY (by rw[h3,e3])
 rw[h2]at h;cases h
def vK(a b:aH):Option Rt:=match lR a,bD b 65535 with
 |some p,some n=>some ⟨p,UInt16.ofNat n⟩
 |_,_=>none
theorem aaZ(h:(aK 32 s).2.2=false):qe s=none:=by
 rcases xi 32 s with⟨a,b,_,h2,_⟩|⟨_,h3⟩
 ·
  rw[h2]at h;cases h
 unfold qe;rw[h3]
theorem aa0(h:ba 32 s=[a,b]):qe s=vK a b:=by
 unfold qe;rw[h];rfl
theorem J7(h:(aK 32 s).2.2=true):qe s=vK (aK 32 s).1 (aK 32 s).2.1:=by
 rcases xi 32 s with⟨a,b,_,h2,h3⟩|⟨h2,_⟩
 ·
  rw[h2];rcases xi 32 b with⟨x,y,e1,_,e3⟩|⟨_,e3⟩
  ·
   have hn:bD b 65535=none:=Qk (c:=32) (by rw[e1];simp) (by decide);unfold qe vK;rw[h3,e3,hn];have:ba 32 y≠[]:=Cs y
   cases q:ba 32 y with
   |nil=>exact absurd q this
   |cons z zs=>simp only;split<;>simp_all
  exact aa0 (by rw[h3,e3])
 rw[h2]at h;cases h
theorem FU(h:a.length<=60)(he:jj a=0):nL a=some (iK a,((fQ a:Nat):Int))/\(fQ a=32\/fQ a=128):=by
 have hl: ¬60<a.length:=by omega
 unfold jj at he;rw[if_neg hl]at he
 cases e:nL a with
 |none=>rw[e]at he;cases he
 |some z=>
  obtain⟨k,m⟩:=z;have hm:=((Fo _).1 (Cz.1 e).1).1;simp only at hm;unfold iK fQ;rw[if_neg hl,if_neg hl,e];simp only;rcases hm with rfl|rfl
  ·
   exact⟨rfl, .inl rfl⟩
  exact⟨rfl, .inr rfl⟩
theorem aa1(h:a.length<=60)(he: ¬jj a=0):nL a=none:=by
 unfold jj at he;rw[if_neg (show ¬60<a.length by omega)]at he
 cases e:nL a with
 |none=>rfl
 |some z=>rw[e]at he;exact absurd rfl he
def kE(s:aH):cH:=if 60<s.length then⟨0,0,0#128⟩else(lR s).getD ⟨0,0,0#128⟩
def kF(s:aH):Int:=if 60<s.length then 3 else if(lR s).isSome=true then 0 else 2
theorem aa2(h:60<s.length):kE s=⟨0,0,0#128⟩/\kF s=3:=by simp[kE,kF,h]
theorem FW(h: ¬60<s.length)(hp:lR s=none):kE s=⟨0,0,0#128⟩/\kF s=2:=by simp[kE,kF,h,hp]
theorem Ql{p:cH}(h: ¬60<s.length)(hp:lR s=some p):kE s=p/\kF s=0:=by simp[kE,kF,h,hp]
theorem aa3(h:a.length<=60)(he:kF a=0):lR a=some (kE a):=by
 have hl: ¬60<a.length:=by omega
 unfold kF at he;rw[if_neg hl]at he
 cases e:lR a with
 |none=>rw[e]at he;simp at he
 |some z=>rw[kE,if_neg hl,e];rfl
theorem aa4(h:a.length<=60)(he: ¬kF a=0):lR a=none:=by
 unfold kF at he;rw[if_neg (show ¬60<a.length by omega)]at he
 cases e:lR a with
 |none=>rfl
 |some z=>rw[e]at he;exact absurd rfl he
def nM(s:aH):Rt:=if 60<s.length then bO else(qe s).getD bO
def py(s:aH):Int:=if 60<s.length then 3 else if(qe s).isSome=true then 0 else 2
theorem Qm(h:60<s.length):nM s=bO/\py s=3:=by simp[nM,py,h]
theorem FX(h: ¬60<s.length)(hp:qe s=none):nM s=bO/\py s=2:=by simp[nM,py,h,hp]
theorem J8{r:Rt}(h: ¬60<s.length)(hp:qe s=some r):nM s=r/\py s=0:=by simp[nM,py,h,hp]
theorem aa5(h:a.length<=60)(he: ¬jj a=0):vJ a b=none:=by unfold vJ;rw[aa1 h he]
theorem aa6(h:bD b n=none)(hn:n<=top){m:Nat}(e:bD b top=some m):n<m:=by
 obtain⟨rfl,h2⟩:=jN.1 e;rcases atA n m with q|q
 ·
  exact q
 rw[ub q]at h;cases h
theorem aa7(h:a.length<=60)(he:jj a=0)(hn:(bD b (fQ a)).isSome=false):vJ a b=none:=by
 obtain⟨hk,hm⟩:=FU h he;have J5:bD b (fQ a)=none:=by simpa using hn
 unfold vJ;rw[hk]
 cases e:bD b 128 with
 |none=>rfl
 |some m=>
  have:=aa6 J5 (by omega) e;simp only;rw[if_neg];intro hp;have:=((Fo _).1 hp).2.2.1;simp only at this;omega
theorem Qn(h:a.length<=60)(he:jj a=0)(hn:(bD b (fQ a)).isSome=true):vJ a b=if bm ⟨((fQ a:Nat):Int),(((bD b (fQ a)).getD 0:Nat):Int),iK a⟩=true then some ⟨((fQ a:Nat):Int),(((bD b (fQ a)).getD 0:Nat):Int),iK a⟩else none:=by
 obtain⟨hk,hm⟩:=FU h he;obtain⟨m,e⟩:=at6.1 hn;obtain⟨rfl,h2⟩:=jN.1 e;unfold vJ;rw[hk,e,ub (show m<=128 by omega)];rfl
theorem aa8(h:a.length<=60)(he: ¬kF a=0):vK a b=none:=by unfold vK;rw[aa4 h he]
theorem aa9(hn:bD b 65535=none):vK a b=none:=by
 unfold vK;rw[hn];cases lR a<;>rfl
theorem aba(h:a.length<=60)(he:kF a=0)(hn:bD b 65535=some n):vK a b=some ⟨kE a,UInt16.ofNat n⟩:=by
 unfold vK;rw[hn,aa3 h he]
theorem J9(s:aH)(top:Nat):(bD s top).getD 0<=top:=by
 cases e:bD s top with
 |none=>simp
 |some n=>exact(jN.1 e).2
theorem abb{n:Nat}(h:n<=65535):(Value.int .u16 ((n:Nat):Int))=Value.int .u16 (((UInt16.ofNat n).toNat:Nat):Int):=by
 rw[UInt16.toNat_ofNat',at5 (show n<2^16 by omega)]
theorem Qo{ps:List aH}(h:ps.length=2): ∃a b,ps=[a,b]:=by
 match ps,h with
 |[a,b],_=>exact⟨a,b,rfl⟩
variable {s:aH} {k:Key} {n:Int} {a b r:Rt} {p:cH}
theorem uo(r:Rt):(iB r).length<=42:=by
 unfold iB;split
 ·
  rename_i h;have hp:=FA r.p;rw[k7,if_pos h]at hp;have hd:=jB 5 r.dN.toNat (au2 (avE _) (by decide)) (by decide);simp only[yK,adr,af0];omega
 simp
theorem abc(h:bm r.p=true):nM (iB r)=r/\py (iB r)=0:=by
 have hl:=uo r;refine J8 (by omega) (Po.2 ⟨h,?_⟩);rw[iB,if_pos h]
theorem Qp(he:py s=0):bm (nM s).p=true/\iB (nM s)=s:=by
 by_cases hl:60<s.length
 ·
  rw[(Qm hl).2]at he;cases he
 cases e:qe s with
 |none=>rw[(FX hl e).2]at he;cases he
 |some r=>
  rw[(J8 hl e).1];obtain⟨h1,h2⟩:=Po.1 e;exact⟨h1,by rw[iB,if_pos h1,h2]⟩
theorem abd(he:jj s=0):lS (iK s) ((fQ s:Nat):Int)=true/\jD (iK s) ((fQ s:Nat):Int)=s:=by
 have hl:s.length<=60:=by
  rcases atA 60 s.length with h|h
  ·
   rw[(Qj h).2.2]at he;cases he
  exact h
 obtain⟨e,_⟩:=FU hl he;obtain⟨h1,h2⟩:=Cz.1 e;exact⟨h1,by rw[jD,if_pos (show lS (iK s) ((fQ s:Nat):Int)=true from h1)];exact h2.symm⟩
theorem abe(h:lS k n=true):iK (jD k n)=k/\((fQ (jD k n):Nat):Int)=n/\jj (jD k n)=0:=by
 have hl:=Fz k n;have e:nL (jD k n)=some (k,n):=Cz.2 ⟨h,by rw[jD,if_pos h]⟩;have hn:=(Jx.1 h).1;have CL: ¬60<(jD k n).length:=by omega
 refine⟨by rw[iK,if_neg CL,e],by rw[fQ,if_neg CL,e];simp only;omega,by rw[jj,if_neg CL,e]⟩
theorem abf(h:bm p=true):kE (k7 p)=p/\kF (k7 p)=0:=by
 have hl:=FA p;exact Ql (by omega) (Fv.2 ⟨h,by rw[k7,if_pos h]⟩)
theorem Ka{b:Bool}:gW b=0↔b=true:=by cases b<;>simp[gW]
structure aS where
  kind:Int
  r:Rt
  key:Key
  bits:Int
  n:Int64
  deriving DecidableEq
def uq:aS:=⟨0,bO,0#128,0,0⟩
def dS(k:Int):aH:=
  if k=1 then[112,117,116]else if k=2 then[103,111,110,101]else if k=3 then[100,111,110,101]else if k=4 then[102,105,110,100]else if k=5 then[99,117,116]else if k=6 then[102,97,105,108]else if k=7 then[111,110]else if k=8 then[100,117,109,112]else[]
theorem Qq(k:Int):(dS k).length<=4:=by unfold dS;(repeat' split)<;>decide
def bq(s:aH):Nat:=((List.range' 1 8).find? fun k:Nat=>decide (dS (k:Int)=s)).getD 0
theorem abg{k:Nat}(h1:1<=k)(h8:k<=8):k=1\/k=2\/k=3\/k=4\/k=5\/k=6\/k=7\/k=8:=by omega
theorem Qr{k:Nat}{s:aH}(h1:1<=k)(h8:k<=8)(h:dS (k:Int)=s):bq s=k:=by
  subst h;rcases abg h1 h8 with rfl|rfl|rfl|rfl|rfl|rfl|rfl|rfl<;>decide
theorem abh{s:aH}(h: ∀j:Nat,1<=j->j<=8-> ¬dS (j:Int)=s):bq s=0:=by
  have:((List.range' 1 8).find? fun k:Nat=>decide (dS (k:Int)=s))=none:=List.find?_eq_none.2 fun j hj=>by
    have hm:=List.mem_range'_1.1 hj;simpa using h j (by omega) (by omega)
  rw[bq,this];rfl
theorem CM(s:aH):bq s<=8/\(bq s≠0->dS (bq s:Int)=s):=by
  rw[bq]
  cases hf:(List.range' 1 8).find? fun k:Nat=>decide (dS (k:Int)=s)with
  |none=>exact⟨Nat.zero_le _,fun h=>absurd rfl h⟩
  |some k=>
   have hm:=List.mem_range'_1.1 (avK hf);have he:=List.find?_some hf;exact⟨by simp only[avb];omega,fun _=>by simpa using he⟩
def mD(x:aS):aS:=
  if x.kind=1 then⟨x.kind,x.r,0#128,0,0⟩else if x.kind=2 then⟨x.kind,⟨x.r.p,0⟩,0#128,0,0⟩else if x.kind=4 then⟨x.kind,bO,x.key,x.bits,0⟩else if x.kind=5\/x.kind=6 then⟨x.kind,bO,0#128,0,x.n⟩else⟨x.kind,bO,0#128,0,0⟩
def kG(x:aS):Bool:=
  if x.kind=1\/x.kind=2 then bm x.r.p else if x.kind=4 then lS x.key x.bits else if x.kind=5\/x.kind=6 then decide (0<=x.n.toInt/\x.n.toInt<=999)else decide (x.kind=3\/x.kind=7\/x.kind=8)
def fR(x:aS):Bool:=kG x&&decide (mD x=x)
def mE(x:aS):aH:=if x.kind=1 then iB x.r else if x.kind=2 then k7 x.r.p else if x.kind=4 then jD x.key x.bits else dec x.n.toInt.toNat
def fh(x:aS):aH:=if x.kind=3\/x.kind=7\/x.kind=8 then dS x.kind else dS x.kind++32::mE x
def qY(x:aS):aH:=if fR x=true then fh x else[]
def sU(x:aS):Int:=gW (fR x)
theorem Aw{x:aS}(h:fR x=true):qY x=fh x/\sU x=0:=by rw[qY,sU,gW,if_pos h,if_pos h];exact⟨rfl,rfl⟩
theorem FY{x:aS}(h:fR x=false):qY x=[]/\sU x=1:=by rw[qY,sU,gW,h];exact⟨rfl,rfl⟩
theorem oy{x:aS}:fR x=true↔kG x=true/\mD x=x:=by rw[fR,ad2,decide_eq_true_eq]
theorem abi{x:aS}(h:fR x=true):1<=x.kind/\x.kind<=8:=by
  have h1:=(oy.1 h).1;rw[kG]at h1;split at h1
  ·omega
  ·split at h1
   ·omega
   ·split at h1
    ·omega
    ·simp at h1;omega
theorem Ax{n:Nat}(h:n<=999):(Int64.ofInt (n:Int)).toInt=(n:Int):=Int64.toInt_ofInt_of_le (by omega) (by omega)
theorem Qs{a b:Int64}(h:a.toInt=b.toInt):a=b:=Int64.toInt_inj.1 h
theorem Qu{x:aS}(h:fR x=true):(mE x).length<=42:=by
  rw[mE];split
  ·exact uo _
  ·split
   ·have:=FA x.r.p;omega
   ·split
    ·have:=Fz x.key x.bits;omega
    ·rename_i h1 h2 h4
     have h0:=(oy.1 h).1;rw[kG,if_neg (by omega),if_neg h4]at h0
     by_cases h5:x.kind=5\/x.kind=6
     ·rw[if_pos h5,decide_eq_true_eq]at h0
      have:=jB 3 x.n.toInt.toNat (by omega) (by decide);omega
     ·have h9:=(oy.1 h).2
      rw[mD,if_neg h1,if_neg h2,if_neg h4,if_neg h5]at h9;have hn:x.n=0:=(congrArg aS.n h9).symm;rw[hn];have:=jB 3 (Int64.toInt 0).toNat (by decide) (by decide);omega
theorem Qv{x:aS}(h:fR x=true):(fh x).length<=47:=by
  have h1:=Qq x.kind;have h2:=Qu h;rw[fh];split
  ·omega
  ·rw[adr,af0];omega
theorem Kc(x:aS):(qY x).length<=47:=by
  rw[qY];split
  ·rename_i h;exact Qv h
  ·exact atL _
def gX(s:aH):Option aS:=
  if bq (aK 32 s).1=1 then(if py (aK 32 s).2.1=0 then some ⟨1,nM (aK 32 s).2.1,0#128,0,0⟩else none)
  else if bq (aK 32 s).1=2 then(if kF (aK 32 s).2.1=0 then some ⟨2,⟨kE (aK 32 s).2.1,0⟩,0#128,0,0⟩else none)
  else if bq (aK 32 s).1=4 then(if jj (aK 32 s).2.1=0 then some ⟨4,bO,iK (aK 32 s).2.1,(fQ (aK 32 s).2.1:Nat),0⟩else none)
  else if bq (aK 32 s).1=5\/bq (aK 32 s).1=6 then(bD (aK 32 s).2.1 999).map fun n=>⟨(bq (aK 32 s).1:Nat),bO,0#128,0,Int64.ofInt (n:Nat)⟩
  else if bq (aK 32 s).1=0\/(aK 32 s).2.2=true then none else some ⟨(bq (aK 32 s).1:Nat),bO,0#128,0,0⟩
def kh(s:aH):aS:=(gX s).getD uq
def ki(s:aH):Int:=if bq (aK 32 s).1=0 then 8 else if(gX s).isSome=true then 0 else 2
theorem abj{s:aH}(he:kF s=0):bm (kE s)=true/\k7 (kE s)=s:=by
  rw[kF]at he;split at he
  ·cases he
  ·rename_i CL
   split at he
   ·rename_i h
    obtain⟨p,hp⟩:=at6.1 h;obtain⟨q1,q2⟩:=Fv.1 hp;have:kE s=p:=by rw[kE,if_neg CL,hp];rfl
    rw[this];exact⟨q1,by rw[k7,if_pos q1];exact q2.symm⟩
   ·cases he
theorem Qw(s:aH):((aK 32 s).2.2=true/\s=(aK 32 s).1++32::(aK 32 s).2.1)\/((aK 32 s).2.2=false/\(aK 32 s).1=s/\(aK 32 s).2.1=[]):=by
  rcases xi 32 s with⟨a,b,h1,h2,_⟩|⟨h,_⟩
  ·rw[h2];exact .inl ⟨rfl,h1⟩
  ·rw[h];exact .inr ⟨rfl,rfl,rfl⟩
theorem abk:py []≠0:=by decide
theorem abl:kF []≠0:=by decide
theorem abm:jj []≠0:=by decide
theorem abn:bD [] 999=none:=by decide
theorem Qx{s:aH}{x:aS}(h:gX s=some x):fR x=true/\fh x=s:=by
  have hw:=(CM (aK 32 s).1).2;have Ke:=(CM (aK 32 s).1).1;have hc:=Qw s;unfold gX at h;generalize aK 32 s=C at h hw hc Ke;obtain⟨w,r,m⟩:=C;simp only at h hw hc Ke;have hs: ∀(_: ¬r=[]) (_:bq w≠0),dS (bq w:Int)++32::r=s:=fun hr hk=>by
    rcases hc with⟨_,h2⟩|⟨_,_,h2⟩
    ·rw[hw hk];exact h2.symm
    ·exact absurd h2 hr
  split at h
  ·rename_i k1
   split at h
   ·rename_i e
    obtain⟨q1,q2⟩:=Qp e;have h3:=hs (fun g=>abk (g▸e)) (by omega);rw[k1]at h3;obtain rfl:=atl h;refine⟨oy.2 ⟨by rw[kG,if_pos (.inl rfl)];exact q1,by rw[mD,if_pos rfl]⟩,?_⟩;rw[fh,if_neg (show ¬((1:Int)=3\/(1:Int)=7\/(1:Int)=8) by decide),mE,if_pos rfl];show _++32::iB (nM r)=s;rw[q2];exact h3
   ·cases h
  ·split at h
   ·rename_i k1
    split at h
    ·rename_i e
     obtain⟨q1,q2⟩:=abj e;have h3:=hs (fun g=>abl (g▸e)) (by omega);rw[k1]at h3;obtain rfl:=atl h;refine⟨oy.2 ⟨by rw[kG,if_pos (.inr rfl)];exact q1,by rw[mD,if_neg (show ¬((2:Int)=1) by decide),if_pos rfl]⟩,?_⟩;rw[fh,if_neg (show ¬((2:Int)=3\/(2:Int)=7\/(2:Int)=8) by decide),mE,if_neg (show ¬((2:Int)=1) by decide),if_pos rfl];show _++32::k7 (kE r)=s;rw[q2];exact h3
    ·cases h
   ·split at h
    ·rename_i k1
     split at h
     ·rename_i e
      obtain⟨q1,q2⟩:=abd e;have h3:=hs (fun g=>abm (g▸e)) (by omega);rw[k1]at h3;obtain rfl:=atl h;refine⟨oy.2 ⟨by rw[kG,if_neg (show ¬((4:Int)=1\/(4:Int)=2) by decide),if_pos rfl];exact q1,by rw[mD,if_neg (show ¬((4:Int)=1) by decide),if_neg (show ¬((4:Int)=2) by decide),if_pos rfl]⟩,?_⟩;rw[fh,if_neg (show ¬((4:Int)=3\/(4:Int)=7\/(4:Int)=8) by decide),mE,if_neg (show ¬((4:Int)=1) by decide),if_neg (show ¬((4:Int)=2) by decide),if_pos rfl];show _++32::jD (iK r) ((fQ r:Nat):Int)=s;rw[q2];exact h3
     ·cases h
    ·split at h
     ·rename_i k1
      obtain⟨n,hn,rfl⟩:=au1.1 h;obtain⟨q1,q2⟩:=jN.1 hn;have h3:=hs (fun g=>by rw[g,abn]at hn;cases hn) (by omega);have hi:=Ax q2;have h5:((bq w:Nat):Int)=5\/((bq w:Nat):Int)=6:=by omega
      have n1: ¬(((bq w:Nat):Int)=1):=by omega
      have n2: ¬(((bq w:Nat):Int)=2):=by omega
      have n4: ¬(((bq w:Nat):Int)=4):=by omega
      refine⟨oy.2 ⟨?_,?_⟩,?_⟩
      ·rw[kG,if_neg (fun g=>g.elim n1 n2),if_neg n4,if_pos h5,decide_eq_true_eq]
       show 0<=(Int64.ofInt (n:Int)).toInt/\(Int64.ofInt (n:Int)).toInt<=999;rw[hi];omega
      ·rw[mD,if_neg n1,if_neg n2,if_neg n4,if_pos h5]
      ·rw[fh,if_neg (show ¬(((bq w:Nat):Int)=3\/((bq w:Nat):Int)=7\/((bq w:Nat):Int)=8) by omega),mE,if_neg n1,if_neg n2,if_neg n4]
       show _++32::dec (Int64.ofInt (n:Int)).toInt.toNat=s;rw[hi,auy,←q1];exact h3
     ·split at h
      ·cases h
      ·rename_i n1 n2 n4 n5 n0
       obtain rfl:=atl h;have k0:bq w≠0:=fun g=>n0 (.inl g)
       have hm:m=false:=by
              cases m with
              |false=>rfl
              |true=>exact absurd (.inr rfl) n0
       have h3:w=s:=by
              rcases hc with⟨h1,_⟩|⟨_,h2,_⟩
              ·rw[hm]at h1;cases h1
              ·exact h2
       have h5:((bq w:Nat):Int)=3\/((bq w:Nat):Int)=7\/((bq w:Nat):Int)=8:=by omega
       have m1: ¬(((bq w:Nat):Int)=1):=by omega
       have m2: ¬(((bq w:Nat):Int)=2):=by omega
       have m4: ¬(((bq w:Nat):Int)=4):=by omega
       have m5: ¬(((bq w:Nat):Int)=5\/((bq w:Nat):Int)=6):=by omega
       refine⟨oy.2 ⟨?_,?_⟩,?_⟩
       ·rw[kG,if_neg (fun g=>g.elim m1 m2),if_neg m4,if_neg m5];exact decide_eq_true h5
       ·rw[mD,if_neg m1,if_neg m2,if_neg m4,if_neg m5]
       ·rw[fh,if_pos h5];exact(hw k0).trans h3
def Kf(s:aH)(y:aS):Prop:=fR y=true/\((fh y=s/\gX s=some y)\/(fh y≠s/\gX s=none))
theorem CN{s:aH}{y:aS}(h:gX s=some y):Kf s y:=⟨(Qx h).1, .inl ⟨(Qx h).2,h⟩⟩
theorem Qy{s:aH}(k:bq (aK 32 s).1=1):gX s=if py (aK 32 s).2.1=0 then some ⟨(bq (aK 32 s).1:Nat),nM (aK 32 s).2.1,0#128,0,0⟩else none:=by rw[gX,if_pos k,k];rfl
theorem Qz{s:aH}(k:bq (aK 32 s).1=2):gX s=if kF (aK 32 s).2.1=0 then some ⟨(bq (aK 32 s).1:Nat),⟨kE (aK 32 s).2.1,0⟩,0#128,0,0⟩else none:=by rw[gX,if_neg (by omega),if_pos k,k];rfl
theorem QA{s:aH}(k:bq (aK 32 s).1=4):gX s=if jj (aK 32 s).2.1=0 then some ⟨(bq (aK 32 s).1:Nat),bO,iK (aK 32 s).2.1,(fQ (aK 32 s).2.1:Nat),0⟩else none:=by rw[gX,if_neg (by omega),if_neg (by omega),if_pos k,k];rfl
theorem QB{s:aH}(k:bq (aK 32 s).1=5\/bq (aK 32 s).1=6):gX s=(bD (aK 32 s).2.1 999).map fun n=>⟨(bq (aK 32 s).1:Nat),bO,0#128,0,Int64.ofInt (n:Nat)⟩:=by rw[gX,if_neg (by omega),if_neg (by omega),if_neg (by omega),if_pos k]
theorem abo{s:aH}(k0:bq (aK 32 s).1≠0)(k1:bq (aK 32 s).1≠1)(k2:bq (aK 32 s).1≠2)(k4:bq (aK 32 s).1≠4)(k5: ¬(bq (aK 32 s).1=5\/bq (aK 32 s).1=6)):gX s=if(aK 32 s).2.2=true then none else some ⟨(bq (aK 32 s).1:Nat),bO,0#128,0,0⟩:=by
  rw[gX,if_neg k1,if_neg k2,if_neg k4,if_neg k5]
  by_cases h:(aK 32 s).2.2=true
  ·rw[if_pos (.inr h),if_pos h]
  ·rw[if_neg (fun g=>g.elim k0 h),if_neg h]
theorem abp{s:aH}(k0:bq (aK 32 s).1≠0)(k1:bq (aK 32 s).1≠1)(k2:bq (aK 32 s).1≠2)(k4:bq (aK 32 s).1≠4)(k5: ¬(bq (aK 32 s).1=5\/bq (aK 32 s).1=6)):Kf s ⟨(bq (aK 32 s).1:Nat),bO,0#128,0,0⟩:=by
  have h:=abo k0 k1 k2 k4 k5
  by_cases hm:(aK 32 s).2.2=true
  ·rw[if_pos hm]at h
   have h8:=(CM (aK 32 s).1).1;have hw:=(CM (aK 32 s).1).2 k0;have h5:((bq (aK 32 s).1:Nat):Int)=3\/((bq (aK 32 s).1:Nat):Int)=7\/((bq (aK 32 s).1:Nat):Int)=8:=by omega
   have m1: ¬(((bq (aK 32 s).1:Nat):Int)=1):=by omega
   have m2: ¬(((bq (aK 32 s).1:Nat):Int)=2):=by omega
   have m4: ¬(((bq (aK 32 s).1:Nat):Int)=4):=by omega
   have m5: ¬(((bq (aK 32 s).1:Nat):Int)=5\/((bq (aK 32 s).1:Nat):Int)=6):=by omega
   refine⟨oy.2 ⟨?_,?_⟩, .inr ⟨fun g=>?_,h⟩⟩
   ·rw[kG,if_neg (fun g=>g.elim m1 m2),if_neg m4,if_neg m5];exact decide_eq_true h5
   ·rw[mD,if_neg m1,if_neg m2,if_neg m4,if_neg m5]
   ·rw[fh,if_pos h5]at g
    rcases Qw s with⟨_,h2⟩|⟨h2,_⟩
    ·rw[show dS _=(aK 32 s).1 from hw]at g
     have:=congrArg List.length (g.trans h2);rw[adr,af0]at this;omega
    ·rw[hm]at h2;cases h2
  ·rw[if_neg hm]at h
   exact CN h
theorem Kg{s:aH}(k0:bq (aK 32 s).1≠0):(∀y,gX s=some y->kh s=y/\ki s=0)/\(gX s=none->kh s=uq/\ki s=2):=
  ⟨fun y h=>⟨by rw[kh,h];rfl,by rw[ki,if_neg k0,h];rfl⟩,fun h=>⟨by rw[kh,h];rfl,by rw[ki,if_neg k0,h];rfl⟩⟩
theorem QC{s:aH}(k0:bq (aK 32 s).1=0):kh s=uq/\ki s=8:=by
  refine⟨?_,by rw[ki,if_pos k0]⟩;rw[kh,gX,if_neg (by omega),if_neg (by omega),if_neg (by omega),if_neg (by omega),if_pos (.inl k0)];rfl
theorem QD: ∀k:Int,(32:UInt8)∉dS k:=fun k=>by
  unfold dS;(repeat' split)<;>decide
theorem QE: ∀k:Int,(10:UInt8)∉dS k:=fun k=>by
  unfold dS;(repeat' split)<;>decide
theorem abq{k:Int}(h1:1<=k)(h8:k<=8):bq (dS k)=k.toNat:=by
  obtain⟨n,rfl⟩: ∃n:Nat,k=(n:Int):=⟨k.toNat,by omega⟩;rw[Qr (k:=n) (by omega) (by omega) rfl];rfl
theorem abr{x:aS}(h:fR x=true):gX (fh x)=some x:=by
  obtain⟨k1,k8⟩:=abi h;obtain⟨hm,hb⟩:=oy.1 h;have hk:=abq k1 k8;obtain⟨kind,r,key,bits,n⟩:=x;simp only at k1 k8 hk;have CO: ∀t:aH,aK 32 (dS kind++32::t)=(dS kind,t,true):=fun t=>O0 (QD kind);have Kh:aK 32 (dS kind)=(dS kind,[],false):=OZ (QD kind);have hc:kind=1\/kind=2\/kind=3\/kind=4\/kind=5\/kind=6\/kind=7\/kind=8:=by omega
  rw[mD]at hb;rw[kG]at hm;rcases hc with rfl|rfl|rfl|rfl|rfl|rfl|rfl|rfl
  ·have hl:fh ⟨1,r,key,bits,n⟩=dS 1++32::iB r:=rfl
   have hp:bm r.p=true:=hm;obtain⟨e1,e2⟩:=abc hp;rw[gX,hl,CO];dsimp only;rw[(show bq (dS 1)=1 from hk),if_pos rfl,if_pos e2,e1];exact congrArg some hb
  ·have hl:fh ⟨2,r,key,bits,n⟩=dS 2++32::k7 r.p:=rfl
   have hp:bm r.p=true:=hm;obtain⟨e1,e2⟩:=abf hp;rw[gX,hl,CO];dsimp only;rw[(show bq (dS 2)=2 from hk),if_neg (by decide),if_pos rfl,if_pos e2,e1];exact congrArg some hb
  ·have hl:fh ⟨3,r,key,bits,n⟩=dS 3:=rfl
   rw[gX,hl,Kh];dsimp only;rw[(show bq (dS 3)=3 from hk),if_neg (by decide),if_neg (by decide),if_neg (by decide),if_neg (by decide),if_neg (by decide)];exact congrArg some hb
  ·have hl:fh ⟨4,r,key,bits,n⟩=dS 4++32::jD key bits:=rfl
   have hp:lS key bits=true:=hm;obtain⟨e1,e2,e3⟩:=abe hp;rw[gX,hl,CO];dsimp only;rw[(show bq (dS 4)=4 from hk),if_neg (by decide),if_neg (by decide),if_pos rfl,if_pos e3,e1,e2];exact congrArg some hb
  ·have hl:fh ⟨5,r,key,bits,n⟩=dS 5++32::dec n.toInt.toNat:=rfl
   have hp:0<=n.toInt/\n.toInt<=999:=of_decide_eq_true hm;have hn:Int64.ofInt ((n.toInt.toNat:Nat):Int)=n:=Qs (by rw[Ax (by omega)];omega);rw[gX,hl,CO];dsimp only;rw[(show bq (dS 5)=5 from hk),if_neg (by decide),if_neg (by decide),if_neg (by decide),if_pos (by decide),ub (by omega),Option.map_some,hn];exact congrArg some hb
  ·have hl:fh ⟨6,r,key,bits,n⟩=dS 6++32::dec n.toInt.toNat:=rfl
   have hp:0<=n.toInt/\n.toInt<=999:=of_decide_eq_true hm;have hn:Int64.ofInt ((n.toInt.toNat:Nat):Int)=n:=Qs (by rw[Ax (by omega)];omega);rw[gX,hl,CO];dsimp only;rw[(show bq (dS 6)=6 from hk),if_neg (by decide),if_neg (by decide),if_neg (by decide),if_pos (by decide),ub (by omega),Option.map_some,hn];exact congrArg some hb
  ·have hl:fh ⟨7,r,key,bits,n⟩=dS 7:=rfl
   rw[gX,hl,Kh];dsimp only;rw[(show bq (dS 7)=7 from hk),if_neg (by decide),if_neg (by decide),if_neg (by decide),if_neg (by decide),if_neg (by decide)];exact congrArg some hb
  ·have hl:fh ⟨8,r,key,bits,n⟩=dS 8:=rfl
   rw[gX,hl,Kh];dsimp only;rw[(show bq (dS 8)=8 from hk),if_neg (by decide),if_neg (by decide),if_neg (by decide),if_neg (by decide),if_neg (by decide)];exact congrArg some hb
theorem QF{x:aS}(h:fR x=true):kh (fh x)=x/\ki (fh x)=0:=by
  have hr:=abr h;refine⟨by rw[kh,hr];rfl,?_⟩;rw[ki,if_neg (fun h0=>by rw[gX,h0]at hr;simp at hr),hr];rfl
structure sV where
  b:Int
  p:Int
  s:Int
  l:List aS
  deriving DecidableEq
def ur:sV:=⟨0,0,0,[]⟩
def sW:aH:=[99,104,105,112]
def kH(s:aH):Option (Nat×Nat×Nat):=match ba 32 s with
  |[a,b,c,d]=>if a=sW then(match bD b 999,bD c 999,bD d 999 with
   |some x,some y,some z=>some (x,y,z)
   |_,_,_=>none)else none
  |_=>none
def jb(t:aH):List aH:=((ba 10 t).drop 1).take ((ba 10 t).length -2)
def fY(t:aH):Nat:=(ba 10 t).length -1
def vL(l:List aH):Nat:=l.findIdx fun s=>decide (ki s≠0)
def fZ(t:aH):sV×Int×Int:=
  if 16384<t.length then(ur,3,0)
  else if fY t=0\/(ba 10 t).getD (fY t) []≠[]then(ur,2,(fY t:Int)+1)
  else match kH ((ba 10 t).getD 0 [])with
    |none=>(ur,2,1)
    |some (b,p,s)=>
     if vL (jb t)<(jb t).length then(ur,ki ((jb t).getD (vL (jb t)) []),(vL (jb t):Int)+2)
     else if 300<(jb t).length then(ur,3,0)
     else(⟨(b:Nat),(p:Nat),(s:Nat),(jb t).map kh⟩,0,0)
def lV(l:List aS):aH:=(l.map fun x=>fh x++[10]).flatten
def lf(b p s:Nat)(l:List aS):aH:=sW++32::(dec b++32::(dec p++32::(dec s++10::lV l)))
theorem abt{x:aS}(h:fR x=true):(10:UInt8)∉fh x:=by
  have hk: ∀k b,(10:UInt8)∉qS k b:=fun k b=>Ju (by decide) (by decide) (by decide);have hd: ∀n,(10:UInt8)∉dec n:=fun n=>vz (by decide);have hp: ∀p,(10:UInt8)∉sN p:=fun p=>by
    rw[sN];intro g;rcases atu.1 g with g|g
    ·exact hk _ _ g
    ·rcases atv.1 g with g|g
     ·exact absurd g (by decide)
     ·exact hd _ g
  have hr:(10:UInt8)∉mE x:=by
    rw[mE];split
    ·rw[iB];split
     ·rw[yK];intro g
      rcases atu.1 g with g|g
      ·exact hp _ g
      ·rcases atv.1 g with g|g
       ·exact absurd g (by decide)
       ·exact hd _ g
     ·exact auX
    ·split
     ·rw[k7];split
      ·exact hp _
      ·exact auX
     ·split
      ·rw[jD];split
       ·exact hk _ _
       ·exact auX
      ·exact hd _
  rw[fh];split
  ·exact QE _
  ·intro g
   rcases atu.1 g with g|g
   ·exact QE _ g
   ·rcases atv.1 g with g|g
    ·exact absurd g (by decide)
    ·exact hr g
theorem QG: ∀{l:List aS},(∀x∈l,fR x=true)->ba 10 (lV l)=l.map fh++[[]]
  |[],_=>rfl
  |x::r,h=>by
   have ih:=QG (l:=r) fun y hy=>h y (atF _ hy);have:lV (x::r)=fh x++10::lV r:=by simp[lV]
   rw[this,sI (abt (h x at2)),ih];rfl
def xj(b p s:Nat):aH:=sW++32::(dec b++32::(dec p++32::dec s))
theorem abu{b p s:Nat}(hb:b<=999)(hp:p<=999)(hs:s<=999):kH (xj b p s)=some (b,p,s):=by
  have hd: ∀n,(32:UInt8)∉dec n:=fun n=>vz (by decide);have:ba 32 (xj b p s)=[sW,dec b,dec p,dec s]:=by
    rw[xj,sI (by decide),sI (hd b),sI (hd p),Ae (hd s)]
  rw[kH,this];simp only[if_true,ub hb,ub hp,ub hs]
theorem abv(b p s:Nat)(l:List aS):lf b p s l=xj b p s++10::lV l:=by
  simp[lf,xj]
theorem abw(b p s:Nat):(10:UInt8)∉xj b p s:=by
  have hd: ∀n,(10:UInt8)∉dec n:=fun n=>vz (by decide);have h3: ∀(a t:aH),(10:UInt8)∉a->(10:UInt8)∉t->(10:UInt8)∉a++32::t:=fun a t ha ht g=>by
    rcases atu.1 g with g|g
    ·exact ha g
    ·rcases atv.1 g with g|g
     ·exact absurd g (by decide)
     ·exact ht g
  exact h3 _ _ (by decide) (h3 _ _ (hd _) (h3 _ _ (hd _) (hd _)))
theorem abx{b p s:Nat}{l:List aS}(hb:b≤999)(hp:p≤999)(hs:s≤999)(hl: ∀x∈l,fR x=true)(hn:l.length≤300)(eI:(lf b p s l).length≤16384):
    fZ (lf b p s l)=(⟨(b:Nat),(p:Nat),(s:Nat),l⟩,0,0):=by
  have ft:ba 10 (lf b p s l)=xj b p s::(l.map fh++[[]]):=by rw[abv,sI (abw b p s),QG hl]
  have FZ:fY (lf b p s l)=l.length+1:=by rw[fY,ft];simp
  have hmi:jb (lf b p s l)=l.map fh:=by
    rw[jb,ft];simp only[au3,auI,af0,adr,atM,anc];rw[show l.length+(0+1)+1 -2=(l.map fh).length by rw[atM];omega,List.take_left]
  have Ay:vL (l.map fh)=(l.map fh).length:=by
    rw[vL,List.findIdx_eq_length];intro t ht;obtain⟨x,hx,rfl⟩:=auq.1 ht;rw[(QF (hl x hx)).2];rfl
  have hg:(ba 10 (lf b p s l)).getD (l.length+1) []=[]:=by
    rw[ft,List.getD_cons_succ,List.getD,atz (by rw[atM];exact att _),atM,avm];rfl
  have hh:(ba 10 (lf b p s l)).getD 0 []=xj b p s:=by rw[ft];rfl
  rw[fZ,if_neg (by omega),FZ,hg,hh,abu hb hp hs,hmi,Ay,if_neg (by rintro(g|g);omega;exact g rfl)];simp only[Nat.lt_irrefl,if_false,atM];rw[if_neg (by omega),avV];refine congrArg (fun z=>((⟨(b:Nat),(p:Nat),(s:Nat),z⟩:sV),(0:Int),(0:Int))) ?_;exact(auw fun x hx=>(QF (hl x hx)).1).trans (List.map_id l)
theorem aby{l:List aH}{i:Nat}(h: ∀j,j<i->ki (l.getD j [])=0)(hi:i<l.length)(he: ¬ki (l.getD i [])=0):vL l=i:=by
  rw[vL,List.findIdx_eq hi];refine⟨?_,fun j hj=>?_⟩
  ·rw[show l[i]=l.getD i [] by simp[List.getD,hi]];exact decide_eq_true he
  ·rw[show l[j]=l.getD j [] by simp[List.getD,show j<l.length by omega]]
   exact decide_eq_false fun g=>g (h j hj)
theorem abz{l:List aH}(h: ∀j,j<l.length->ki (l.getD j [])=0):vL l=l.length:=by
  rw[vL,List.findIdx_eq_length];intro t ht;obtain⟨j,hj⟩:=atH ht;have:=h j (zz.1 hj).1;rw[show l.getD j []=t by simp[List.getD,hj]]at this;exact decide_eq_false fun g=>g this
theorem QH: ∀{l:List aS},(∀x∈l,fR x=true)->(lV l).length<=48*l.length
  |[],_=>att _
  |x::r,h=>by
   have ih:=QH (l:=r) fun y hy=>h y (atF _ hy);have h1:=Qv (h x at2);have:lV (x::r)=fh x++10::lV r:=by simp[lV]
   rw[this,adr,af0,af0];omega
theorem abA{b p s:Nat}{l:List aS}(hb:b<=999)(hp:p<=999)(hs:s<=999)(hl: ∀x∈l,fR x=true):(lf b p s l).length<=48*l.length+20:=by
  have h1:=QH hl;have d1:=jB 3 b (by omega) (by decide);have d2:=jB 3 p (by omega) (by decide);have d3:=jB 3 s (by omega) (by decide);have:sW.length=4:=rfl;simp only[lf,adr,af0];omega
theorem abB{s:aH}(h:(ba 32 s).length≠4):kH s=none:=by
  rw[kH];split
  ·rename_i e;rw[e]at h;exact absurd rfl h
  ·rfl
def oz(ps:List aH)(j:Nat):Nat:=(bD (ps.getD (j+1) []) 999).getD 0
theorem Ki{s:aH}{a b c d:aH}(h:ba 32 s=[a,b,c,d]):kH s=if a=sW then(match bD b 999,bD c 999,bD d 999 with
    |some x,some y,some z=>some (x,y,z)
    |_,_,_=>none)else none:=by rw[kH,h]
theorem F0{α:Type}{l:List α}(h:l.length=4): ∃a b c d,l=[a,b,c,d]:=by
  match l,h with
  |[a,b,c,d],_=>exact⟨a,b,c,d,rfl⟩
theorem abC{s:aH}(h:(ba 32 s).length=4)(h0:(ba 32 s).getD 0 []≠sW):kH s=none:=by
  obtain⟨a,b,c,d,e⟩:=F0 h;rw[Ki e,if_neg];rw[e]at h0;exact h0
theorem abD{s:aH}{i:Nat}(h:(ba 32 s).length=4)(hi:i<3)(h0:bD ((ba 32 s).getD (i+1) []) 999=none):kH s=none:=by
  obtain⟨a,b,c,d,e⟩:=F0 h;rw[Ki e];rw[e]at h0;split
  ·match i,hi with
   |0,_=>rw[show bD b 999=none from h0]
   |1,_=>rw[show bD c 999=none from h0];split<;>simp_all
   |2,_=>rw[show bD d 999=none from h0];split<;>simp_all
  ·rfl
theorem abE{s:aH}(h:(ba 32 s).length=4)(h0:(ba 32 s).getD 0 []=sW)(hn: ∀j,j<3->(bD ((ba 32 s).getD (j+1) []) 999).isSome=true):kH s=some (oz (ba 32 s) 0,oz (ba 32 s) 1,oz (ba 32 s) 2):=by
  obtain⟨a,b,c,d,e⟩:=F0 h;rw[Ki e,e];rw[e]at h0 hn;obtain⟨x,hx⟩:=at6.1 (hn 0 (by decide));obtain⟨y,hy⟩:=at6.1 (hn 1 (by decide));obtain⟨z,hz⟩:=at6.1 (hn 2 (by decide));have w9:bD b 999=some x:=hx;have xk:bD c 999=some y:=hy;have nN:bD d 999=some z:=hz;have ha:a=sW:=h0;rw[if_pos ha,w9,xk,nN];simp only[oz];rw[show bD ([a,b,c,d].getD (0+1) []) 999=some x from w9,show bD ([a,b,c,d].getD (1+1) []) 999=some y from xk,show bD ([a,b,c,d].getD (2+1) []) 999=some z from nN];rfl
theorem abF{t:aH}(h:16384<t.length):fZ t=(ur,3,0):=by rw[fZ,if_pos h]
theorem abG{t:aH}(h: ¬16384<t.length)(h2:fY t=0\/(ba 10 t).getD (fY t) []≠[]):fZ t=(ur,2,(fY t:Int)+1):=by rw[fZ,if_neg h,if_pos h2]
theorem abH{t:aH}(h: ¬16384<t.length)(h2: ¬(fY t=0\/(ba 10 t).getD (fY t) []≠[]))(h3:kH ((ba 10 t).getD 0 [])=none):fZ t=(ur,2,1):=by rw[fZ,if_neg h,if_neg h2,h3]
theorem abI{t:aH}{q:Nat×Nat×Nat}{i:Nat}(h: ¬16384<t.length)(h2: ¬(fY t=0\/(ba 10 t).getD (fY t) []≠[]))(h3:kH ((ba 10 t).getD 0 [])=some q)(hj: ∀j,j<i->ki ((jb t).getD j [])=0)(hi:i<(jb t).length)(he: ¬ki ((jb t).getD i [])=0):fZ t=(ur,ki ((jb t).getD i []),(i:Int)+2):=by
  obtain⟨b,p,s⟩:=q;have hb:=aby hj hi he;rw[fZ,if_neg h,if_neg h2,h3];simp only;rw[hb,if_pos hi]
theorem abJ{t:aH}{q:Nat×Nat×Nat}(h: ¬16384<t.length)(h2: ¬(fY t=0\/(ba 10 t).getD (fY t) []≠[]))(h3:kH ((ba 10 t).getD 0 [])=some q)(hj: ∀j,j<(jb t).length->ki ((jb t).getD j [])=0):fZ t=if 300<(jb t).length then(ur,3,0)else(⟨(q.1:Nat),(q.2.1:Nat),(q.2.2:Nat),(jb t).map kh⟩,0,0):=by
  obtain⟨b,p,s⟩:=q;have hb:=abz hj;rw[fZ,if_neg h,if_neg h2,h3];simp only;rw[hb,if_neg (Nat.lt_irrefl _)]
theorem abK(t:aH):(jb t).length=fY t -1:=by
  have h:=auV.2 (Cs (c:=10) t);rw[jb,fY,atq,atD];omega
theorem abL{t:aH}{x:aH}(h:x∈jb t):x.length<=t.length:=Fx t (av5 (avk h))
end Go.Kb
namespace Go.Proofs.YtkggjjnhnjjokaaGreatDoor
open Go.ax Go.Kb Go.RowKit
class iC(w:World):Prop extends Tabs w where
 F1: ∃tp p,w.var? Tryz.prog "strconv.ErrSyntax" =some #[.iface tp p]
 F2: ∃tp p,w.var? Tryz.prog "strconv.ErrRange" =some #[.iface tp p]
instance {w:World}[t:iC w]:Tabs w:=t.toTabs
theorem QI{w0 w:World}{L:List ai}{P:Program}{n:String}{cs:Array Value}(hv:w0.var? P n=some cs)(h:Mem w0 L w):w.var? P n=some cs:=by
 unfold World.var? at hv⊢
 cases hg:P.globalNamed n with
 |none=>rw[hg]at hv;cases hv
 |some g=>
  simp only[hg,av8]at hv⊢;have JA:g<w0.heap.size:=by
   rcases atA g w0.heap.size with q|q
   ·
    exact q
   rw[atQ q]at hv;cases hv
  rw[h.below.block g JA];exact hv
theorem iC.at{w0 w:World}{L:List ai}(t:iC w0)(h:Mem w0 L w):iC w:=by
 obtain⟨a,b,h1⟩:=t.F1;obtain⟨c,d,h2⟩:=t.F2;exact{t.toTabs.at h with F1:=⟨a,b,QI h1 h⟩,F2:=⟨c,d,QI h2 h⟩}
variable {w0:World}{L:List ai}
instance ao0[t:Tabs w0](n:Int64):bU Tryz.prog 86 w0 L [.int .i64 n.toInt] (.string ⟨(Lib.itoa n.toInt).toArray⟩) True:=⟨fun _ w hw=>by
 have h1:=Int64.le_toInt n;have h2:=Int64.toInt_lt n;refine(Tryz.strconv_Itoa n.toInt oM oM w (t.at hw).pow).mono ?_;rintro e w' ⟨he,k,os,rfl⟩;exact⟨he, .BP ⟨rfl,rfl,rfl,by show w.heap.size<=(w.heap++os).size;rw[aud];omega,fun j hj=>by show(w.heap++os)[j]? =w.heap[j]?;exact auk hj⟩⟩⟩
theorem abM{z:Int}(h:0<=z):Lib.itoa z=dec z.toNat:=by
 obtain⟨n,rfl⟩: ∃n:Nat,z=(n:Int):=⟨z.toNat,by omega⟩;rw[PD,auy]
instance ao1[t:iC w0](s:aH):bV Tryz.prog 207 w0 L [.string ⟨s.toArray⟩] (Int×Option (TypeId×Value)) (fun z=> .tuple #[.int .i64 z.1,CK z.2]) (fun _=>L) (fun z=>(z.2=none->Lib.atoiAll s= .ok z.1)/\(z.2≠none-> ∀v,Lib.atoiAll s≠ .ok v)) (s.length<=281474976710656):=⟨fun hs w hw=>by
 have tb:=t.at hw;obtain⟨tp,p,hv⟩:=tb.F1;obtain⟨tq,q,hr⟩:=tb.F2;have hz:(⟨s.toArray⟩:ByteArray).size<=281474976710656:=by rw[sJ];exact hs
 cases h:Lib.atoiAll s
 ·
  rename_i v
  refine(Tryz.strconv_Atoi_ok ⟨s.toArray⟩ oM v h w).mono ?_;rintro e w' ⟨he,gR⟩;refine⟨(v,none),he,⟨fun _=>rfl,fun g=>absurd rfl g⟩,hw.step ?_⟩;rcases gR with rfl|⟨t,rfl⟩
  ·
   exact Below.refl _ _
  exact Lib.bytesWorld_below _ _ _
 ·
  refine(Tryz.strconv_Atoi_syntax_var ⟨s.toArray⟩ hz h tp p w hv).mono ?_;rintro e w' ⟨N,he,_,_,hb⟩;refine⟨(0,some (_,_)),he,?_,hw.step hb⟩;constructor
  ·
   intro g;cases g
  intro _ v g;cases g
 ·
  refine(Tryz.strconv_Atoi_range_var ⟨s.toArray⟩ hz h tq q w hr).mono ?_;rintro e w' ⟨N,he,_,_,hb⟩;refine⟨(_,some (_,_)),he,?_,hw.step hb⟩;constructor
  ·
   intro g;cases g
  intro _ v g;cases g⟩
def F3(n:Nat):aH:=if n<10 then[UInt8.ofNat (48+n)]else if n<100 then[UInt8.ofNat (48+n/10),UInt8.ofNat (48+n%10)]else[UInt8.ofNat (48+n/10/10),UInt8.ofNat (48+n/10%10),UInt8.ofNat (48+n%10)]
theorem abN{n:Nat}(h:n<1000):dec n=F3 n:=by
 rw[F3];split
 ·
  rename_i h1;exact pq h1
 split
 ·
  rename_i h1 h2;rw[sH (n:=n) oM,pq (n:=n/10) oM];rfl
 rename_i h1 h2;rw[sH (n:=n) oM,sH (n:=n/10) oM,pq (n:=n/10/10) oM];rfl
def QJ(n:Nat):Bool:=match Lib.atoiAll (F3 n)with
 | .ok v=>decide (v=(n:Int))
 |_=>false
theorem abO: ∀n,n<1000->QJ n=true:=by decide+kernel
theorem abP(n:Nat)(h:n<1000):Lib.atoiAll (dec n)= .ok (n:Int):=by
 have h1:=abO n h;rw[QJ]at h1;rw[abN h]
 cases hq:Lib.atoiAll (F3 n)
 ·
  rename_i v;rw[hq]at h1;rw[of_decide_eq_true h1]
 all_goals (rw[hq]at h1;cases h1)
theorem abQ{s:aH}{z:Int}(h:Lib.atoiAll s= .ok z)(h0:0<=z)(h9:z<=999)(he:dec z.toNat=s):bD s 999=some z.toNat:=jN.2 ⟨he.symm,by omega⟩
theorem abR{s:aH}{n:Nat}(h:bD s 999=some n):s=dec n/\n<=999/\Lib.atoiAll s= .ok (n:Int):=by
 obtain⟨h1,h2⟩:=jN.1 h;exact⟨h1,h2,by rw[h1];exact abP n oM⟩
instance ao2{k:Int}:bU Tryz.prog 87 w0 L [.int .i64 k] (.string ⟨(dS k).toArray⟩) (True):=⟨fun aA w hw=>by
 refine ct Tryz.func87 rfl Tryz.ntmps87 rfl ?_;refine fI ?_;refine Gb ?_ ?_<;>intro h0
 ·
  refine al ?_;refine Gr fun w1 hw=>?_;exact⟨(by rw[dS,if_pos h0]),ah.mem hw⟩
 refine ar ?_;refine Gb ?_ ?_<;>intro h1
 ·
  refine al ?_;refine Gr fun w1 hw=>?_;exact⟨(by rw[dS,if_neg h0,if_pos h1]),ah.mem hw⟩
 refine ar ?_;refine Gb ?_ ?_<;>intro h2
 ·
  refine al ?_;refine Gr fun w1 hw=>?_;exact⟨(by rw[dS,if_neg h0,if_neg h1,if_pos h2]),ah.mem hw⟩
 refine ar ?_;refine Gb ?_ ?_<;>intro h3
 ·
  refine al ?_;refine Gr fun w1 hw=>?_;exact⟨(by rw[dS,if_neg h0,if_neg h1,if_neg h2,if_pos h3]),ah.mem hw⟩
 refine ar ?_;refine Gb ?_ ?_<;>intro h4
 ·
  refine al ?_;refine Gr fun w1 hw=>?_;exact⟨(by rw[dS,if_neg h0,if_neg h1,if_neg h2,if_neg h3,if_pos h4]),ah.mem hw⟩
 refine ar ?_;refine Gb ?_ ?_<;>intro h5
 ·
  refine al ?_;refine Gr fun w1 hw=>?_;exact⟨(by rw[dS,if_neg h0,if_neg h1,if_neg h2,if_neg h3,if_neg h4,if_pos h5]),ah.mem hw⟩
 refine ar ?_;refine Gb ?_ ?_<;>intro h6
 ·
  refine al ?_;refine Gr fun w1 hw=>?_;exact⟨(by rw[dS,if_neg h0,if_neg h1,if_neg h2,if_neg h3,if_neg h4,if_neg h5,if_pos h6]),ah.mem hw⟩
 refine ar ?_;refine Gb ?_ ?_<;>intro h7
 ·
  refine al ?_;refine Gr fun w1 hw=>?_;exact⟨(by rw[dS,if_neg h0,if_neg h1,if_neg h2,if_neg h3,if_neg h4,if_neg h5,if_neg h6,if_pos h7]),ah.mem hw⟩
 refine al ?_;refine Gr fun w1 hw=>?_;exact⟨(by rw[dS,if_neg h0,if_neg h1,if_neg h2,if_neg h3,if_neg h4,if_neg h5,if_neg h6,if_neg h7]),ah.mem hw⟩⟩
instance ao3{s:List UInt8}:bU Tryz.prog 148 w0 L [.string ⟨s.toArray⟩] (.int .i64 ((bq s):Nat)) (True):=⟨fun aA w hw=>by
 refine ct Tryz.func148 rfl Tryz.ntmps148 rfl ?_;refine aQ ?_;refine ck (X:=Nat) (fun U=>[(3, .int .i64 (U:Nat)),(0, .string ⟨s.toArray⟩)]) (fun U=>[]) (fun U=>1<=U/\U<=9/\ ∀j:Nat,1<=j->j<U-> ¬dS (j:Int)=s) (fun U=>9 -U) 1 ⟨Nat.le_refl _,by decide,fun j h1 h2=>by first|omega|(simp only[];omega)⟩ sb (fun w hw=>ah.mem hw) ?_;rintro k ⟨CP,oh,F4⟩;refine ar ?_;refine Gb ?_ ?_<;>intro h0
 ·
  refine ar ?_;refine ag (yD rfl rfl) (Gc ?_);refine Gb ?_ ?_<;>intro h1
  ·
   refine ar ?_;refine Gr fun w1 hw=>?_;exact Gf ((by rw[Qr CP oM h1])) hw
  have h1q: ¬dS (k:Int)=s:=by simpa using h1
  refine ar ?_;refine Gi ?_;exact bw (x:=(k)) (k+1) ⟨oF,oF,fun j h1 h2=>if e:j=k then(by subst e;exact h1q)else F4 j h1 oF⟩ oF sb (fun w hw=>ah.mem hw)
 refine al ?_;refine Gr fun w1 hw=>?_;exact⟨congrArg (fun b=>Ending.returned (Value.int .i64 b)) ((by rw[abh fun j g1 g2=>F4 j g1 oM];rfl)),ah.mem hw⟩⟩
end Go.Proofs.YtkggjjnhnjjokaaGreatDoor
