/- Part of a proof. -/
import Derived.Test.YtkggjjnhnjjokaaGreatDoorA1
import Derived.Lib.Join
import Derived.Test.YtkggjjnhnjjokaaGreatDoorRows
import Derived.Shelf.Strings.Builder1
import Derived.Shelf.Strings.Builder2
import Derived.Shelf.Strings.OnBuilder
import Derived.Shelf.Small.Strs
import Derived.Shelf.Utf8.RuneCount
import Derived.Shelf.Strconv.Itoa0
import Derived.Shelf.Strconv.Itoa1
import Derived.Shelf.LaysM
import Derived.Shelf.Strconv.Itoa2
import Derived.Shelf.Strconv.Itoa3
import Derived.Shelf.Strings.Search1
import Derived.Shelf.Strings.Search2
import Derived.Shelf.Strings.Search3
import Derived.Shelf.Strings.Cut
import Derived.Shelf.Strings.Count
import Derived.Shelf.Strings.Shaped
import Derived.Shelf.Strings.Split
import Derived.Shelf.Strings.SplitShaped
import Derived.Shelf.Unicode.Decode
import Derived.Shelf.Strings.RuneCount
import Derived.Shelf.Strings.Explode
import Derived.Shelf.Unicode.DecodeSlow
import Derived.Shelf.Unicode.DecodeAny
import Derived.Test.YtkggjjnhnjjokaaGreatDoorProg
import Derived.Lib.AppendZerosOnto
import Derived.Lib.Overlaps
import Derived.Lib.AppendZeros
set_option maxRecDepth 20000
set_option linter.unusedSimpArgs false
set_option linter.unusedVariables false
namespace Go.Kb
open Go.ax
variable {s:cf} {i n top:Nat} {c:UInt8}
def sX(c:UInt8):Int:=match lG c with
 |some n=>(n:Int)
 |none=> -1
def C7(s:cf)(top:Nat):Int:=match c0 s top with
 |some n=>(n:Int)
 |none=> -1
theorem P6(h:i<s.length):s.take (i+1)=s.take i++[s.getD i 0]:=by
 rw[auI h];simp[List.getD,h]
theorem FX(h:i<s.length):val (s.take (i+1))=10*val (s.take i)+((s.getD i 0).toNat -48):=by rw[P6 h,FG]
theorem P7(h:i<s.length)(h1:(s.take i).all me=true)(h2:48<=(s.getD i 0).toNat/\(s.getD i 0).toNat<=57):(s.take (i+1)).all me=true:=by
 rw[P6 h,List.all_append,h1];simp only[au2,avi,me];simpa using h2
theorem Zp: ∀k (s:cf),s.length=k->s.all me=true->val s<10^k:=by
 intro k
 induction k with
 |zero=>intro s hl _;rw[ati.1 hl];simp[val]
 |succ k ih=>
  intro s hl hd;obtain⟨t,c,rfl⟩: ∃t c,s=t++[c]:=by
   rcases List.eq_nil_or_concat s with h|⟨t,c,h⟩
   ·
    subst h;simp at hl
   exact⟨t,c,by simpa using h⟩
  rw[List.all_append,anc]at hd;have hc:48<=c.toNat/\c.toNat<=57:=by
   have:=hd.2;simpa[me]using this
  have:=ih t (by simpa using hl) hd.1;rw[FG,av1];omega
theorem Zq(h:i<=5)(hi:i<=s.length)(h1:(s.take i).all me=true):val (s.take i)<100000:=by
 have:=Zp i (s.take i) (by simp;omega) h1;exact atS this (auc (by decide) h)
theorem Zr(a b:cf):val a<=val (a++b):=by
 have key: ∀(b:cf) (m:Nat),m<=b.foldl (fun a c=>10*a+(c.toNat -48)) m:=by
  intro b
  induction b with
  |nil=>intro m;exact as4 _
  |cons x b ih=>intro m;exact avq (show m<=10*m+(x.toNat -48) by omega) (ih _)
 unfold val;rw[avz];exact key b _
theorem Ke(h:0<s.length):s.head?=some (s.getD 0 0):=by
 cases s with
 |nil=>simp at h
 |cons x s=>rfl
theorem Zs(ht:top<=65535)(h:s.length=0\/5<s.length\/(1<s.length/\(s.getD 0 0).toNat=48)):c0 s top=none:=by
 cases e:c0 s top with
 |none=>rfl
 |some n=>
  obtain⟨rfl,hn⟩:=mf.1 e;have hl:=YM 5 n (by omega) (by decide);have hp:=JW n;have h0:=avo.2 hp.1;rcases h with h|h|⟨h,h2⟩
  ·
   omega
  ·
   omega
  rcases hp.2 with h3|h3
  ·
   omega
  rw[Ke h0]at h3;exact absurd (congrArg some (avm.1 h2:(dec n).getD 0 0=48)) h3
theorem Zt(h:s=[]\/(1<s.length/\(s.getD 0 0).toNat=48)):c0 s top=none:=by
 cases e:c0 s top with
 |none=>rfl
 |some n=>
  obtain⟨rfl,hn⟩:=mf.1 e;have hp:=JW n;have h0:=avo.2 hp.1;rcases h with h|⟨h,h2⟩
  ·
   exact absurd h hp.1
  rcases hp.2 with h3|h3
  ·
   omega
  rw[Ke h0]at h3;exact absurd (congrArg some (avm.1 h2:(dec n).getD 0 0=48)) h3
theorem P8(h:i<s.length)(h2:(s.getD i 0).toNat<48\/57<(s.getD i 0).toNat):c0 s top=none:=by
 cases e:c0 s top with
 |none=>rfl
 |some n=>
  obtain⟨rfl,hn⟩:=mf.1 e;have:=atk.1 (JU n) ((dec n).getD i 0) (by simp[List.getD,h]);simp only[me,decide_eq_true_eq]at this;omega
theorem P9(h:top<val (s.take i)):c0 s top=none:=by
 cases e:c0 s top with
 |none=>rfl
 |some n=>
  obtain⟨rfl,hn⟩:=mf.1 e;have:=Zr ((dec n).take i) ((dec n).drop i);rw[atz,JV]at this;omega
theorem Qa(h:s≠[])(h1: ¬(1<s.length/\(s.getD 0 0).toNat=48))(h2:s.all me=true)(h3:val s<=top):c0 s top=some (val s):=by
 unfold c0;rw[if_pos];refine⟨h,?_,h2,h3⟩;have h0:=avo.2 h;rcases as3 1 s.length with h4|h4
 ·
  right;rw[Ke h0];intro e;exact h1 ⟨h4,by rw[asY e];rfl⟩
 exact .inl h4
variable {s:cf} {i n st:Nat} {c:UInt8}
variable {ps:List cf}
theorem Zu{x:cf}: ∀(s:cf),x∈cU c s->x.length<=s.length:=by
 intro s;have key: ∀n (s:cf),s.length<=n->x∈cU c s->x.length<=s.length:=by
  intro n
  induction n with
  |zero=>
   intro s hs hx;obtain rfl:=ati.1 (Nat.le_zero.1 hs);simp[cU]at hx;simp[hx]
  |succ n ih=>
   intro s hs hx;rcases AO (c:=c) s with⟨_,h2⟩|⟨a,b,h1,_,h3⟩
   ·
    rw[h2,atG]at hx;rw[hx];exact as4 _
   rw[h3,as2]at hx;have hl:s.length=a.length+(b.length+1):=by rw[h1];simp
   rcases hx with rfl|hx
   ·
    omega
   have:=ih b (by omega) hx;omega
 exact key s.length s (as4 _)
variable {k:Key} {i n:Nat} {s:cf} {c:UInt8}
section
variable {P:Program} {N:cc} {w0:World} {env:Env} {L:List aj} {d:Option Tmp} {ty t u:TypeId} {ps:String} {af:Array Edge} {gd:Option (Nat×Bool)}
end
variable {k:Key} {i:Nat}
end Go.Kb
namespace Go.Proofs.YtkggjjnhnjjokaaGreatDoor
open Go.ax
instance aka:fW Tryz.prog 3:=⟨⟨_,Tryz.underlying3,rfl⟩,by kernel_rfl⟩
instance akb:nS Tryz.prog 3 .i64:=⟨Tryz.underlying3⟩
instance akc:fW Tryz.prog 4:=⟨⟨_,Tryz.underlying4,rfl⟩,by kernel_rfl⟩
instance akd:fW Tryz.prog 5:=⟨⟨_,Tryz.underlying5,rfl⟩,by kernel_rfl⟩
instance ake:nS Tryz.prog 5 .u8:=⟨Tryz.underlying5⟩
instance akf:fW Tryz.prog 9:=⟨⟨_,Tryz.underlying9,rfl⟩,by kernel_rfl⟩
instance akg:fW Tryz.prog 22:=⟨⟨_,Tryz.underlying22,rfl⟩,by kernel_rfl⟩
instance akh:fw Tryz.prog 22 34 19:=⟨Tryz.underlying22,by kernel_rfl⟩
instance aki:fE Tryz.prog 25 16:=⟨⟨_,Tryz.underlying25,rfl⟩,by kernel_rfl⟩
instance akj:vp Tryz.prog 25 16 1:=⟨⟨_,Tryz.underlying25,by kernel_rfl⟩⟩
instance akk:nS Tryz.prog 26 .u32:=⟨Tryz.underlying26⟩
instance akl:fW Tryz.prog 27:=⟨⟨_,Tryz.underlying27,rfl⟩,by kernel_rfl⟩
instance akm:nS Tryz.prog 27 .u16:=⟨Tryz.underlying27⟩
instance akn:fE Tryz.prog 32 18:=⟨⟨_,Tryz.underlying32,rfl⟩,by kernel_rfl⟩
instance ako:dG Tryz.prog 32 0 0:=⟨⟨_,_,0,Tryz.underlying32,rfl,rfl,by kernel_rfl⟩⟩
instance akp:dG Tryz.prog 32 1 1:=⟨⟨_,_,0,Tryz.underlying32,rfl,rfl,by kernel_rfl⟩⟩
instance akq:dG Tryz.prog 32 2 2:=⟨⟨_,_,15,Tryz.underlying32,rfl,rfl,by kernel_rfl⟩⟩
instance akr:fE Tryz.prog 34 19:=⟨⟨_,Tryz.underlying34,rfl⟩,by kernel_rfl⟩
instance aks:dG Tryz.prog 34 0 0:=⟨⟨_,_,17,Tryz.underlying34,rfl,rfl,by kernel_rfl⟩⟩
instance akt:dG Tryz.prog 34 1 18:=⟨⟨_,_,0,Tryz.underlying34,rfl,rfl,by kernel_rfl⟩⟩
instance aku:fw Tryz.prog 45 47 20:=⟨Tryz.underlying45,by kernel_rfl⟩
instance akv:fE Tryz.prog 47 20:=⟨⟨_,Tryz.underlying47,rfl⟩,by kernel_rfl⟩
instance akw:dG Tryz.prog 47 0 0:=⟨⟨_,_,18,Tryz.underlying47,rfl,rfl,by kernel_rfl⟩⟩
instance akx:dG Tryz.prog 47 1 19:=⟨⟨_,_,0,Tryz.underlying47,rfl,rfl,by kernel_rfl⟩⟩
instance aky:fW Tryz.prog 53:=⟨⟨_,Tryz.underlying53,rfl⟩,by kernel_rfl⟩
instance akz:fw Tryz.prog 53 5 1:=⟨Tryz.underlying53,by kernel_rfl⟩
instance akA:fW Tryz.prog 56:=⟨⟨_,Tryz.underlying56,rfl⟩,by kernel_rfl⟩
instance akB:fw Tryz.prog 56 180 4:=⟨Tryz.underlying56,by kernel_rfl⟩
instance akC:fW Tryz.prog 57:=⟨⟨_,Tryz.underlying57,rfl⟩,by kernel_rfl⟩
instance akD:fw Tryz.prog 57 97 4:=⟨Tryz.underlying57,by kernel_rfl⟩
instance akE:fE Tryz.prog 59 6:=⟨⟨_,Tryz.underlying59,rfl⟩,by kernel_rfl⟩
instance akF:dG Tryz.prog 59 0 0:=⟨⟨_,_,0,Tryz.underlying59,rfl,rfl,by kernel_rfl⟩⟩
instance akG:dG Tryz.prog 59 1 1:=⟨⟨_,_,0,Tryz.underlying59,rfl,rfl,by kernel_rfl⟩⟩
instance akH:dG Tryz.prog 59 2 2:=⟨⟨_,_,0,Tryz.underlying59,rfl,rfl,by kernel_rfl⟩⟩
instance akI:dG Tryz.prog 59 3 3:=⟨⟨_,_,0,Tryz.underlying59,rfl,rfl,by kernel_rfl⟩⟩
instance akJ:dG Tryz.prog 59 4 4:=⟨⟨_,_,0,Tryz.underlying59,rfl,rfl,by kernel_rfl⟩⟩
instance akK:dG Tryz.prog 59 5 5:=⟨⟨_,_,0,Tryz.underlying59,rfl,rfl,by kernel_rfl⟩⟩
instance akL:fW Tryz.prog 60:=⟨⟨_,Tryz.underlying60,rfl⟩,by kernel_rfl⟩
instance akM:fw Tryz.prog 60 3 1:=⟨Tryz.underlying60,by kernel_rfl⟩
instance akN:fW Tryz.prog 61:=⟨⟨_,Tryz.underlying61,rfl⟩,by kernel_rfl⟩
instance akO:nS Tryz.prog 61 .u64:=⟨Tryz.underlying61⟩
instance akP:fE Tryz.prog 63 9:=⟨⟨_,Tryz.underlying63,rfl⟩,by kernel_rfl⟩
instance akQ:dG Tryz.prog 63 0 0:=⟨⟨_,_,5,Tryz.underlying63,rfl,rfl,by kernel_rfl⟩⟩
instance akR:dG Tryz.prog 63 1 6:=⟨⟨_,_,0,Tryz.underlying63,rfl,rfl,by kernel_rfl⟩⟩
instance akS:dG Tryz.prog 63 2 7:=⟨⟨_,_,0,Tryz.underlying63,rfl,rfl,by kernel_rfl⟩⟩
instance akT:dG Tryz.prog 63 3 8:=⟨⟨_,_,0,Tryz.underlying63,rfl,rfl,by kernel_rfl⟩⟩
instance akU:fE Tryz.prog 65 10:=⟨⟨_,Tryz.underlying65,rfl⟩,by kernel_rfl⟩
instance akV:dG Tryz.prog 65 0 0:=⟨⟨_,_,8,Tryz.underlying65,rfl,rfl,by kernel_rfl⟩⟩
instance akW:dG Tryz.prog 65 1 9:=⟨⟨_,_,0,Tryz.underlying65,rfl,rfl,by kernel_rfl⟩⟩
instance akX:fE Tryz.prog 97 4:=⟨⟨_,Tryz.underlying97,rfl⟩,by kernel_rfl⟩
instance akY:dG Tryz.prog 97 0 0:=⟨⟨_,_,0,Tryz.underlying97,rfl,rfl,by kernel_rfl⟩⟩
instance akZ:dG Tryz.prog 97 1 1:=⟨⟨_,_,0,Tryz.underlying97,rfl,rfl,by kernel_rfl⟩⟩
instance ak0:dG Tryz.prog 97 2 2:=⟨⟨_,_,0,Tryz.underlying97,rfl,rfl,by kernel_rfl⟩⟩
instance ak1:dG Tryz.prog 97 3 3:=⟨⟨_,_,0,Tryz.underlying97,rfl,rfl,by kernel_rfl⟩⟩
instance ak2:fW Tryz.prog 122:=⟨⟨_,Tryz.underlying122,rfl⟩,by kernel_rfl⟩
instance ak3:fw Tryz.prog 122 225 48:=⟨Tryz.underlying122,by kernel_rfl⟩
instance ak4:fE Tryz.prog 124 2:=⟨⟨_,Tryz.underlying124,rfl⟩,by kernel_rfl⟩
instance ak5:dG Tryz.prog 124 0 0:=⟨⟨_,_,0,Tryz.underlying124,rfl,rfl,by kernel_rfl⟩⟩
instance ak6:dG Tryz.prog 124 1 1:=⟨⟨_,_,0,Tryz.underlying124,rfl,rfl,by kernel_rfl⟩⟩
instance ak7:fw Tryz.prog 155 9 1:=⟨Tryz.underlying155,by kernel_rfl⟩
instance ak8:fW Tryz.prog 178:=⟨⟨_,Tryz.underlying178,rfl⟩,by kernel_rfl⟩
instance ak9:fw Tryz.prog 178 53 1:=⟨Tryz.underlying178,by kernel_rfl⟩
instance ala:fE Tryz.prog 180 4:=⟨⟨_,Tryz.underlying180,rfl⟩,by kernel_rfl⟩
instance alb:dG Tryz.prog 180 0 0:=⟨⟨_,_,0,Tryz.underlying180,rfl,rfl,by kernel_rfl⟩⟩
instance alc:dG Tryz.prog 180 1 1:=⟨⟨_,_,0,Tryz.underlying180,rfl,rfl,by kernel_rfl⟩⟩
instance ald:dG Tryz.prog 180 2 2:=⟨⟨_,_,0,Tryz.underlying180,rfl,rfl,by kernel_rfl⟩⟩
instance ale:dG Tryz.prog 180 3 3:=⟨⟨_,_,0,Tryz.underlying180,rfl,rfl,by kernel_rfl⟩⟩
instance alf:fw Tryz.prog 191 269 2:=⟨Tryz.underlying191,by kernel_rfl⟩
instance alg:fE Tryz.prog 217 2:=⟨⟨_,Tryz.underlying217,rfl⟩,by kernel_rfl⟩
instance alh:dG Tryz.prog 217 0 0:=⟨⟨_,_,1,Tryz.underlying217,rfl,rfl,by kernel_rfl⟩⟩
instance ali:fE Tryz.prog 221 2:=⟨⟨_,Tryz.underlying221,rfl⟩,by kernel_rfl⟩
instance alj:dG Tryz.prog 221 0 0:=⟨⟨_,_,0,Tryz.underlying221,rfl,rfl,by kernel_rfl⟩⟩
instance alk:dG Tryz.prog 221 1 1:=⟨⟨_,_,0,Tryz.underlying221,rfl,rfl,by kernel_rfl⟩⟩
instance alm:vp Tryz.prog 222 16 2:=⟨⟨_,Tryz.underlying222,by kernel_rfl⟩⟩
instance aln:vp Tryz.prog 223 16 1:=⟨⟨_,Tryz.underlying223,by kernel_rfl⟩⟩
instance alo:fE Tryz.prog 225 48:=⟨⟨_,Tryz.underlying225,rfl⟩,by kernel_rfl⟩
instance alp:dG Tryz.prog 225 0 0:=⟨⟨_,_,31,Tryz.underlying225,rfl,rfl,by kernel_rfl⟩⟩
instance alq:dG Tryz.prog 225 1 32:=⟨⟨_,_,15,Tryz.underlying225,rfl,rfl,by kernel_rfl⟩⟩
instance alr:nS Tryz.prog 253 .u64:=⟨Tryz.underlying253⟩
instance als:fW Tryz.prog 259:=⟨⟨_,Tryz.underlying259,rfl⟩,by kernel_rfl⟩
instance alu:dG Tryz.prog 261 0 0:=⟨⟨_,_,8,Tryz.underlying261,rfl,rfl,by kernel_rfl⟩⟩
instance alv:dG Tryz.prog 261 1 9:=⟨⟨_,_,0,Tryz.underlying261,rfl,rfl,by kernel_rfl⟩⟩
instance alw:fE Tryz.prog 269 2:=⟨⟨_,Tryz.underlying269,rfl⟩,by kernel_rfl⟩
instance alx:dG Tryz.prog 269 0 0:=⟨⟨_,_,0,Tryz.underlying269,rfl,rfl,by kernel_rfl⟩⟩
instance aly:dG Tryz.prog 269 1 1:=⟨⟨_,_,0,Tryz.underlying269,rfl,rfl,by kernel_rfl⟩⟩
instance alz:fE Tryz.prog 314 2:=⟨⟨_,Tryz.underlying314,rfl⟩,by kernel_rfl⟩
instance alA:dG Tryz.prog 314 0 0:=⟨⟨_,_,0,Tryz.underlying314,rfl,rfl,by kernel_rfl⟩⟩
instance alB:dG Tryz.prog 314 1 1:=⟨⟨_,_,0,Tryz.underlying314,rfl,rfl,by kernel_rfl⟩⟩
instance alC:vp Tryz.prog 317 20 1:=⟨⟨_,Tryz.underlying317,by kernel_rfl⟩⟩
instance alD:fE Tryz.prog 319 0:=⟨⟨_,Tryz.underlying319,rfl⟩,by kernel_rfl⟩
instance alE:fE Tryz.prog 324 4:=⟨⟨_,Tryz.underlying324,rfl⟩,by kernel_rfl⟩
instance alF:dG Tryz.prog 324 0 0:=⟨⟨_,_,0,Tryz.underlying324,rfl,rfl,by kernel_rfl⟩⟩
instance alG:dG Tryz.prog 324 1 1:=⟨⟨_,_,0,Tryz.underlying324,rfl,rfl,by kernel_rfl⟩⟩
instance alH:dG Tryz.prog 324 2 2:=⟨⟨_,_,0,Tryz.underlying324,rfl,rfl,by kernel_rfl⟩⟩
instance alI:dG Tryz.prog 324 3 3:=⟨⟨_,_,0,Tryz.underlying324,rfl,rfl,by kernel_rfl⟩⟩
instance alJ:fw Tryz.prog 366 60 1:=⟨Tryz.underlying366,by kernel_rfl⟩
instance alK:fw Tryz.prog 396 178 1:=⟨Tryz.underlying396,by kernel_rfl⟩
instance alL:fw Tryz.prog 399 402 4:=⟨Tryz.underlying399,by kernel_rfl⟩
instance alN:fE Tryz.prog 402 4:=⟨⟨_,Tryz.underlying402,rfl⟩,by kernel_rfl⟩
instance alO:dG Tryz.prog 402 0 0:=⟨⟨_,_,0,Tryz.underlying402,rfl,rfl,by kernel_rfl⟩⟩
instance alP:dG Tryz.prog 402 1 1:=⟨⟨_,_,0,Tryz.underlying402,rfl,rfl,by kernel_rfl⟩⟩
instance alQ:dG Tryz.prog 402 2 2:=⟨⟨_,_,0,Tryz.underlying402,rfl,rfl,by kernel_rfl⟩⟩
instance alR:dG Tryz.prog 402 3 3:=⟨⟨_,_,0,Tryz.underlying402,rfl,rfl,by kernel_rfl⟩⟩
instance alS:fE Tryz.prog 432 5:=⟨⟨_,Tryz.underlying432,rfl⟩,by kernel_rfl⟩
instance alT:dG Tryz.prog 432 0 0:=⟨⟨_,_,3,Tryz.underlying432,rfl,rfl,by kernel_rfl⟩⟩
instance alU:dG Tryz.prog 432 1 4:=⟨⟨_,_,0,Tryz.underlying432,rfl,rfl,by kernel_rfl⟩⟩
instance alV:fW Tryz.prog 433:=⟨⟨_,Tryz.underlying433,rfl⟩,by kernel_rfl⟩
instance alW:fw Tryz.prog 443 433 1:=⟨Tryz.underlying443,by kernel_rfl⟩
instance alX:aI Tryz.prog 12:=⟨⟨Tryz.f12,Tryz.func12,by kernel_rfl,by kernel_rfl⟩⟩
instance alY:aI Tryz.prog 13:=⟨⟨Tryz.f13,Tryz.func13,by kernel_rfl,by kernel_rfl⟩⟩
instance alZ:aI Tryz.prog 15:=⟨⟨Tryz.f15,Tryz.func15,by kernel_rfl,by kernel_rfl⟩⟩
instance al0:aI Tryz.prog 19:=⟨⟨Tryz.f19,Tryz.func19,by kernel_rfl,by kernel_rfl⟩⟩
instance al1:aI Tryz.prog 22:=⟨⟨Tryz.f22,Tryz.func22,by kernel_rfl,by kernel_rfl⟩⟩
instance al2:aI Tryz.prog 24:=⟨⟨Tryz.f24,Tryz.func24,by kernel_rfl,by kernel_rfl⟩⟩
instance al3:aI Tryz.prog 25:=⟨⟨Tryz.f25,Tryz.func25,by kernel_rfl,by kernel_rfl⟩⟩
instance al4:aI Tryz.prog 26:=⟨⟨Tryz.f26,Tryz.func26,by kernel_rfl,by kernel_rfl⟩⟩
instance al5:aI Tryz.prog 27:=⟨⟨Tryz.f27,Tryz.func27,by kernel_rfl,by kernel_rfl⟩⟩
instance al6:aI Tryz.prog 28:=⟨⟨Tryz.f28,Tryz.func28,by kernel_rfl,by kernel_rfl⟩⟩
instance al7:aI Tryz.prog 37:=⟨⟨Tryz.f37,Tryz.func37,by kernel_rfl,by kernel_rfl⟩⟩
instance al8:aI Tryz.prog 38:=⟨⟨Tryz.f38,Tryz.func38,by kernel_rfl,by kernel_rfl⟩⟩
instance al9:aI Tryz.prog 39:=⟨⟨Tryz.f39,Tryz.func39,by kernel_rfl,by kernel_rfl⟩⟩
instance ama:aI Tryz.prog 42:=⟨⟨Tryz.f42,Tryz.func42,by kernel_rfl,by kernel_rfl⟩⟩
instance amb:aI Tryz.prog 43:=⟨⟨Tryz.f43,Tryz.func43,by kernel_rfl,by kernel_rfl⟩⟩
instance amc:aI Tryz.prog 50:=⟨⟨Tryz.f50,Tryz.func50,by kernel_rfl,by kernel_rfl⟩⟩
instance amd:aI Tryz.prog 51:=⟨⟨Tryz.f51,Tryz.func51,by kernel_rfl,by kernel_rfl⟩⟩
instance ame:aI Tryz.prog 53:=⟨⟨Tryz.f53,Tryz.func53,by kernel_rfl,by kernel_rfl⟩⟩
instance amf:aI Tryz.prog 55:=⟨⟨Tryz.f55,Tryz.func55,by kernel_rfl,by kernel_rfl⟩⟩
instance amg:aI Tryz.prog 56:=⟨⟨Tryz.f56,Tryz.func56,by kernel_rfl,by kernel_rfl⟩⟩
instance amh:aI Tryz.prog 57:=⟨⟨Tryz.f57,Tryz.func57,by kernel_rfl,by kernel_rfl⟩⟩
instance ami:aI Tryz.prog 58:=⟨⟨Tryz.f58,Tryz.func58,by kernel_rfl,by kernel_rfl⟩⟩
instance amj:aI Tryz.prog 62:=⟨⟨Tryz.f62,Tryz.func62,by kernel_rfl,by kernel_rfl⟩⟩
instance amk:aI Tryz.prog 66:=⟨⟨Tryz.f66,Tryz.func66,by kernel_rfl,by kernel_rfl⟩⟩
instance aml:aI Tryz.prog 68:=⟨⟨Tryz.f68,Tryz.func68,by kernel_rfl,by kernel_rfl⟩⟩
instance amm:aI Tryz.prog 69:=⟨⟨Tryz.f69,Tryz.func69,by kernel_rfl,by kernel_rfl⟩⟩
instance amn:aI Tryz.prog 70:=⟨⟨Tryz.f70,Tryz.func70,by kernel_rfl,by kernel_rfl⟩⟩
instance amo:aI Tryz.prog 71:=⟨⟨Tryz.f71,Tryz.func71,by kernel_rfl,by kernel_rfl⟩⟩
instance amp:aI Tryz.prog 74:=⟨⟨Tryz.f74,Tryz.func74,by kernel_rfl,by kernel_rfl⟩⟩
instance amq:aI Tryz.prog 75:=⟨⟨Tryz.f75,Tryz.func75,by kernel_rfl,by kernel_rfl⟩⟩
instance amr:aI Tryz.prog 76:=⟨⟨Tryz.f76,Tryz.func76,by kernel_rfl,by kernel_rfl⟩⟩
instance ams:aI Tryz.prog 77:=⟨⟨Tryz.f77,Tryz.func77,by kernel_rfl,by kernel_rfl⟩⟩
instance amt:aI Tryz.prog 78:=⟨⟨Tryz.f78,Tryz.func78,by kernel_rfl,by kernel_rfl⟩⟩
instance amu:aI Tryz.prog 93:=⟨⟨Tryz.f93,Tryz.func93,by kernel_rfl,by kernel_rfl⟩⟩
instance amv:aI Tryz.prog 94:=⟨⟨Tryz.f94,Tryz.func94,by kernel_rfl,by kernel_rfl⟩⟩
instance amw:aI Tryz.prog 95:=⟨⟨Tryz.f95,Tryz.func95,by kernel_rfl,by kernel_rfl⟩⟩
instance amx:aI Tryz.prog 96:=⟨⟨Tryz.f96,Tryz.func96,by kernel_rfl,by kernel_rfl⟩⟩
instance amy:aI Tryz.prog 97:=⟨⟨Tryz.f97,Tryz.func97,by kernel_rfl,by kernel_rfl⟩⟩
instance amz:aI Tryz.prog 98:=⟨⟨Tryz.f98,Tryz.func98,by kernel_rfl,by kernel_rfl⟩⟩
instance amA:aI Tryz.prog 99:=⟨⟨Tryz.f99,Tryz.func99,by kernel_rfl,by kernel_rfl⟩⟩
instance amB:aI Tryz.prog 100:=⟨⟨Tryz.f100,Tryz.func100,by kernel_rfl,by kernel_rfl⟩⟩
instance amC:aI Tryz.prog 101:=⟨⟨Tryz.f101,Tryz.func101,by kernel_rfl,by kernel_rfl⟩⟩
instance amD:aI Tryz.prog 102:=⟨⟨Tryz.f102,Tryz.func102,by kernel_rfl,by kernel_rfl⟩⟩
instance amE:aI Tryz.prog 103:=⟨⟨Tryz.f103,Tryz.func103,by kernel_rfl,by kernel_rfl⟩⟩
instance amF:aI Tryz.prog 105:=⟨⟨Tryz.f105,Tryz.func105,by kernel_rfl,by kernel_rfl⟩⟩
instance amG:aI Tryz.prog 106:=⟨⟨Tryz.f106,Tryz.func106,by kernel_rfl,by kernel_rfl⟩⟩
instance amH:aI Tryz.prog 107:=⟨⟨Tryz.f107,Tryz.func107,by kernel_rfl,by kernel_rfl⟩⟩
instance amI:aI Tryz.prog 108:=⟨⟨Tryz.f108,Tryz.func108,by kernel_rfl,by kernel_rfl⟩⟩
instance amJ:aI Tryz.prog 110:=⟨⟨Tryz.f110,Tryz.func110,by kernel_rfl,by kernel_rfl⟩⟩
instance amK:aI Tryz.prog 111:=⟨⟨Tryz.f111,Tryz.func111,by kernel_rfl,by kernel_rfl⟩⟩
instance amL:aI Tryz.prog 112:=⟨⟨Tryz.f112,Tryz.func112,by kernel_rfl,by kernel_rfl⟩⟩
instance amM:aI Tryz.prog 113:=⟨⟨Tryz.f113,Tryz.func113,by kernel_rfl,by kernel_rfl⟩⟩
instance amN:aI Tryz.prog 115:=⟨⟨Tryz.f115,Tryz.func115,by kernel_rfl,by kernel_rfl⟩⟩
instance amO:aI Tryz.prog 116:=⟨⟨Tryz.f116,Tryz.func116,by kernel_rfl,by kernel_rfl⟩⟩
instance amP:aI Tryz.prog 117:=⟨⟨Tryz.f117,Tryz.func117,by kernel_rfl,by kernel_rfl⟩⟩
instance amQ:aI Tryz.prog 121:=⟨⟨Tryz.f121,Tryz.func121,by kernel_rfl,by kernel_rfl⟩⟩
instance amR:aI Tryz.prog 122:=⟨⟨Tryz.f122,Tryz.func122,by kernel_rfl,by kernel_rfl⟩⟩
instance amS:aI Tryz.prog 123:=⟨⟨Tryz.f123,Tryz.func123,by kernel_rfl,by kernel_rfl⟩⟩
instance amT:aI Tryz.prog 124:=⟨⟨Tryz.f124,Tryz.func124,by kernel_rfl,by kernel_rfl⟩⟩
instance amU:aI Tryz.prog 125:=⟨⟨Tryz.f125,Tryz.func125,by kernel_rfl,by kernel_rfl⟩⟩
instance amV:aI Tryz.prog 126:=⟨⟨Tryz.f126,Tryz.func126,by kernel_rfl,by kernel_rfl⟩⟩
instance amW:aI Tryz.prog 129:=⟨⟨Tryz.f129,Tryz.func129,by kernel_rfl,by kernel_rfl⟩⟩
instance amX:aI Tryz.prog 130:=⟨⟨Tryz.f130,Tryz.func130,by kernel_rfl,by kernel_rfl⟩⟩
instance amY:aI Tryz.prog 138:=⟨⟨Tryz.f138,Tryz.func138,by kernel_rfl,by kernel_rfl⟩⟩
instance amZ:aI Tryz.prog 139:=⟨⟨Tryz.f139,Tryz.func139,by kernel_rfl,by kernel_rfl⟩⟩
instance am0:aI Tryz.prog 140:=⟨⟨Tryz.f140,Tryz.func140,by kernel_rfl,by kernel_rfl⟩⟩
instance am1:aI Tryz.prog 142:=⟨⟨Tryz.f142,Tryz.func142,by kernel_rfl,by kernel_rfl⟩⟩
instance am2:aI Tryz.prog 143:=⟨⟨Tryz.f143,Tryz.func143,by kernel_rfl,by kernel_rfl⟩⟩
instance am3:aI Tryz.prog 144:=⟨⟨Tryz.f144,Tryz.func144,by kernel_rfl,by kernel_rfl⟩⟩
instance am4:aI Tryz.prog 145:=⟨⟨Tryz.f145,Tryz.func145,by kernel_rfl,by kernel_rfl⟩⟩
instance am5:aI Tryz.prog 149:=⟨⟨Tryz.f149,Tryz.func149,by kernel_rfl,by kernel_rfl⟩⟩
instance am6:aI Tryz.prog 162:=⟨⟨Tryz.f162,Tryz.func162,by kernel_rfl,by kernel_rfl⟩⟩
instance am7:aI Tryz.prog 163:=⟨⟨Tryz.f163,Tryz.func163,by kernel_rfl,by kernel_rfl⟩⟩
instance am8:aI Tryz.prog 164:=⟨⟨Tryz.f164,Tryz.func164,by kernel_rfl,by kernel_rfl⟩⟩
instance am9:aI Tryz.prog 165:=⟨⟨Tryz.f165,Tryz.func165,by kernel_rfl,by kernel_rfl⟩⟩
instance ana:aI Tryz.prog 166:=⟨⟨Tryz.f166,Tryz.func166,by kernel_rfl,by kernel_rfl⟩⟩
instance anb:aI Tryz.prog 167:=⟨⟨Tryz.f167,Tryz.func167,by kernel_rfl,by kernel_rfl⟩⟩
instance ane:aI Tryz.prog 168:=⟨⟨Tryz.f168,Tryz.func168,by kernel_rfl,by kernel_rfl⟩⟩
instance anf:aI Tryz.prog 169:=⟨⟨Tryz.f169,Tryz.func169,by kernel_rfl,by kernel_rfl⟩⟩
instance ang:aI Tryz.prog 170:=⟨⟨Tryz.f170,Tryz.func170,by kernel_rfl,by kernel_rfl⟩⟩
instance anh:aI Tryz.prog 171:=⟨⟨Tryz.f171,Tryz.func171,by kernel_rfl,by kernel_rfl⟩⟩
instance ani:aI Tryz.prog 172:=⟨⟨Tryz.f172,Tryz.func172,by kernel_rfl,by kernel_rfl⟩⟩
instance anj:aI Tryz.prog 173:=⟨⟨Tryz.f173,Tryz.func173,by kernel_rfl,by kernel_rfl⟩⟩
instance ank:aI Tryz.prog 174:=⟨⟨Tryz.f174,Tryz.func174,by kernel_rfl,by kernel_rfl⟩⟩
instance anl:aI Tryz.prog 175:=⟨⟨Tryz.f175,Tryz.func175,by kernel_rfl,by kernel_rfl⟩⟩
instance anm:aI Tryz.prog 176:=⟨⟨Tryz.f176,Tryz.func176,by kernel_rfl,by kernel_rfl⟩⟩
instance ann:aI Tryz.prog 177:=⟨⟨Tryz.f177,Tryz.func177,by kernel_rfl,by kernel_rfl⟩⟩
instance ano:aI Tryz.prog 179:=⟨⟨Tryz.f179,Tryz.func179,by kernel_rfl,by kernel_rfl⟩⟩
instance anp:aI Tryz.prog 180:=⟨⟨Tryz.f180,Tryz.func180,by kernel_rfl,by kernel_rfl⟩⟩
instance anq:aI Tryz.prog 181:=⟨⟨Tryz.f181,Tryz.func181,by kernel_rfl,by kernel_rfl⟩⟩
instance anr:aI Tryz.prog 182:=⟨⟨Tryz.f182,Tryz.func182,by kernel_rfl,by kernel_rfl⟩⟩
instance ans:aI Tryz.prog 185:=⟨⟨Tryz.f185,Tryz.func185,by kernel_rfl,by kernel_rfl⟩⟩
instance ant:aI Tryz.prog 196:=⟨⟨Tryz.f196,Tryz.func196,by kernel_rfl,by kernel_rfl⟩⟩
instance anu:aI Tryz.prog 197:=⟨⟨Tryz.f197,Tryz.func197,by kernel_rfl,by kernel_rfl⟩⟩
instance anv:aI Tryz.prog 198:=⟨⟨Tryz.f198,Tryz.func198,by kernel_rfl,by kernel_rfl⟩⟩
instance anw:aI Tryz.prog 202:=⟨⟨Tryz.f202,Tryz.func202,by kernel_rfl,by kernel_rfl⟩⟩
instance anx:aI Tryz.prog 203:=⟨⟨Tryz.f203,Tryz.func203,by kernel_rfl,by kernel_rfl⟩⟩
instance anz:aI Tryz.prog 208:=⟨⟨Tryz.f208,Tryz.func208,by kernel_rfl,by kernel_rfl⟩⟩
instance anA:aI Tryz.prog 209:=⟨⟨Tryz.f209,Tryz.func209,by kernel_rfl,by kernel_rfl⟩⟩
instance anB:aI Tryz.prog 215:=⟨⟨Tryz.f215,Tryz.func215,by kernel_rfl,by kernel_rfl⟩⟩
instance anC:aI Tryz.prog 216:=⟨⟨Tryz.f216,Tryz.func216,by kernel_rfl,by kernel_rfl⟩⟩
instance anD:aI Tryz.prog 217:=⟨⟨Tryz.f217,Tryz.func217,by kernel_rfl,by kernel_rfl⟩⟩
instance anE:aI Tryz.prog 218:=⟨⟨Tryz.f218,Tryz.func218,by kernel_rfl,by kernel_rfl⟩⟩
instance anF:aI Tryz.prog 219:=⟨⟨Tryz.f219,Tryz.func219,by kernel_rfl,by kernel_rfl⟩⟩
instance anG:aI Tryz.prog 220:=⟨⟨Tryz.f220,Tryz.func220,by kernel_rfl,by kernel_rfl⟩⟩
instance anH:aI Tryz.prog 221:=⟨⟨Tryz.f221,Tryz.func221,by kernel_rfl,by kernel_rfl⟩⟩
instance anI:aI Tryz.prog 222:=⟨⟨Tryz.f222,Tryz.func222,by kernel_rfl,by kernel_rfl⟩⟩
instance anJ:aI Tryz.prog 223:=⟨⟨Tryz.f223,Tryz.func223,by kernel_rfl,by kernel_rfl⟩⟩
instance anK:aI Tryz.prog 224:=⟨⟨Tryz.f224,Tryz.func224,by kernel_rfl,by kernel_rfl⟩⟩
instance anL:aI Tryz.prog 227:=⟨⟨Tryz.f227,Tryz.func227,by kernel_rfl,by kernel_rfl⟩⟩
instance anM:aI Tryz.prog 228:=⟨⟨Tryz.f228,Tryz.func228,by kernel_rfl,by kernel_rfl⟩⟩
instance anN:aI Tryz.prog 229:=⟨⟨Tryz.f229,Tryz.func229,by kernel_rfl,by kernel_rfl⟩⟩
instance anO:aI Tryz.prog 230:=⟨⟨Tryz.f230,Tryz.func230,by kernel_rfl,by kernel_rfl⟩⟩
instance anP:aI Tryz.prog 237:=⟨⟨Tryz.f237,Tryz.func237,by kernel_rfl,by kernel_rfl⟩⟩
instance anQ:aI Tryz.prog 239:=⟨⟨Tryz.f239,Tryz.func239,by kernel_rfl,by kernel_rfl⟩⟩
instance anR:aI Tryz.prog 245:=⟨⟨Tryz.f245,Tryz.func245,by kernel_rfl,by kernel_rfl⟩⟩
instance anS:aI Tryz.prog 251:=⟨⟨Tryz.f251,Tryz.func251,by kernel_rfl,by kernel_rfl⟩⟩
instance anT:aI Tryz.prog 252:=⟨⟨Tryz.f252,Tryz.func252,by kernel_rfl,by kernel_rfl⟩⟩
instance anU:aI Tryz.prog 253:=⟨⟨Tryz.f253,Tryz.func253,by kernel_rfl,by kernel_rfl⟩⟩
instance anV:aI Tryz.prog 254:=⟨⟨Tryz.f254,Tryz.func254,by kernel_rfl,by kernel_rfl⟩⟩
instance anW:aI Tryz.prog 255:=⟨⟨Tryz.f255,Tryz.func255,by kernel_rfl,by kernel_rfl⟩⟩
instance anX:aI Tryz.prog 256:=⟨⟨Tryz.f256,Tryz.func256,by kernel_rfl,by kernel_rfl⟩⟩
instance anY:aI Tryz.prog 257:=⟨⟨Tryz.f257,Tryz.func257,by kernel_rfl,by kernel_rfl⟩⟩
instance anZ:aI Tryz.prog 258:=⟨⟨Tryz.f258,Tryz.func258,by kernel_rfl,by kernel_rfl⟩⟩
instance an0:aI Tryz.prog 259:=⟨⟨Tryz.f259,Tryz.func259,by kernel_rfl,by kernel_rfl⟩⟩
instance an1:aI Tryz.prog 260:=⟨⟨Tryz.f260,Tryz.func260,by kernel_rfl,by kernel_rfl⟩⟩
instance an2:aI Tryz.prog 261:=⟨⟨Tryz.f261,Tryz.func261,by kernel_rfl,by kernel_rfl⟩⟩
instance an3:aI Tryz.prog 262:=⟨⟨Tryz.f262,Tryz.func262,by kernel_rfl,by kernel_rfl⟩⟩
instance an4:aI Tryz.prog 263:=⟨⟨Tryz.f263,Tryz.func263,by kernel_rfl,by kernel_rfl⟩⟩
instance an5:aI Tryz.prog 264:=⟨⟨Tryz.f264,Tryz.func264,by kernel_rfl,by kernel_rfl⟩⟩
instance an6:aI Tryz.prog 267:=⟨⟨Tryz.f267,Tryz.func267,by kernel_rfl,by kernel_rfl⟩⟩
instance an7:aI Tryz.prog 268:=⟨⟨Tryz.f268,Tryz.func268,by kernel_rfl,by kernel_rfl⟩⟩
instance an8:aI Tryz.prog 269:=⟨⟨Tryz.f269,Tryz.func269,by kernel_rfl,by kernel_rfl⟩⟩
instance an9:aI Tryz.prog 297:=⟨⟨Tryz.f297,Tryz.func297,by kernel_rfl,by kernel_rfl⟩⟩
instance aoa:aI Tryz.prog 298:=⟨⟨Tryz.f298,Tryz.func298,by kernel_rfl,by kernel_rfl⟩⟩
instance aob:aI Tryz.prog 299:=⟨⟨Tryz.f299,Tryz.func299,by kernel_rfl,by kernel_rfl⟩⟩
instance aoc:aI Tryz.prog 300:=⟨⟨Tryz.f300,Tryz.func300,by kernel_rfl,by kernel_rfl⟩⟩
instance aod:aI Tryz.prog 301:=⟨⟨Tryz.f301,Tryz.func301,by kernel_rfl,by kernel_rfl⟩⟩
instance aoe:aI Tryz.prog 302:=⟨⟨Tryz.f302,Tryz.func302,by kernel_rfl,by kernel_rfl⟩⟩
instance aof:aI Tryz.prog 303:=⟨⟨Tryz.f303,Tryz.func303,by kernel_rfl,by kernel_rfl⟩⟩
instance aog:aI Tryz.prog 304:=⟨⟨Tryz.f304,Tryz.func304,by kernel_rfl,by kernel_rfl⟩⟩
instance aoh:aI Tryz.prog 305:=⟨⟨Tryz.f305,Tryz.func305,by kernel_rfl,by kernel_rfl⟩⟩
instance aoi:aI Tryz.prog 306:=⟨⟨Tryz.f306,Tryz.func306,by kernel_rfl,by kernel_rfl⟩⟩
instance aoj:aI Tryz.prog 307:=⟨⟨Tryz.f307,Tryz.func307,by kernel_rfl,by kernel_rfl⟩⟩
instance aok:aI Tryz.prog 308:=⟨⟨Tryz.f308,Tryz.func308,by kernel_rfl,by kernel_rfl⟩⟩
instance aol:aI Tryz.prog 309:=⟨⟨Tryz.f309,Tryz.func309,by kernel_rfl,by kernel_rfl⟩⟩
instance aom:aI Tryz.prog 310:=⟨⟨Tryz.f310,Tryz.func310,by kernel_rfl,by kernel_rfl⟩⟩
instance aon:aI Tryz.prog 311:=⟨⟨Tryz.f311,Tryz.func311,by kernel_rfl,by kernel_rfl⟩⟩
instance aoo:aI Tryz.prog 312:=⟨⟨Tryz.f312,Tryz.func312,by kernel_rfl,by kernel_rfl⟩⟩
instance aop:aI Tryz.prog 313:=⟨⟨Tryz.f313,Tryz.func313,by kernel_rfl,by kernel_rfl⟩⟩
instance aoq:aI Tryz.prog 314:=⟨⟨Tryz.f314,Tryz.func314,by kernel_rfl,by kernel_rfl⟩⟩
instance aor:aI Tryz.prog 315:=⟨⟨Tryz.f315,Tryz.func315,by kernel_rfl,by kernel_rfl⟩⟩
instance aos:aI Tryz.prog 326:=⟨⟨Tryz.f326,Tryz.func326,by kernel_rfl,by kernel_rfl⟩⟩
instance aot:aI Tryz.prog 327:=⟨⟨Tryz.f327,Tryz.func327,by kernel_rfl,by kernel_rfl⟩⟩
instance aou:aI Tryz.prog 328:=⟨⟨Tryz.f328,Tryz.func328,by kernel_rfl,by kernel_rfl⟩⟩
instance aov:aI Tryz.prog 329:=⟨⟨Tryz.f329,Tryz.func329,by kernel_rfl,by kernel_rfl⟩⟩
instance aow:aI Tryz.prog 330:=⟨⟨Tryz.f330,Tryz.func330,by kernel_rfl,by kernel_rfl⟩⟩
instance aox:aI Tryz.prog 331:=⟨⟨Tryz.f331,Tryz.func331,by kernel_rfl,by kernel_rfl⟩⟩
instance aoy:aI Tryz.prog 332:=⟨⟨Tryz.f332,Tryz.func332,by kernel_rfl,by kernel_rfl⟩⟩
instance aoz:aI Tryz.prog 333:=⟨⟨Tryz.f333,Tryz.func333,by kernel_rfl,by kernel_rfl⟩⟩
instance aoA:aI Tryz.prog 334:=⟨⟨Tryz.f334,Tryz.func334,by kernel_rfl,by kernel_rfl⟩⟩
instance aoB:aI Tryz.prog 335:=⟨⟨Tryz.f335,Tryz.func335,by kernel_rfl,by kernel_rfl⟩⟩
instance aoC:aI Tryz.prog 336:=⟨⟨Tryz.f336,Tryz.func336,by kernel_rfl,by kernel_rfl⟩⟩
instance aoD:aI Tryz.prog 340:=⟨⟨Tryz.f340,Tryz.func340,by kernel_rfl,by kernel_rfl⟩⟩
instance aoE:aI Tryz.prog 341:=⟨⟨Tryz.f341,Tryz.func341,by kernel_rfl,by kernel_rfl⟩⟩
instance aoF:aI Tryz.prog 342:=⟨⟨Tryz.f342,Tryz.func342,by kernel_rfl,by kernel_rfl⟩⟩
instance aoG:aI Tryz.prog 343:=⟨⟨Tryz.f343,Tryz.func343,by kernel_rfl,by kernel_rfl⟩⟩
instance aoH:aI Tryz.prog 344:=⟨⟨Tryz.f344,Tryz.func344,by kernel_rfl,by kernel_rfl⟩⟩
instance aoI:aI Tryz.prog 345:=⟨⟨Tryz.f345,Tryz.func345,by kernel_rfl,by kernel_rfl⟩⟩
instance aoJ:aI Tryz.prog 346:=⟨⟨Tryz.f346,Tryz.func346,by kernel_rfl,by kernel_rfl⟩⟩
instance aoK:aI Tryz.prog 347:=⟨⟨Tryz.f347,Tryz.func347,by kernel_rfl,by kernel_rfl⟩⟩
instance aoL:aI Tryz.prog 348:=⟨⟨Tryz.f348,Tryz.func348,by kernel_rfl,by kernel_rfl⟩⟩
instance aoM:aI Tryz.prog 349:=⟨⟨Tryz.f349,Tryz.func349,by kernel_rfl,by kernel_rfl⟩⟩
instance aoN:aI Tryz.prog 350:=⟨⟨Tryz.f350,Tryz.func350,by kernel_rfl,by kernel_rfl⟩⟩
end Go.Proofs.YtkggjjnhnjjokaaGreatDoor
namespace Go.Proofs
open Go.Shelf
def Tryz.Zv:Go.Shelf.Ren:=⟨fun|137=>245|217=>270|266=>318|n=>n,fun|9=>9|5=>5|3=>3|n=>n,fun|n=>n⟩
theorem Tryz.Zw:Go.Proofs.Lays.n137 Tryz.prog Tryz.Zv:={
 mixed:=by kernel_rfl
 f137:=Tryz.func245.trans (congrArg some (by kernel_rfl))
 f217:=Tryz.func270.trans (congrArg some (by kernel_rfl))
 f266:=Tryz.func318.trans (congrArg some (by kernel_rfl))
 t3:=Tryz.underlying3
 a3:=Tryz.isAgg3
 z3:=Tryz.sizeOf3
 v3:=Tryz.zeroValue3
 t5:=Tryz.underlying5
 a5:=Tryz.isAgg5
 z5:=Tryz.sizeOf5
 v5:=Tryz.zeroValue5
 t9:=Tryz.underlying9
 a9:=Tryz.isAgg9
 z9:=Tryz.sizeOf9
 v9:=Tryz.zeroValue9}
open Go.RowKit in
theorem Tryz.strings_IndexByte(s:ByteArray)(c:Int)(w:World):
  Calls Tryz.prog 245 #[.string s, .int .u8 c] w fun e w'=>e= .returned (.int .i64 (Lib.indexByte s.data.toList c.toNat.toUInt8))/\w'=w:=Any.strings_IndexByte Tryz.Zw s c w
def Tryz.aoO:Go.Shelf.Ren:=⟨fun|219=>231|217=>270|225=>271|224=>272|267=>273|266=>318|314=>319|n=>n,fun|9=>9|3=>3|4=>4|5=>5|46=>253|146=>411|51=>26|n=>n,fun|1=>0|n=>n⟩
def Tryz.Zx:Go.Shelf.Ren:=⟨fun|145=>115|220=>188|219=>231|217=>270|225=>271|224=>272|267=>273|266=>318|314=>319|n=>n,fun|9=>9|4=>4|59=>205|3=>3|5=>5|46=>253|146=>411|51=>26|n=>n,fun|1=>0|n=>n⟩
theorem Tryz.Zy:Go.Proofs.Lays.n145 Tryz.prog Tryz.Zx:={
 mixed:=by kernel_rfl
 f145:=Tryz.func115.trans (congrArg some (by kernel_rfl))
 f217:=Tryz.func270.trans (congrArg some (by kernel_rfl))
 f219:=Tryz.func231.trans (congrArg some (by kernel_rfl))
 f220:=Tryz.func188.trans (congrArg some (by kernel_rfl))
 f224:=Tryz.func272.trans (congrArg some (by kernel_rfl))
 f225:=Tryz.func271.trans (congrArg some (by kernel_rfl))
 f266:=Tryz.func318.trans (congrArg some (by kernel_rfl))
 f267:=Tryz.func273.trans (congrArg some (by kernel_rfl))
 f314:=Tryz.func319.trans (congrArg some (by kernel_rfl))
 t3:=Tryz.underlying3
 a3:=Tryz.isAgg3
 z3:=Tryz.sizeOf3
 v3:=Tryz.zeroValue3
 t4:=Tryz.underlying4
 a4:=Tryz.isAgg4
 z4:=Tryz.sizeOf4
 v4:=Tryz.zeroValue4
 t5:=Tryz.underlying5
 a5:=Tryz.isAgg5
 z5:=Tryz.sizeOf5
 v5:=Tryz.zeroValue5
 t9:=Tryz.underlying9
 a9:=Tryz.isAgg9
 z9:=Tryz.sizeOf9
 v9:=Tryz.zeroValue9
 t46:=Tryz.underlying253
 a46:=Tryz.isAgg253
 z46:=Tryz.sizeOf253
 v46:=Tryz.zeroValue253
 t51:=Tryz.underlying26
 a51:=Tryz.isAgg26
 z51:=Tryz.sizeOf26
 v51:=Tryz.zeroValue26
 t59:=Tryz.underlying205
 a59:=Tryz.isAgg205
 z59:=Tryz.sizeOf205
 v59:=Tryz.zeroValue205
 t146:=Tryz.underlying411
 a146:=Tryz.isAgg411
 z146:=Tryz.sizeOf411
 v146:=Tryz.zeroValue411
 g1:=by kernel_rfl}
open Go.RowKit Go.Lib in
theorem Tryz.strings_Cut(s sep:ByteArray)(m:Int)(w:World)(hs:s.size<4294967281)(hm:w.cell? ⟨0,0,none⟩=some (.int .i64 m)):
  Calls Tryz.prog 115 #[.string s, .string sep] w fun e w'=>e= .returned (.tuple #[.string ⟨(Lib.cut s.data.toList sep.data.toList).1.toArray⟩, .string ⟨(Lib.cut s.data.toList sep.data.toList).2.1.toArray⟩, .bool (Lib.cut s.data.toList sep.data.toList).2.2])/\ ∃n,w'=w.drewN n:=Any.strings_Cut Tryz.Zy s sep m w hs hm
def Tryz.aoP:Go.Shelf.Ren:=⟨fun|221=>146|268=>204|138=>205|143=>206|195=>240|197=>241|218=>242|219=>231|260=>286|217=>270|225=>271|224=>272|267=>273|266=>318|314=>319|n=>n,fun|9=>9|3=>3|31=>155|4=>4|0=>0|105=>344|21=>21|5=>5|46=>253|119=>413|139=>416|138=>415|146=>411|51=>26|n=>n,fun|1=>0|3=>2|4=>3|n=>n⟩
def Tryz.Zz:Go.Shelf.Ren:=⟨fun|146=>78|221=>146|268=>204|138=>205|143=>206|195=>240|197=>241|218=>242|219=>231|260=>286|217=>270|225=>271|224=>272|267=>273|266=>318|314=>319|n=>n,fun|9=>9|31=>155|3=>3|4=>4|0=>0|105=>344|21=>21|5=>5|46=>253|119=>413|139=>416|138=>415|146=>411|51=>26|n=>n,fun|1=>0|3=>2|4=>3|n=>n⟩
theorem Tryz.ZA:Go.Proofs.Lays.n146 Tryz.prog Tryz.Zz:={
 mixed:=by kernel_rfl
 f138:=Tryz.func205.trans (congrArg some (by kernel_rfl))
 f143:=Tryz.func206.trans (congrArg some (by kernel_rfl))
 f146:=Tryz.func78.trans (congrArg some (by kernel_rfl))
 f195:=Tryz.func240.trans (congrArg some (by kernel_rfl))
 f197:=Tryz.func241.trans (congrArg some (by kernel_rfl))
 f217:=Tryz.func270.trans (congrArg some (by kernel_rfl))
 f218:=Tryz.func242.trans (congrArg some (by kernel_rfl))
 f219:=Tryz.func231.trans (congrArg some (by kernel_rfl))
 f221:=Tryz.func146.trans (congrArg some (by kernel_rfl))
 f224:=Tryz.func272.trans (congrArg some (by kernel_rfl))
 f225:=Tryz.func271.trans (congrArg some (by kernel_rfl))
 f260:=Tryz.func286.trans (congrArg some (by kernel_rfl))
 f266:=Tryz.func318.trans (congrArg some (by kernel_rfl))
 f267:=Tryz.func273.trans (congrArg some (by kernel_rfl))
 f268:=Tryz.func204.trans (congrArg some (by kernel_rfl))
 f314:=Tryz.func319.trans (congrArg some (by kernel_rfl))
 t0:=Tryz.underlying0
 a0:=Tryz.isAgg0
 z0:=Tryz.sizeOf0
 v0:=Tryz.zeroValue0
 t3:=Tryz.underlying3
 a3:=Tryz.isAgg3
 z3:=Tryz.sizeOf3
 v3:=Tryz.zeroValue3
 t4:=Tryz.underlying4
 a4:=Tryz.isAgg4
 z4:=Tryz.sizeOf4
 v4:=Tryz.zeroValue4
 t5:=Tryz.underlying5
 a5:=Tryz.isAgg5
 z5:=Tryz.sizeOf5
 v5:=Tryz.zeroValue5
 t9:=Tryz.underlying9
 a9:=Tryz.isAgg9
 z9:=Tryz.sizeOf9
 v9:=Tryz.zeroValue9
 t21:=Tryz.underlying21
 a21:=Tryz.isAgg21
 z21:=Tryz.sizeOf21
 v21:=Tryz.zeroValue21
 t31:=Tryz.underlying155
 a31:=Tryz.isAgg155
 z31:=Tryz.sizeOf155
 v31:=Tryz.zeroValue155
 t46:=Tryz.underlying253
 a46:=Tryz.isAgg253
 z46:=Tryz.sizeOf253
 v46:=Tryz.zeroValue253
 t51:=Tryz.underlying26
 a51:=Tryz.isAgg26
 z51:=Tryz.sizeOf26
 v51:=Tryz.zeroValue26
 t105:=Tryz.underlying344
 a105:=Tryz.isAgg344
 z105:=Tryz.sizeOf344
 v105:=Tryz.zeroValue344
 t119:=Tryz.underlying413
 a119:=Tryz.isAgg413
 z119:=Tryz.sizeOf413
 t138:=Tryz.underlying415
 a138:=Tryz.isAgg415
 z138:=Tryz.sizeOf415
 v138:=Tryz.zeroValue415
 t139:=Tryz.underlying416
 a139:=Tryz.isAgg416
 z139:=Tryz.sizeOf416
 v139:=Tryz.zeroValue416
 t146:=Tryz.underlying411
 a146:=Tryz.isAgg411
 z146:=Tryz.sizeOf411
 v146:=Tryz.zeroValue411
 g1:=by kernel_rfl
 g3:=by kernel_rfl
 g4:=by kernel_rfl}
open Go.RowKit Go.Lib in
theorem Tryz.strings_Split(s sep:ByteArray)(m:Int)(w:World)(hs:s.size<4294967281)(hm:w.cell? ⟨0,0,none⟩=some (.int .i64 m))(h1:1<=sep.size):
  Calls Tryz.prog 78 #[.string s, .string sep] w fun e w'=>
   e= .returned (.slice (some ⟨w.heap.size,0,none⟩) (Lib.countB s sep+1) (Lib.countB s sep+1))/\w'=w.alloc (.cells ((Lib.splitB sep 0 (Lib.countB s sep) s).map Value.string).toArray 9):=Any.strings_Split Tryz.ZA (by kernel_rfl) s sep m w hs hm h1
def Tryz.ZB:Go.Shelf.Ren:=⟨fun|146=>78|221=>146|268=>204|138=>205|143=>206|195=>240|197=>241|218=>242|219=>231|260=>286|217=>270|225=>271|224=>272|267=>273|266=>318|314=>319|n=>n,fun|9=>9|31=>155|3=>3|4=>4|0=>0|105=>344|21=>21|5=>5|46=>253|119=>413|139=>416|138=>415|146=>411|51=>26|n=>n,fun|1=>0|3=>2|4=>3|n=>n⟩
theorem Tryz.ZC:Go.Proofs.LaysM.n146 Tryz.prog Tryz.ZB:={
 mixed:=by kernel_rfl
 f138:=Tryz.func205.trans (congrArg some (by kernel_rfl))
 f143:=Tryz.func206.trans (congrArg some (by kernel_rfl))
 f146:=Tryz.func78.trans (congrArg some (by kernel_rfl))
 f195:=Tryz.func240.trans (congrArg some (by kernel_rfl))
 f197:=Tryz.func241.trans (congrArg some (by kernel_rfl))
 f217:=Tryz.func270.trans (congrArg some (by kernel_rfl))
 f218:=Tryz.func242.trans (congrArg some (by kernel_rfl))
 f219:=Tryz.func231.trans (congrArg some (by kernel_rfl))
 f221:=Tryz.func146.trans (congrArg some (by kernel_rfl))
 f224:=Tryz.func272.trans (congrArg some (by kernel_rfl))
 f225:=Tryz.func271.trans (congrArg some (by kernel_rfl))
 f260:=Tryz.func286.trans (congrArg some (by kernel_rfl))
 f266:=Tryz.func318.trans (congrArg some (by kernel_rfl))
 f267:=Tryz.func273.trans (congrArg some (by kernel_rfl))
 f268:=Tryz.func204.trans (congrArg some (by kernel_rfl))
 f314:=Tryz.func319.trans (congrArg some (by kernel_rfl))
 t0:=Tryz.underlying0
 a0:=Tryz.isAgg0
 z0:=Tryz.sizeOf0
 v0:=Tryz.zeroValue0
 t3:=Tryz.underlying3
 a3:=Tryz.isAgg3
 z3:=Tryz.sizeOf3
 v3:=Tryz.zeroValue3
 t4:=Tryz.underlying4
 a4:=Tryz.isAgg4
 z4:=Tryz.sizeOf4
 v4:=Tryz.zeroValue4
 t5:=Tryz.underlying5
 a5:=Tryz.isAgg5
 z5:=Tryz.sizeOf5
 v5:=Tryz.zeroValue5
 t9:=Tryz.underlying9
 a9:=Tryz.isAgg9
 z9:=Tryz.sizeOf9
 v9:=Tryz.zeroValue9
 t21:=Tryz.underlying21
 a21:=Tryz.isAgg21
 z21:=Tryz.sizeOf21
 v21:=Tryz.zeroValue21
 t31:=Tryz.underlying155
 a31:=Tryz.isAgg155
 z31:=Tryz.sizeOf155
 v31:=Tryz.zeroValue155
 t46:=Tryz.underlying253
 a46:=Tryz.isAgg253
 z46:=Tryz.sizeOf253
 v46:=Tryz.zeroValue253
 t51:=Tryz.underlying26
 a51:=Tryz.isAgg26
 z51:=Tryz.sizeOf26
 v51:=Tryz.zeroValue26
 t105:=Tryz.underlying344
 a105:=Tryz.isAgg344
 z105:=Tryz.sizeOf344
 v105:=Tryz.zeroValue344
 t119:=Tryz.underlying413
 a119:=Tryz.isAgg413
 z119:=Tryz.sizeOf413
 t138:=Tryz.underlying415
 a138:=Tryz.isAgg415
 z138:=Tryz.sizeOf415
 v138:=Tryz.zeroValue415
 t139:=Tryz.underlying416
 a139:=Tryz.isAgg416
 z139:=Tryz.sizeOf416
 v139:=Tryz.zeroValue416
 t146:=Tryz.underlying411
 a146:=Tryz.isAgg411
 z146:=Tryz.sizeOf411
 v146:=Tryz.zeroValue411
 g1:=by kernel_rfl
 g3:=by kernel_rfl
 g4:=by kernel_rfl
 i0:=by kernel_rfl
 i3:=by kernel_rfl
 i4:=by kernel_rfl
 i5:=by kernel_rfl
 i9:=by kernel_rfl
 i21:=by kernel_rfl
 i31:=by kernel_rfl
 i46:=by kernel_rfl
 i51:=by kernel_rfl
 i105:=by kernel_rfl
 i138:=by kernel_rfl
 i139:=by kernel_rfl
 i146:=by kernel_rfl
 m1:=by kernel_rfl
 s1_3:=fun w h=>Go.Proofs.cell_of_shapedOpen_int (zero:= #[.int .i64 0]) (t:=3) h (of_decide_eq_true (by kernel_rfl)) (by kernel_rfl) rfl (by kernel_rfl) (by kernel_rfl) Tryz.underlying3
 m3:=by kernel_rfl
 m4:=by kernel_rfl}
end Go.Proofs
namespace Go.Proofs.YtkggjjnhnjjokaaGreatDoor
open Go.ax Go.Kb Go.RowKit
class rQ(w:World):Prop where
 len: ∃m,w.cell? ⟨0,0,none⟩=some (.int .i64 m)
theorem rQ.at{w0 w:World}{L:List aj}(t:rQ w0)(h:Mem w0 L w):rQ w:=by
 obtain⟨m,hm⟩:=t.len;have h0:(0:Nat)<w0.heap.size:=by
  rcases as3 0 w0.heap.size with q|q
  ·
   exact q
  rw[World.cell?]at hm;rw[auE (show w0.heap.size<=(⟨0,0,none⟩:Addr).block by exact q)]at hm;simp at hm
 exact⟨m,by rw[h.below.cell h0];exact hm⟩
variable {w0:World}{L:List aj}
instance[t:rQ w0](s:cf)(c:UInt8):cx Tryz.prog 115 w0 L [.string ⟨s.toArray⟩, .string ⟨[c].toArray⟩] (.tuple #[.string ⟨(eN c s).1.toArray⟩, .string ⟨(eN c s).2.1.toArray⟩, .bool (eN c s).2.2]) (s.length<4294967281):=⟨fun h w hw=>by
 obtain⟨m,hm⟩:=(t.at hw).len;refine(Tryz.strings_Cut ⟨s.toArray⟩ ⟨[c].toArray⟩ m w (by rw[AP];exact h) hm).mono ?_;rintro e w' ⟨he,n,rfl⟩;exact⟨he, .OM ⟨rfl,rfl,rfl,as4 _,fun _ _=>rfl⟩⟩⟩
instance(s:cf)(c:UInt8):cx Tryz.prog 245 w0 L [.string ⟨s.toArray⟩, .int .u8 (c.toNat:Nat)] (.int .i64 (Lib.indexByte s c)) True:=⟨fun _ w hw=>by
 refine(Tryz.strings_IndexByte ⟨s.toArray⟩ c.toNat w).mono ?_;rintro e w' ⟨he,rfl⟩;have e1:((c.toNat:Int)).toNat.toUInt8=c:=by simp
 rw[e1]at he;exact⟨he, .init _⟩⟩
instance[t:rQ w0](s:cf)(c:UInt8):bQ Tryz.prog 78 w0 L [.string ⟨s.toArray⟩, .string ⟨[c].toArray⟩] Nat (fun b=>(⟨false,b,0,(cU c s).length,(cU c s).length,none⟩:Sv).val) (fun b=>own C4 1 ⟨false,b,0,(cU c s).length,(cU c s).length,none⟩ (cU c s)::L) (fun _=>True) (s.length<4294967281):=⟨fun h w hw=>by
 obtain⟨m,hm⟩:=(t.at hw).len;have hs:(⟨s.toArray⟩:ByteArray).size<4294967281:=by rw[AP];exact h
 have e0:(Lib.splitB ⟨[c].toArray⟩ 0 (Lib.countB ⟨s.toArray⟩ ⟨[c].toArray⟩) ⟨s.toArray⟩).map (·.data.toList)=cU c s:=PH c s.length ⟨s.toArray⟩ (by rw[AP];exact as4 _);have el:(cU c s).length=Lib.countB ⟨s.toArray⟩ ⟨[c].toArray⟩+1:=by
  exact(YT c ⟨s.toArray⟩).symm
 have hlen:(cU c s).length<=140737488355328:=by have:=PE c s;omega
 refine(Tryz.strings_Split ⟨s.toArray⟩ ⟨[c].toArray⟩ m w hs hm (as4 1)).mono ?_;rintro e w' ⟨he,rfl⟩;refine⟨w.heap.size,by rw[he,el];rfl,trivial,hw.call (E:=[_]) (yY (enc:=C4) (c:=1) (xs:=cU c s) rfl _ _ rfl (as4 _) hlen ?_ fun i x hx j hj=>?_)⟩
 ·
  have:=congrArg List.length e0;rw[atL]at this;simp[this]
 obtain rfl:j=0:=by omega
 rw[←e0,atg]at hx;obtain⟨y,hy,rfl⟩:=au6.1 hx;simp only[auL,atZ,auj,atg,hy,atJ,C4];rw[←YP y];rfl⟩
end Go.Proofs.YtkggjjnhnjjokaaGreatDoor
namespace Go.Kb
open Go.ax
structure It where
 id:Int
 body:Sl UInt8
def p8(x:It):Array Value:= #[.int .i64 x.id,x.body.sv.val]
instance:bu p8 2:=⟨fun _=>rfl,fun x=>by
 have h1:(Value.int .i64 x.id).oneCell'=true:=rfl;simp only[p8,auU,au2,avi,Sv.one,h1,auN]⟩
instance (x:It):cg (p8 x) 0 (.int .i64 x.id):=⟨rfl⟩
instance (x:It):cg (p8 x) 1 x.body.sv.val:=⟨rfl⟩
instance:Deep It where
 c:=2
 cells:=p8
 size:=bu.size
 one:=bu.one
 cM h x:=Deep.cM h x.body
 ck x:=Deep.ck x.body
 ki h x hs:=Deep.ki h x.body hs
 mono w w' x:=Deep.mono w w' x.body
instance:gH It p8 2:=⟨rfl,fun _=>rfl⟩
variable {w0:World}{L:List aj}
instance{x:It}[q:aT w0 L x]:aT w0 L x.body:=⟨q.h⟩
instance {L R:List aj}{i:Int}{b:Sl UInt8}[k:Take L b R]:Take L (It.mk i b) R:=⟨k.h⟩
def AW(a:Sl It):List (Int×List UInt8):=a.xs.map fun x=>(x.id,x.body.xs)
end Go.Kb
namespace Go.ax
structure pd where
 X:Type
 v:X->Value
 e:X->aj
section
variable {P:Program} {l:List Oper} {Q:Exit->Act->World->Prop} {fs:List Nat} {mk:Nat->pd} {w0:World}
def vE(P:Program)(o:Oper)(ρ:Operand->Value)(m:pd):Prop:= ∀(w0 w:World) (L:List aj),Mem w0 L w-> ∃(x:m.X) (w':World),(execOp ρ o).run P w= .ok (.value (m.v x)) w'/\Mem w0 (m.e x::L) w'
def upon(P:Program)(w:World)(R:Value->World->Prop):Result Next->Prop
 | .ok (.value v) w'=>R v w'
 | .ok .skip w'=>R undef w'
 | .ok (.enter f args) w'=>w'=w/\Calls P f args w fun e qE=> ∃v,e= .returned v/\R v qE
 |_=>False
def sY(P:Program)(l:List Oper)(fs:List Nat)(mk:Nat->pd)(Q:Exit->Act->World->Prop)(w0:World):List Nat->Act->List aj->List aj->Prop
 |[],af,L,_=> ∀w,Mem w0 L w->Q .normal af w
 |k::ord,af,L,Lq=> ∃o,l[k]? =some o/\(if fs.contains k=true then(∀i∈ord,fs.contains (i+2000)=true-> ∃oi,l[i]? =some oi/\oi.guard=none/\vE P oi af.eval (mk i))/\(if fs.contains (k+2000)=true then
  o.guard=none/\vE P o af.eval (mk k)/\ ∀x:(mk k).X,sY P l fs mk Q w0 ord (af.put o.dst ((mk k).v x)) ((mk k).e x::L) Lq
  else
   Region.wanted o (yielded l.toArray af.tmps)=true/\(∀w,Mem w0 L w->upon P w (fun v w'=> ∃L' gR,Mem w0 L' w'/\(∀w,Mem w0 L' w->Mem w0 gR w)/\(∀w,Mem w0 gR w->Mem w0 Lq w)/\(fs.contains (k+5000)=true-> ∀w,Mem w0 L' w->Mem w0 L w)/\sY P l fs mk Q w0 ord (af.put o.dst v) L' gR) ((execOp af.eval o).run P w))/\
   (fs.contains (k+4000)=true-> ∀e w,Mem w0 (e::L) w->upon P w (fun v w'=> ∃L' gR,Mem w0 (e::L') w'/\(∀w,Mem w0 L' w->Mem w0 gR w)/\(∀w,Mem w0 gR w->Mem w0 Lq w)/\(fs.contains (k+5000)=true-> ∀w,Mem w0 L' w->Mem w0 L w)/\sY P l fs mk Q w0 ord (af.put o.dst v) L' gR) ((execOp af.eval o).run P w)))
  else∃v,(Region.wanted o (yielded l.toArray af.tmps)=true->vm P o af (Mem w0 (if fs.contains (k+1000)=true then L else Lq)) v)/\(Region.wanted o (yielded l.toArray af.tmps)=false->v=undef)/\sY P l fs mk Q w0 ord (af.put o.dst v) L Lq)
def C8(o:Oper):List Nat:=(o.after.toList.filter fun e=>Region.binds .any e).map (·.on)
def Kf(l:List Oper)(fs:List Nat)(A:List (List Nat))(prev seen:List Nat)(k:Nat)(o:Oper):Bool:=
 (!fs.contains k||fs.contains (k+2000)||fs.contains (k+5000)||(prev.all fun j=> !fs.contains (j+1000)||(A.getD k []).contains j))&&
 (match o.op with| .select .. =>false|_=>true)&&
 ((C8 o).all fun j=>decide (j<k))&&
 (fs.contains (k+2000)||seen.all fun f=>(A.getD k []).contains f)&&
 ((A.getD k []).all fun f=>(C8 o).any fun j=>j==f||(A.getD j []).contains f)&&
 ((List.range l.length).all fun j=>match dV l j with
  |none=>true
  |some d=>(!(o.looksAt l.toArray).contains d||(prev.contains j&&(C8 o).contains j&&(!fs.contains (k+2000)|| !fs.contains j)))&&(j==k||o.dst !=some d))
def vF(l:List Oper)(fs:List Nat)(A:List (List Nat)):List Nat->List Nat->List Nat->Bool
 |_,_,[]=>true
 |prev,seen,k::ord=>(match l[k]?with|none=>false|some o=>Kf l fs A prev seen k o)&&(!fs.contains k||fs.contains (k+2000)||(ord.all fun j=> !fs.contains (j+2000))||(fs.contains (k+4000)&&decide ((ord.filter fun j=>fs.contains (j+2000)).length<=1)))&&vF l fs A (k::prev) (if fs.contains k then k::seen else seen) ord
def FY(l:List Oper)(fs:List Nat)(A:List (List Nat))(ord:List Nat):Bool:=
 ((List.range l.length).all fun j=>ord.contains j)&&decide ord.Nodup&&(ord.all fun j=>decide (j<l.length))&&(fs.all fun j=>decide (j<2000))&&vF l fs A [] [] ord
def FZ(l:List Oper)(fs:List Nat)(A:List (List Nat))(ord:List Nat):Bool:=
 ((List.range l.length).all fun j=>ord.contains j)&&decide ord.Nodup&&(ord.all fun j=>decide (j<l.length))&&vF l fs A [] [] ord
structure Kg(l:List Oper)(fs:List Nat)(A:List (List Nat))(prev seen:List Nat)(k:Nat)(o:Oper):Prop where
 tmp:fs.contains k=true->fs.contains (k+2000)=false->fs.contains (k+5000)=false-> ∀j∈prev,fs.contains (j+1000)=true->j∈A.getD k []
 wR: ∀cs b,o.op≠ .select cs b
 back: ∀e∈o.after,Region.binds .any e=true->e.on<k
 ZD:fs.contains (k+2000)=false-> ∀f∈seen,f∈A.getD k []
 cert: ∀f∈A.getD k [],∃e∈o.after,Region.binds .any e=true/\(e.on=f\/f∈A.getD e.on [])
 reads: ∀j d,j<l.length->dV l j=some d->d∈o.looksAt l.toArray->j∈prev/\ ∃e∈o.after,Region.binds .any e=true/\e.on=j
 one: ∀j d,j<l.length->dV l j=some d->j≠k->o.dst≠some d
 ZE:fs.contains (k+2000)=true-> ∀j d,j<l.length->dV l j=some d->d∈o.looksAt l.toArray->fs.contains j=false
theorem Kh{o:Oper}{j:Nat}:j∈C8 o↔ ∃e∈o.after,Region.binds .any e=true/\e.on=j:=by
 unfold C8;simp only[at7,atl];constructor
 ·
  rintro⟨e,⟨h1,h2⟩,h3⟩;exact⟨e,by simpa using h1,h2,h3⟩
 rintro⟨e,h1,h2,h3⟩;exact⟨e,⟨by simpa using h1,h2⟩,h3⟩
theorem ZF{A:List (List Nat)}{prev seen:List Nat}{k:Nat}{o:Oper}(h:Kf l fs A prev seen k o=true):Kg l fs A prev seen k o:=by
 simp only[Kf,anc]at h;obtain⟨⟨⟨⟨⟨h0,h1⟩,h2⟩,h3⟩,h4⟩,h5⟩:=h;refine⟨fun hk pa ZG j hj ht=>by
  rw[hk,pa,ZG,Bool.not_true,avB,avB,avB]at h0;have:=atk.1 h0 j hj;rw[ht]at this;simpa using this,fun cs b e=>by rw[e]at h1;simp at h1,fun e he hb=>?_,fun dW f hf=>?_,fun f hf=>?_,fun j d hj hd hl=>?_,fun j d hj hd bM=>?_,fun hk j d hj hd hl=>?_⟩
 ·
  have:=atk.1 h2 e.on (Kh.2 ⟨e,he,hb,rfl⟩);simpa using this
 ·
  rw[dW,avB]at h3;have:=atk.1 h3 f hf;simpa using this
 ·
  have:=atk.1 h4 f hf;obtain⟨j,hj,eS⟩:=List.any_eq_true.1 this;obtain⟨e,he,hb,rfl⟩:=Kh.1 hj;exact⟨e,he,hb,by simpa using eS⟩
 ·
  have:=atk.1 h5 j (aty.2 hj);rw[hd]at this;simp only[anc,aui,at0]at this;rcases this.1 with h6|h6
  ·
   exact absurd hl (by simpa using h6)
  exact⟨by simpa using h6.1.1,Kh.1 (by simpa using h6.1.2)⟩
 ·
  have:=atk.1 h5 j (aty.2 hj);rw[hd]at this;simp only[anc,aui,beq_iff_eq]at this;rcases this.2 with h6|h6
  ·
   exact absurd h6 bM
  simpa using h6
 have:=atk.1 h5 j (aty.2 hj);rw[hd]at this;simp only[anc,aui,at0]at this;rcases this.1 with h6|h6
 ·
  exact absurd hl (by simpa using h6)
 rcases h6.2 with h7|h7
 ·
  rw[hk]at h7;cases h7
 exact h7
theorem xw{A:List (List Nat)}: ∀(ord prev seen:List Nat),vF l fs A prev seen ord=true-> ∀(x:List Nat) (k:Nat) (y:List Nat),ord=x++k::y->
  ∃o,l[k]? =some o/\Kg l fs A (x.reverse++prev) ((x.filter fun j=>fs.contains j).reverse++seen) k o/\(fs.contains k=true->fs.contains (k+2000)=false->(∀j∈y,fs.contains (j+2000)=false)\/(fs.contains (k+4000)=true/\(y.filter fun j=>fs.contains (j+2000)).length<=1))
 |[],_,_,_,x,k,y,e=>by simp at e
 |k0::ord,prev,seen,h,x,k,y,e=>by
  simp only[vF,anc]at h
  cases x with
  |nil=>
   simp only[atQ,avJ]at e;obtain⟨rfl,rfl⟩:=e
   cases ho:l[k0]?with
   |none=>rw[ho]at h;simp at h
   |some o=>
    rw[ho]at h;refine⟨o,rfl,by simpa using ZF h.1.1,fun h1 h2=>?_⟩;have h3:=h.1.2;rw[h1,h2]at h3;simp only[Bool.not_true,avB,aui,anc,decide_eq_true_eq]at h3;refine h3.imp (fun h4 j hj=>?_) id;have:=atk.1 h4 j hj;simpa using this
  |cons x0 x=>
   simp only[aup,avJ]at e;obtain⟨rfl,rfl⟩:=e;obtain⟨o,ho,hk,hy⟩:=xw _ _ _ h.2 x k y rfl;refine⟨o,ho,?_,hy⟩;have e1:(k0::x).reverse++prev=x.reverse++(k0::prev):=by simp
   have e2:(((k0::x).filter fun j=>fs.contains j).reverse++seen)=(x.filter fun j=>fs.contains j).reverse++(if fs.contains k0 then k0::seen else seen):=by
    cases hc:fs.contains k0 with
    |true=>
     rw[atw,if_pos hc,List.reverse_cons,ate];rfl
    |false=>
     rw[atw,if_neg (by rw[hc];exact auf)];rfl
   rw[e1,e2];exact hk
def qa(N0 d:Nat)(v:Value)(a:Act):Prop:=a.tmps[d]? =if d<N0 then some v else none
theorem AX{N0 d:Nat}{v:Value}{a:Act}(h:a.tmps.size=N0):qa N0 d v (a.put (some d) v):=by
 subst h;unfold qa;simp[Act.put,atX]
def Ki(P:Program)(l:List Oper)(w0:World)(N0 k:Nat)(af:Act)(Lq:List aj):Prop:=
 ∃o v,l[k]? =some o/\(∀d,o.dst=some d->qa N0 d v af)/\(Region.wanted o (yielded l.toArray af.tmps)=true->vm P o af (Mem w0 Lq) v)/\(Region.wanted o (yielded l.toArray af.tmps)=false->v=undef)
def Early(l:List Oper)(fs:List Nat)(mk:Nat->pd)(N0:Nat)(iC:List Nat)(listed:Array Bool)(a:Act)(e:Nat×aj):Prop:=
 e.1∈iC/\listed.getD e.1 true=true/\fs.contains e.1=true/\fs.contains (e.1+2000)=true/\ ∃o,∃x:(mk e.1).X,l[e.1]? =some o/\e.2=(mk e.1).e x/\ ∀d,o.dst=some d->qa N0 d ((mk e.1).v x) a
structure Core(P:Program)(l:List Oper)(fs:List Nat)(mk:Nat->pd)(Q:Exit->Act->World->Prop)(w0:World)(ord:List Nat)(a0:Act)(pre iC:List Nat)(af:Act)(L Lq:List aj)(E:List (Nat×aj))(listed:Array Bool)(a:Act)(w:World):Prop where
 ord:ord=pre++iC
 inv:HeadInv .any l.toArray l.length listed
 mem:Mem w0 (E.map (·.2)++L) w
 qQ: ∀e∈E,Early l fs mk a0.tmps.size iC listed a e
 keys:(E.map (·.1)).Nodup
 AY: ∀w,Mem w0 L w->Mem w0 Lq w
 zf:sY P l fs mk Q w0 iC af L Lq
 size:a.tmps.size=a0.tmps.size
 rE:af.tmps.size=a0.tmps.size
 defers:a.defers=a0.defers
 ua:af.defers=a0.defers
 sub: ∀j,j<l.length->listed.getD j true=true->j∈pre\/j∈E.map (·.1)
 fresh: ∀j∈pre,fs.contains j=true->listed.getD j true=true
 xx: ∀j∈pre,listed.getD j true=false->Ki P l w0 a0.tmps.size j af (if fs.contains (j+1000)=true then L else Lq)
 done: ∀j d,j<l.length->listed.getD j true=true->j∈pre->dV l j=some d->a.tmps[d]? =af.tmps[d]?
 rest: ∀d,(∀j,j<l.length->listed.getD j true=true->dV l j≠some d)->a.tmps[d]? =a0.tmps[d]?
 full: ∀d,(∀j∈pre,dV l j≠some d)->af.tmps[d]? =a0.tmps[d]?
variable {A:List (List Nat)} {ord:List Nat} {a0:Act}
theorem C9{o:Oper}(hn: ∀cs b,o.op≠ .select cs b){a b:Act}(h: ∀t∈o.looksAt l.toArray,a.tmps[t]? =b.tmps[t]?):
  execOp a.eval o=execOp b.eval o/\Region.wanted o (yielded l.toArray a.tmps)=Region.wanted o (yielded l.toArray b.tmps):=
 ⟨execOp_congr o hn (Jg h),OW h⟩
theorem Qb{o:Oper}{a b:Act}{C D:World->Prop}{v:Value}(e:execOp a.eval o=execOp b.eval o)(hD: ∀w,D w->C w)(h:vm P o a C v):vm P o b D v:=fun w hw=>by
 have:=h w (hD w hw);unfold Oper.quietAt at this⊢;rw[←e];exact this
theorem AZ{pre iC:List Nat}{i k N0:Nat}{af:Act}{Lq gR:List aj}{oi:Oper}{u:Value}(hB:vF l fs A [] [] ord=true)(cA:ord.Nodup)(bc: ∀j∈ord,j<l.length)(ho:ord=pre++i::iC)(yK:l[i]? =some oi)(hk:k∈pre)(hq: ∀w,Mem w0 gR w->Mem w0 Lq w)
  (h:Ki P l w0 N0 k af Lq):Ki P l w0 N0 k (af.put oi.dst u) gR:=by
 obtain⟨o,v,h1,h2,h3,h4⟩:=h;obtain⟨x,y,rfl⟩:=avx hk;have pX:ord=x++k::(y++i::iC):=by rw[ho];simp
 obtain⟨o',qb,bD,-⟩:=xw ord [] [] hB x k _ pX;have:o'=o:=by rw[h1]at qb;exact(asY qb).symm
 subst this;have dL:i<l.length:=(ad2.1 yK).1;have lE:dV l i=oi.dst:=by simp[dV,yK]
 have n7:i≠k:=fun e=>by
  subst e;rw[pX]at cA;have:=(auK.1 cA).2.1;exact(avl.1 this).1 (by simp)
 have vG:i∉x:=fun hx=>by
  rw[pX]at cA;exact(auK.1 cA).2.2 i hx i (by simp) rfl
 have Kj: ∀t∈o'.looksAt l.toArray,af.tmps[t]? =(af.put oi.dst u).tmps[t]? :=fun t ht=>by
  refine(kg _ _ _ _ fun e=>?_).symm;obtain⟨hp,_⟩:=bD.reads i t dL (by rw[lE];exact e) ht;rw[atK,av5]at hp;exact vG hp
 obtain⟨e1,e2⟩:=C9 bD.wR Kj;refine⟨o',v,h1,fun d hd=>?_,fun hw=>Qb e1 hq (h3 (by rw[e2];exact hw)),fun hw=>h4 (by rw[e2];exact hw)⟩;have:=h2 d hd;unfold qa at this⊢;rw[kg _ _ _ _ fun e=>?_]
 ·
  exact this
 ·
  exact bD.one i d dL (by rw[lE];exact e) n7 hd
theorem ZH{E:List (Nat×aj)}{k:Nat}(h:k∈E.map (·.1)): ∃E1 x E2,E=E1++(k,x)::E2:=by
 obtain⟨e,he,rfl⟩:=at7.1 h;obtain⟨E1,E2,rfl⟩:=avx he;exact⟨E1,e.2,E2,rfl⟩
theorem F0(hB:vF l fs A [] [] ord=true)(cA:ord.Nodup)(bc: ∀j∈ord,j<l.length): ∀(iC pre:List Nat) (af:Act) {L Lq:List aj} {E:List (Nat×aj)} {listed:Array Bool} {a:Act} {w:World},Core P l fs mk Q w0 ord a0 pre iC af L Lq E listed a w->
  ∃ZI Kk ZJ L' E',Core P l fs mk Q w0 ord a0 ZI Kk ZJ L' Lq E' listed a w/\(Kk=[]\/ ∃f r,Kk=f::r/\fs.contains f=true/\f∉E'.map (·.1))
 |[],pre,af,L,_,E,_,_,_,H=>⟨pre,[],af,L,E,H, .inl rfl⟩
 |k::iC,pre,af,L,Lq,E,listed,a,w,H=>by
  have n8:k∉pre:=fun h=>by
   have qc:=cA;rw[H.ord]at qc;exact(auK.1 qc).2.2 k h k (by simp) rfl
  have iZ: ∀j,j∈pre->j≠k:=fun j hj e=>n8 (e▸hj);have hks:k∉iC:=fun h=>by
   have qc:=cA;rw[H.ord]at qc;exact(avl.1 (auK.1 qc).2.1).1 h
  obtain⟨o',sZ,bD,-⟩:=xw ord [] [] hB pre k iC H.ord;have zg:k<l.length:=(ad2.1 sZ).1;have F1:dV l k=o'.dst:=by simp[dV,sZ]
  cases hf:fs.contains k with
  |true=>
   by_cases hE:k∈E.map (·.1)
   ·
    obtain⟨E1,x,E2,rfl⟩:=ZH hE;obtain⟨_,fy,_,dW,oe,b,Qc,hx,n9⟩:=H.qQ (k,x) (by simp);simp only at fy dW Qc hx n9;have e0:oe=o':=by rw[Qc]at sZ;exact asY sZ
    subst e0;obtain⟨o,qb,hl⟩:=H.zf;rw[if_pos hf,if_pos dW]at hl;have e1:o=oe:=by rw[qb]at sZ;exact asY sZ
    subst e1;obtain⟨_,_,_,A0⟩:=hl;have ZK:(((E1++(k,x)::E2).map (·.2))++L).Perm (((E1++E2).map (·.2))++x::L):=by
     simp only[atE,atq,ate,aup];exact List.Perm.append_left _ (avh.symm)
    have Kl:=H.keys;simp only[atE,atq]at Kl;have ZL: ∀e∈E1++E2,e.1≠k:=fun e he e2=>by
     obtain⟨n1,n2,n3⟩:=auK.1 Kl;rcases as8.1 he with h|h
     ·
      exact n3 e.1 (atp h) k (by simp) e2
     ·
      exact(avl.1 n2).1 (e2▸atp h)
    refine F0 hB cA bc iC (pre++[k]) (af.put o.dst ((mk k).v b)) (L:=x::L) (E:=E1++E2) ⟨by rw[H.ord];simp,H.inv,H.mem.perm ZK,fun e he=>?_,?_,fun w hw=>H.AY w (hw.sub (atO _ _)),by rw[hx];exact A0 b,H.size,by rw[tX];exact H.rE,H.defers,by rw[tY];exact H.ua,fun j hj hl=>?_,fun j hj sJ=>?_,fun j hj hl=>?_,fun j d hj hl uw hd=>?_,H.rest,fun d hd=>?_⟩
    ·
     have hm:e∈E1++(k,x)::E2:=by
      rcases as8.1 he with h|h
      ·
       exact atA _ h
      ·
       exact aur _ (atd _ h)
     obtain⟨g1,g2⟩:=H.qQ e hm;exact⟨(as2.1 g1).resolve_left (ZL e he),g2⟩
    ·
     rw[atE];exact Kl.sublist (List.Sublist.append_left (atO _ _) _)
    ·
     rcases H.sub j hj hl with h|h
     ·
      exact .inl (atA _ h)
     ·
      simp only[atE,atq,as8,as2]at h;rcases h with h|h|h
      ·
       exact .inr (by simp only[atE,as8];exact .inl h)
      ·
       exact .inl (by rw[h];simp)
      ·
       exact .inr (by simp only[atE,as8];exact .inr h)
    ·
     rcases as8.1 hj with h|h
     ·
      exact H.fresh j h sJ
     ·
      obtain rfl:=atG.1 h;exact fy
    ·
     rcases as8.1 hj with h|h
     ·
      have hp:=H.xx j h hl
      cases zh:fs.contains (j+1000)with
      |true=>
       rw[zh]at hp;simp only[if_true]at hp⊢;exact AZ hB cA bc H.ord qb h (fun w hw=>hw.sub (atO _ _)) hp
      |false=>
       rw[zh]at hp;simp only[atD,if_false]at hp⊢;exact AZ hB cA bc H.ord qb h (fun _ h=>h) hp
     ·
      obtain rfl:=atG.1 h;rw[fy]at hl;cases hl
    ·
     rcases as8.1 uw with h|h
     ·
      rw[kg _ _ _ _ (bD.one j d hj hd (iZ j h))];exact H.done j d hj hl h hd
     ·
      obtain rfl:=atG.1 h;rw[F1]at hd;have h3:=n9 d hd;rw[hd];have h4:qa a0.tmps.size d ((mk j).v b) (af.put (some d) ((mk j).v b)):=AX H.rE;unfold qa at h3 h4;rw[h3,h4]
    ·
     rw[kg _ _ _ _ (by have:=hd k (by simp);rwa [F1]at this)];exact H.full d fun j hj=>hd j (atA _ hj)
   ·
    exact⟨pre,k::iC,af,L,E,H, .inr ⟨k,iC,rfl,hf,hE⟩⟩
  |false=>
   obtain⟨o,qb,hl⟩:=H.zf;rw[if_neg (by rw[hf];exact auf)]at hl;obtain⟨v,h1,h2,h3⟩:=hl;have:o'=o:=by rw[qb]at sZ;exact(asY sZ).symm
   subst this;have Kj: ∀t∈o'.looksAt l.toArray,af.tmps[t]? =(af.put o'.dst v).tmps[t]? :=fun t ht=>by
    refine(kg _ _ _ _ fun e=>?_).symm;obtain⟨hp,_⟩:=bD.reads k t zg (by rw[F1];exact e) ht;rw[atK,av5]at hp;exact n8 hp
   obtain⟨e1,e2⟩:=C9 bD.wR Kj;refine F0 hB cA bc iC (pre++[k]) (af.put o'.dst v) ⟨by rw[H.ord];simp,H.inv,H.mem,fun e he=>?_,H.keys,H.AY,h3,H.size,by rw[tX];exact H.rE,H.defers,by rw[tY];exact H.ua,fun j hj hl=>(H.sub j hj hl).imp_left fun h=>atA _ h,fun j hj sJ=>?_,fun j hj hl=>?_,fun j d hj hl uw hd=>?_,H.rest,fun d hd=>?_⟩
   ·
    obtain⟨g1,g2,g3,g4⟩:=H.qQ e he;exact⟨(as2.1 g1).resolve_left (fun e2=>by rw[e2,hf]at g3;cases g3),g2,g3,g4⟩
   ·
    rcases as8.1 hj with h|h
    ·
     exact H.fresh j h sJ
    ·
     obtain rfl:=atG.1 h;rw[hf]at sJ;cases sJ
   ·
    rcases as8.1 hj with h|h
    ·
     exact AZ hB cA bc H.ord qb h (fun _ h=>h) (H.xx j h hl)
    ·
     obtain rfl:=atG.1 h;refine⟨o',v,qb,fun d hd=>by rw[hd];exact AX H.rE,fun hw=>Qb e1 (fun _ h=>h) (h1 (by rw[e2];exact hw)),fun hw=>h2 (by rw[e2];exact hw)⟩
   ·
    rcases as8.1 uw with h|h
    ·
     rw[kg _ _ _ _ (bD.one j d hj hd (iZ j h))];exact H.done j d hj hl h hd
    ·
     obtain rfl:=atG.1 h;rcases H.sub j hj hl with h5|h5
     ·
      exact absurd h5 n8
     ·
      obtain⟨e,he,ZM⟩:=at7.1 h5;obtain⟨_,_,g3,_⟩:=H.qQ e he;rw[ZM,hf]at g3;cases g3
   ·
    rw[kg _ _ _ _ (by have:=hd k (by simp);rwa [F1]at this)];exact H.full d fun j hj=>hd j (atA _ hj)
theorem Qd{x p1 y y':List Nat}{i:Nat}(hn:(p1++i::y').Nodup)(h:x++i::y=p1++i::y'):x=p1:=by
 induction x generalizing p1 with
 |nil=>
  cases p1 with
  |nil=>rfl
  |cons q p1=>
   simp only[atQ,aup,avJ]at h;obtain⟨rfl,_⟩:=h;exact absurd (by simp) (avl.1 hn).1
 |cons c x ih=>
  cases p1 with
  |nil=>
   simp only[atQ,aup,avJ]at h;obtain⟨rfl,h2⟩:=h;rw[←h2]at hn;exact absurd (by simp) (avl.1 hn).1
  |cons q p1=>
   simp only[aup,avJ]at h;obtain⟨rfl,h2⟩:=h;rw[ih (avl.1 hn).2 h2]
theorem Qe{listed:Array Bool}(hB:vF l fs A [] [] ord=true)(hG: ∀j,j<l.length->j∈ord)(inv:HeadInv .any l.toArray l.length listed): ∀(k:Nat) (o:Oper),l[k]? =some o->(∀e∈o.after,Region.binds .any e=true->listed.getD e.on false=true)->
  ∀f∈A.getD k [],listed.getD f false=true:=by
 intro k
 induction k using Nat.strongRecOn with
 |_ k ih=>
  intro o qb hd f hf;obtain⟨x,y,hx⟩:=avx (hG k (ad2.1 qb).1);obtain⟨o',sZ,bD,-⟩:=xw ord [] [] hB x k y hx;have:o'=o:=by rw[qb]at sZ;exact(asY sZ).symm
  subst this;obtain⟨e,he,hb,h⟩:=bD.cert f hf;have hl:=hd e he hb;rcases h with rfl|h
  ·
   exact hl
  ·
   have bc:=bD.back e he hb;have F2:e.on<l.length:=by have:=(ad2.1 qb).1;omega
   exact ih e.on bc l[e.on] (by simp[F2]) (inv.closed e.on _ (by simp[F2]) hl) f h
theorem F3{listed:Array Bool}{i:Nat}(hi:i<listed.size)(h:listed.getD i false=true):listed.getD i true=true:=by
 simp[hi]at h⊢;exact h
theorem F4(hB:vF l fs A [] [] ord=true)(cA:ord.Nodup)(bc: ∀j∈ord,j<l.length)(hG: ∀j,j<l.length->j∈ord)(A1: ∀k,k<l.length->fs.contains k=false->fs.contains (k+2000)=false):
  ∀(m:Nat) (pre iC:List Nat) (af:Act) (L Lq:List aj) (E:List (Nat×aj)) (listed:Array Bool) (a:Act) (w:World),left l.length listed=m->Core P l fs mk Q w0 ord a0 pre iC af L Lq E listed a w->wpAny P .any l.toArray Q m listed a w
 |0,Km,Kn,Ko,L0,Lq,E0,listed,a,w,hm,H0=>by
  obtain⟨pre,iC,af,L,E,H,Kq⟩:=F0 hB cA bc Kn Km Ko H0;have ja: ∀j,j<l.length->listed.getD j true=true:=fun j hj=>by
   cases h:listed.getD j true with
   |true=>rfl
   |false=>
    have:j∈(List.range l.length).filter fun i=> !listed.getD i true:=atl.2 ⟨List.mem_range.2 hj,by rw[h];rfl⟩;rw[ati.1 hm]at this
    cases this
  have hr:Region.ready .any l.toArray listed=[]:=by
   refine List.eq_nil_iff_forall_not_mem.2 fun i hi=>?_;obtain⟨h1,o,h2,_⟩:=mem_ready.1 hi;rw[ja i (by have:=(auC.1 h2).1;simpa using this)]at h1;cases h1
  have Kr:iC=[]:=by
   rcases Kq with h|⟨k,r,hs,_,hE⟩
   ·
    exact h
   ·
    exfalso;have hk:k∈ord:=by rw[H.ord,hs];simp
    rcases H.sub k (bc k hk) (ja k (bc k hk))with this|this
    ·
     have qc:=cA;rw[H.ord,hs]at qc;exact absurd rfl ((auK.1 qc).2.2 k this k (by simp))
    ·
     exact hE this
  have hE:E=[]:=List.eq_nil_iff_forall_not_mem.2 fun e he=>by
   have:=(H.qQ e he).1;rw[Kr]at this;cases this
  have A0:=H.zf;rw[Kr]at A0;have F5:=H.ord;rw[Kr,atK]at F5;have e1:a=af:=by
   have:a.tmps=af.tmps:=by
    apply auF;intro d
    by_cases hw: ∃j,j<l.length/\dV l j=some d
    ·
     obtain⟨j,hj,hd⟩:=hw;exact H.done j d hj (ja j hj) (by rw[←F5];exact hG j hj) hd
    ·
     have h1: ∀j,j<l.length->dV l j≠some d:=fun j hj hd=>hw ⟨j,hj,hd⟩;rw[H.rest d fun j hj _=>h1 j hj,H.full d fun j hj=>h1 j (bc j (by rw[F5];exact hj))]
   have h2:a.defers=af.defers:=by rw[H.defers,H.ua]
   cases a;cases af
   simp_all
  subst e1;have jD:=H.mem;rw[hE]at jD;exact⟨hr,A0 w (by simpa using jD)⟩
 |m+1,Km,Kn,Ko,L0,Lq,E0,listed,a,w,hm,H0=>by
  obtain⟨pre,iC,af,L,E,H,Kq⟩:=F0 hB cA bc Kn Km Ko H0;have Qf:Mem w0 L w:=H.mem.sub (List.sublist_append_right _ _);obtain⟨i0,yN,Fg,CH⟩: ∃i,i<l.length/\listed.getD i true=false/\ ∀j,j<i->listed.getD j true=true:=by
   have bM: ∃i,i<l.length/\listed.getD i true=false:=by
    cases hf:(List.range l.length).filter fun i=> !listed.getD i true with
    |nil=>rw[left,hf]at hm;cases hm
    |cons i r=>
     have:i∈(List.range l.length).filter fun i=> !listed.getD i true:=by rw[hf];simp
     obtain⟨h1,h2⟩:=atl.1 this;exact⟨i,aty.1 h1,by simpa using h2⟩
   obtain⟨i,h1,h2⟩:=bM
   induction i using Nat.strongRecOn with
   |_ i ih=>
    by_cases h: ∃j,j<i/\listed.getD j true=false
    ·
     obtain⟨j,hj,eS⟩:=h;exact ih j hj (by omega) eS
    ·
     refine⟨i,h1,h2,fun j hj=>?_⟩
     cases hh:listed.getD j true with
     |true=>rfl
     |false=>exact absurd ⟨j,hj,hh⟩ h
  have fj:listed.size=l.length:=by simpa using H.inv.size
  have ok: ∀k,k<l.length-> ∃x y o,ord=x++k::y/\l[k]? =some o/\Kg l fs A (x.reverse++[]) ((x.filter fun j=>fs.contains j).reverse++[]) k o:=fun k hk=>by
   obtain⟨x,y,hx⟩:=avx (hG k hk);obtain⟨o,ho,bD,-⟩:=xw ord [] [] hB x k y hx;exact⟨x,y,o,hx,ho,bD⟩
  have CI:i0∈Region.ready .any l.toArray listed:=by
   obtain⟨x,y,o,_,ho,bD⟩:=ok i0 yN;refine mem_ready.2 ⟨Fg,o,by simpa using ho,fun e he hb=>?_⟩;have h1:=bD.back e he hb;have h2:=CH e.on h1;have h3:e.on<listed.size:=by omega
   simp[h3]at h2⊢;exact h2
  refine⟨fun h=>(by rw[h]at CI;cases CI),fun i hi=>?_⟩;obtain⟨iZ,o',pX,rF⟩:=mem_ready.1 hi;have vH:i<l.length:=by have:=(auC.1 pX).1;simpa using this
  obtain⟨x,y,o,hx,ho,bD⟩:=ok i vH;have:o'=o:=by simpa[ho]using pX.symm
  subst this;have ub:left l.length (listed.setIfInBounds i true)=m:=by have:=OX vH iZ;omega
  have lE:dV l i=o'.dst:=by simp[dV,ho]
  have iD: ∀j,j≠i->(listed.setIfInBounds i true).getD j true=listed.getD j true:=fun j cy=>getD_set_ne true (Ne.symm cy);have qF:(listed.setIfInBounds i true).getD i true=true:=by simp[show i<listed.size by omega]
  have ux: ∀j d,j<l.length->dV l j=some d->j≠i->o'.dst≠some d:=bD.one;have Qg:(∀j∈x,j∈pre)-> ∀t∈o'.looksAt l.toArray,a.tmps[t]? =af.tmps[t]? :=fun kY t ht=>by
   by_cases hw: ∃j,j<l.length/\dV l j=some t
   ·
    obtain⟨j,hj,hd⟩:=hw;obtain⟨oR,e,he,hb,fV⟩:=bD.reads j t hj hd ht;have hl:=rF e he hb;rw[fV]at hl;rw[atK,av5]at oR;exact H.done j t hj (F3 (by omega) hl) (kY j oR) hd
   ·
    have h1: ∀j,j<l.length->dV l j≠some t:=fun j hj hd=>hw ⟨j,hj,hd⟩;rw[H.rest t fun j hj _=>h1 j hj,H.full t fun j hj=>h1 j (bc j (by rw[H.ord];exact atA _ hj))]
  by_cases s0:i∈pre
  ·
   have kY: ∀j∈x,j∈pre:=fun j hj=>by
    obtain⟨p1,p2,hp⟩:=avx s0;have h1:=H.ord;rw[hp,hx,ate,aup]at h1;have Da:=cA;rw[hx]at Da;have h2:x=p1:=Qd (h1▸Da) h1;rw[hp,←h2];exact atA _ hj
   obtain⟨ee,ew⟩:=C9 bD.wR (Qg kY);obtain⟨op,v,bV,ZN,F6,ZO⟩:=H.xx i s0 iZ;have:op=o':=by rw[ho]at bV;exact(asY bV).symm
   subst this;have kh:fs.contains i=false:=by
    cases h:fs.contains i with
    |false=>rfl
    |true=>have:=H.fresh i s0 h;rw[iZ]at this;cases this
   have next: ∀w',Mem w [] w'->wpAny P .any l.toArray Q m (listed.setIfInBounds i true) (a.put op.dst v) w':=fun w' gN=>by
    refine F4 hB cA bc hG A1 m pre iC af L Lq E _ _ w' ub ⟨H.ord,H.inv.set hi vH,by simpa using H.mem.call gN,fun e he=>?_,H.keys,H.AY,H.zf,by rw[tX];exact H.size,H.rE,by rw[tY];exact H.defers,H.ua,fun j hj hl=>?_,fun j hj hf=>?_,fun j hj hl=>?_,fun j d hj hl uw hd=>?_,fun d hd=>?_,H.full⟩
    ·
     obtain⟨g1,g2,g3,g4,oe,b,g5,g7,g8⟩:=H.qQ e he;have Db:e.1≠i:=fun e2=>by
      have qc:=cA;rw[H.ord]at qc;exact(auK.1 qc).2.2 i s0 e.1 g1 e2.symm
     refine⟨g1,by rw[iD _ Db];exact g2,g3,g4,oe,b,g5,g7,fun d hd=>?_⟩;have:=g8 d hd;unfold qa at this⊢;rw[kg _ _ _ _ (ux e.1 d (ad2.1 g5).1 (by simp[dV,g5,hd]) Db)];exact this
    ·
     by_cases cy:j=i
     ·
      subst cy;exact .inl s0
     ·
      exact H.sub j hj (by rw[←iD j cy];exact hl)
    ·
     rw[iD j (fun e=>by subst e;rw[kh]at hf;cases hf)];exact H.fresh j hj hf
    ·
     exact H.xx j hj (by rw[←iD j (fun e=>by subst e;rw[qF]at hl;cases hl)];exact hl)
    ·
     by_cases cy:j=i
     ·
      subst cy;rw[lE]at hd;have h2:=ZN d hd;rw[hd];have h3:qa a0.tmps.size d v (a.put (some d) v):=AX H.size;unfold qa at h2 h3;rw[h2,h3]
     ·
      rw[iD j cy]at hl;rw[kg _ _ _ _ (ux j d hj hd cy)];exact H.done j d hj hl uw hd
    ·
     have h1:op.dst≠some d:=by
      have:=hd i vH qF;rwa [lE]at this
     rw[kg _ _ _ _ h1];refine H.rest d fun j hj hl=>?_
     by_cases cy:j=i
     ·
      subst cy;rw[lE];exact h1
     ·
      exact hd j hj (by rw[iD j cy];exact hl)
   unfold wpOp;simp only[pX];rw[ew];split
   ·
    rename_i rG;have h1:=F6 rG w (by
     split
     ·
      exact Qf
     ·
      exact H.AY w Qf)
    refine .inl ?_;unfold Oper.wp;rw[ee];unfold Oper.quietAt at h1;generalize(execOp af.eval op).run P w=r at h1;unfold Oper.quietUpon at h1;split at h1
    ·
     obtain⟨rfl,rfl⟩:=h1;exact next _ (Mem.init _)
    ·
     obtain⟨rfl,e⟩:=h1;rw[e]at next;exact next _ (Mem.init _)
    ·
     obtain⟨rfl,vo⟩:=h1;exact vo.mono fun e qE ⟨he,hm⟩=>by subst he;exact next _ hm
    ·
     exact h1.elim
   ·
    rename_i rG;have:=ZO (by simpa using rG);rw[this]at next;exact next w (Mem.init _)
  ·
   have Ks:i∈iC:=by
    have:=hG i vH;rw[H.ord]at this;exact(as8.1 this).resolve_left s0
   rcases Kq with rfl|⟨f,r,rfl,qR,Dc⟩
   ·
    cases Ks
   have Kt: ∀(v:Value) (j d:Nat),j<l.length->(listed.setIfInBounds i true).getD j true=true->j∈pre->dV l j=some d->(a.put o'.dst v).tmps[d]? =af.tmps[d]? :=fun v j d hj hl uw hd=>by
    have cy:j≠i:=fun e=>s0 (e▸uw);rw[iD j cy]at hl;rw[kg _ _ _ _ (ux j d hj hd cy)];exact H.done j d hj hl uw hd
   have F7: ∀(v:Value) (d:Nat),(∀j,j<l.length->(listed.setIfInBounds i true).getD j true=true->dV l j≠some d)->(a.put o'.dst v).tmps[d]? =a0.tmps[d]? :=fun v d hd=>by
    have h1:o'.dst≠some d:=by
     have:=hd i vH qF;rwa [lE]at this
    rw[kg _ _ _ _ h1];refine H.rest d fun j hj hl=>?_
    by_cases cy:j=i
    ·
     subst cy;rw[lE];exact h1
    ·
     exact hd j hj (by rw[iD j cy];exact hl)
   have Ku:i∉E.map (·.1):=fun h=>by
    obtain⟨e,he,rfl⟩:=at7.1 h;have:=(H.qQ e he).2.1;rw[iZ]at this;cases this
   have Qh: ∀(v:Value),∀e∈E,Early l fs mk a0.tmps.size (f::r) (listed.setIfInBounds i true) (a.put o'.dst v) e:=fun v e he=>by
    obtain⟨g1,g2,g3,g4,oe,b,g5,g7,g8⟩:=H.qQ e he;have Db:e.1≠i:=fun e2=>Ku (e2▸atp he);refine⟨g1,by rw[iD _ Db];exact g2,g3,g4,oe,b,g5,g7,fun d hd=>?_⟩;have:=g8 d hd;unfold qa at this⊢;rw[kg _ _ _ _ (ux e.1 d (ad2.1 g5).1 (by simp[dV,g5,hd]) Db)];exact this
   by_cases Qi:i=f
   ·
    subst Qi;have kY: ∀j∈x,j∈pre:=fun j hj=>by
     have h1:=H.ord;rw[hx]at h1;have Da:=cA;rw[hx]at Da;have h2:x=pre:=Qd (h1▸Da) h1;rw[←h2];exact hj
    obtain⟨ee,ew⟩:=C9 bD.wR (Qg kY);obtain⟨of,rH,hl⟩:=H.zf;have:of=o':=by rw[ho]at rH;exact(asY rH).symm
    subst this;rw[if_pos qR]at hl;replace hl:=hl.2;have next: ∀v w' E' L' gR,E'=E->(∀e∈E,e.1∈r)->Mem w0 (E'.map (·.2)++L') w'->(∀w,Mem w0 L' w->Mem w0 gR w)->(∀w,Mem w0 gR w->Mem w0 Lq w)->(fs.contains (i+2000)=true\/fs.contains (i+5000)=true-> ∀w,Mem w0 L' w->Mem w0 L w)->sY P l fs mk Q w0 r (af.put of.dst v) L' gR->wpAny P .any l.toArray Q m (listed.setIfInBounds i true) (a.put of.dst v) w':=fun v w' E' L' gR zj zk g1 g2 g3 Qj g4=>by
     subst zj;refine F4 hB cA bc hG A1 m (pre++[i]) r (af.put of.dst v) L' gR E' _ _ w' ub ⟨by rw[H.ord];simp,H.inv.set hi vH,g1,fun e he=>?_,H.keys,g2,g4,by rw[tX];exact H.size,by rw[tX];exact H.rE,by rw[tY];exact H.defers,by rw[tY];exact H.ua,fun j hj ob=>?_,fun j hj hf=>?_,fun j hj ob=>?_,fun j d hj ob uw hd=>?_,F7 v,fun d hd=>?_⟩
     ·
      obtain⟨g1',ZP⟩:=Qh v e he;exact⟨zk e he,ZP⟩
     ·
      by_cases cy:j=i
      ·
       subst cy;exact .inl (by simp)
      ·
       exact(H.sub j hj (by rw[←iD j cy];exact ob)).imp_left fun h=>atA _ h
     ·
      rcases as8.1 hj with h|h
      ·
       by_cases cy:j=i
       ·
        subst cy;exact qF
       ·
        rw[iD j cy];exact H.fresh j h hf
      ·
       obtain rfl:=atG.1 h;exact qF
     ·
      rcases as8.1 hj with h|h
      ·
       have cy:j≠i:=fun e=>s0 (e▸h)
       cases zh:fs.contains (j+1000)with
       |true=>
        cases qS:fs.contains (i+2000)with
        |true=>
         have hp:=H.xx j h (by rw[←iD j cy];exact ob);rw[zh]at hp;simp only[if_true]at hp⊢;exact AZ hB cA bc H.ord ho h (Qj (.inl qS)) hp
        |false=>
         cases h5:fs.contains (i+5000)with
         |true=>
          have hp:=H.xx j h (by rw[←iD j cy];exact ob);rw[zh]at hp;simp only[if_true]at hp⊢;exact AZ hB cA bc H.ord ho h (Qj (.inr h5)) hp
         |false=>
          exfalso;obtain⟨oi,wT,F8,-⟩:=xw ord [] [] hB pre i r H.ord;have e1:oi=of:=by rw[ho]at wT;exact(asY wT).symm
          subst e1;have ZQ:=F8.tmp qR qS h5 j (by rw[atK,av5];exact h) zh;have iX:=Qe hB hG H.inv i oi ho rF j ZQ;have ZR:j∈ord:=by rw[H.ord];exact atA _ h
          have:=F3 (by have:=bc j ZR;omega) iX;rw[iD j cy]at ob;rw[this]at ob;cases ob
       |false=>
        have hp:=H.xx j h (by rw[←iD j cy];exact ob);rw[zh]at hp;simp only[atD,if_false]at hp⊢;exact AZ hB cA bc H.ord ho h g3 hp
      ·
       obtain rfl:=atG.1 h;rw[qF]at ob;cases ob
     ·
      rcases as8.1 uw with h|h
      ·
       have cy:j≠i:=fun e=>s0 (e▸h);rw[kg _ _ _ _ (ux j d hj hd cy),kg _ _ _ _ (ux j d hj hd cy)];rw[iD j cy]at ob;exact H.done j d hj ob h hd
      ·
       obtain rfl:=atG.1 h;rw[lE]at hd;rw[hd];have h3:qa a0.tmps.size d v (a.put (some d) v):=AX H.size;have h4:qa a0.tmps.size d v (af.put (some d) v):=AX H.rE;unfold qa at h3 h4;rw[h3,h4]
     ·
      have h1:of.dst≠some d:=by
       have:=hd i (by simp);rwa [lE]at this
      rw[kg _ _ _ _ h1];exact H.full d fun j hj=>hd j (atA _ hj)
    have zk: ∀e∈E,e.1∈r:=fun e he=>by
     have:=(H.qQ e he).1;exact(as2.1 this).resolve_left fun e2=>Ku (e2▸atp he)
    cases qS:fs.contains (i+2000)with
    |true=>
     rw[if_pos qS]at hl;obtain⟨hg,Kv,A0⟩:=hl;obtain⟨mx,w',gO,Kw⟩:=Kv w0 w (E.map (·.2)++L) H.mem;unfold wpOp;simp only[pX];rw[if_pos (by simp[Region.wanted,hg])];refine .inl ?_;unfold Oper.wp;rw[ee,gO];refine next _ _ E ((mk i).e mx::L) Lq rfl zk ?_ (fun w hw=>H.AY w (hw.sub (atO _ _))) (fun _ h=>h) (fun _ w hw=>hw.sub (atO _ _)) (A0 _);exact Kw.perm (avh.symm)
    |false=>
     rw[if_neg (by rw[qS];exact auf)]at hl;obtain⟨hg,gO,ZS⟩:=hl;have F9:E=[]\/ ∃x,E=[x]/\fs.contains (i+4000)=true:=by
      obtain⟨oi,wT,F8,ZT⟩:=xw ord [] [] hB pre i r H.ord;rcases ZT qR qS with h|⟨h4,h5⟩
      ·
       refine .inl (List.eq_nil_iff_forall_not_mem.2 fun e he=>?_);have h1:=h e.1 (zk e he);rw[(H.qQ e he).2.2.2.1]at h1;cases h1
      ·
       rcases zj:E with _|⟨x,_|⟨y,E'⟩⟩
       ·
        exact .inl rfl
       ·
        exact .inr ⟨x,rfl,h4⟩
       ·
        exfalso;have m1:x.1∈r.filter fun j=>fs.contains (j+2000):=atl.2 ⟨zk x (by rw[zj];simp),(H.qQ x (by rw[zj];simp)).2.2.2.1⟩;have m2:y.1∈r.filter fun j=>fs.contains (j+2000):=atl.2 ⟨zk y (by rw[zj];simp),(H.qQ y (by rw[zj];simp)).2.2.2.1⟩;have Qk:=H.keys;rw[zj]at Qk;have bM:x.1≠y.1:=fun e=>(avl.1 Qk).1 (by simp[e]);rcases eL:(r.filter fun j=>fs.contains (j+2000))with _|⟨z,_|⟨z2,fl⟩⟩
        ·
         rw[eL]at m1;cases m1
        ·
         rw[eL,atG]at m1 m2;exact bM (m1.trans m2.symm)
        ·
         rw[eL]at h5;simp at h5
     have h1:upon P w (fun v w'=> ∃L' gR,Mem w0 (E.map (·.2)++L') w'/\(∀w,Mem w0 L' w->Mem w0 gR w)/\(∀w,Mem w0 gR w->Mem w0 Lq w)/\(fs.contains (i+5000)=true-> ∀w,Mem w0 L' w->Mem w0 L w)/\sY P l fs mk Q w0 r (af.put of.dst v) L' gR) ((execOp af.eval of).run P w):=by
      have vI:=H.mem;rcases F9 with hE|⟨x,hE,h4⟩
      ·
       rw[hE]at vI⊢;exact gO w (by simpa using vI)
      ·
       rw[hE]at vI⊢;exact ZS h4 x.2 w (by simpa using vI)
     have Kx: ∀v w',(∃L' gR,Mem w0 (E.map (·.2)++L') w'/\(∀w,Mem w0 L' w->Mem w0 gR w)/\(∀w,Mem w0 gR w->Mem w0 Lq w)/\(fs.contains (i+5000)=true-> ∀w,Mem w0 L' w->Mem w0 L w)/\sY P l fs mk Q w0 r (af.put of.dst v) L' gR)->wpAny P .any l.toArray Q m (listed.setIfInBounds i true) (a.put of.dst v) w':=fun v w' ⟨L',gR,g1,g2,g3,g5,g4⟩=>
      next v w' E L' gR rfl zk g1 g2 g3 (fun h=>h.elim (fun h=>by rw[qS]at h;cases h) g5) g4
     unfold wpOp;simp only[pX];rw[if_pos (by rw[ew];exact hg)];refine .inl ?_;unfold Oper.wp;rw[ee];generalize(execOp af.eval of).run P w=r' at h1;unfold upon at h1;split at h1
     ·
      exact Kx _ _ h1
     ·
      exact Kx _ _ h1
     ·
      obtain⟨rfl,vo⟩:=h1;exact vo.mono fun e qE ⟨u,he,hR⟩=>by subst he;exact Kx u _ hR
     ·
      exact h1.elim
   ·
    have CJ:i∈r:=(as2.1 Ks).resolve_left Qi
    cases qS:fs.contains (i+2000)with
    |false=>
     exfalso;obtain⟨r1,r2,rfl⟩:=avx CJ;have qT:ord=(pre++f::r1)++i::r2:=by rw[H.ord];simp
     obtain⟨oi,wT,F8,-⟩:=xw ord [] [] hB _ i r2 qT;have e1:oi=o':=by rw[ho]at wT;exact(asY wT).symm
     subst e1;have Dd:=F8.ZD qS f (by
      rw[atK,av5,atl];exact⟨by simp,qR⟩)
     have eL:=Qe hB hG H.inv i oi ho rF f Dd;have sJ:f∈ord:=by rw[H.ord];simp
     rcases H.sub f (bc f sJ) (F3 (by have:=bc f sJ;omega) eL)with vl|vl
     ·
      have qc:=cA;rw[H.ord]at qc;exact(auK.1 qc).2.2 f vl f (by simp) rfl
     ·
      exact Dc vl
    |true=>
     obtain⟨of,rH,hl⟩:=H.zf;rw[if_pos qR]at hl;obtain⟨oa,Ql,ZU,Kv⟩:=hl.1 i CJ qS;have e1:oa=o':=by rw[ho]at Ql;exact(asY Ql).symm
     subst e1;have ZV: ∀t∈oa.looksAt l.toArray,a.tmps[t]? =af.tmps[t]? :=fun t ht=>by
      by_cases hw: ∃j,j<l.length/\dV l j=some t
      ·
       obtain⟨j,hj,hd⟩:=hw;obtain⟨_,e,he,hb,fV⟩:=bD.reads j t hj hd ht;have ob:=rF e he hb;rw[fV]at ob;have Qm:=F3 (by omega) ob;rcases H.sub j hj Qm with hp|hp
       ·
        exact H.done j t hj Qm hp hd
       ·
        obtain⟨e2,rR,rfl⟩:=at7.1 hp;have g3:=(H.qQ e2 rR).2.2.1;rw[bD.ZE qS e2.1 t hj hd ht]at g3;cases g3
      ·
       have h1: ∀j,j<l.length->dV l j≠some t:=fun j hj hd=>hw ⟨j,hj,hd⟩;rw[H.rest t fun j hj _=>h1 j hj,H.full t fun j hj=>h1 j (bc j (by rw[H.ord];exact atA _ hj))]
     obtain⟨ee,_⟩:=C9 bD.wR ZV;obtain⟨mx,w',gO,Kw⟩:=Kv w0 w (E.map (·.2)++L) H.mem;have kh:fs.contains i=true:=by
      cases kh:fs.contains i with
      |true=>rfl
      |false=>
       exfalso;obtain⟨r1,r2,rfl⟩:=avx CJ;exact absurd qS (by rw[A1 i vH kh];exact auf)
     unfold wpOp;simp only[pX];rw[if_pos (by simp[Region.wanted,ZU])];refine .inl ?_;unfold Oper.wp;rw[ee,gO];refine F4 hB cA bc hG A1 m pre (f::r) af L Lq ((i,(mk i).e mx)::E) _ _ _ ub ⟨H.ord,H.inv.set hi vH,Kw,fun e he=>?_,avl.2 ⟨Ku,H.keys⟩,H.AY,H.zf,by rw[tX];exact H.size,H.rE,by rw[tY];exact H.defers,H.ua,fun j hj hl=>?_,fun j hj hf=>?_,fun j hj hl=>?_,Kt _,F7 _,H.full⟩
     ·
      rcases as2.1 he with rfl|he
      ·
       exact⟨Ks,qF,kh,qS,oa,mx,ho,rfl,fun d hd=>by rw[hd];exact AX H.size⟩
      ·
       exact Qh _ e he
     ·
      by_cases cy:j=i
      ·
       subst cy;exact .inr (by simp)
      ·
       exact(H.sub j hj (by rw[←iD j cy];exact hl)).imp_right fun h=>atd _ h
     ·
      have cy:j≠i:=fun e=>s0 (e▸hj);rw[iD j cy];exact H.fresh j hj hf
     ·
      have cy:j≠i:=fun e=>s0 (e▸hj);exact H.xx j hj (by rw[←iD j cy];exact hl)
theorem Qn{id:Nat}{ro:Option Nat}[jA Q]{a:Act}{w:World}{L Lq:List aj}(A:List (List Nat))(ord:List Nat)(cA:qC l=true)(hm:P.follows .mixedOrders=true)(hB:FZ l fs A ord=true)(hC:Mem w0 L {w with drawn:=w.drawn+1})(nw: ∀w,Mem w0 L w->Mem w0 Lq w)
  (A1: ∀k,k<l.length->fs.contains k=false->fs.contains (k+2000)=false)
  (h:sY P l fs mk Q w0 ord a L Lq):(Code.region id l.toArray true).wpIn (iY ro) 0 P Q a w:=by
 simp only[FZ,anc,decide_eq_true_eq]at hB;obtain⟨⟨⟨h1,h2⟩,h3⟩,h4⟩:=hB;have hG: ∀j,j<l.length->j∈ord:=fun j hj=>by have:=atk.1 h1 j (aty.2 hj);simpa using this
 have bc: ∀j∈ord,j<l.length:=fun j hj=>by have:=atk.1 h3 j hj;simpa using this
 refine Jc cA hm ?_;have Jk:HeadInv .any l.toArray l.length (Array.replicate l.toArray.size false):=
  ⟨by simp,fun j oj _ hl=>(by rw[getD_replicate_false]at hl;cases hl),fun t h1 h2=>by simp at h2;omega⟩
 have iZ: ∀j,j<l.length->(Array.replicate l.toArray.size false).getD j true=false:=fun j hj=>by simp[hj]
 have ub:left l.length (Array.replicate l.toArray.size false)=l.length:=by
  unfold left;rw[List.filter_eq_self.2 (fun j hj=>?_),av0];rw[iZ j (aty.1 hj)];rfl
 have:=F4 (P:=P) (Q:=Q) (w0:=w0) (a0:=a) h4 h2 bc hG A1 l.length [] ord a L Lq [] (Array.replicate l.toArray.size false) a _ ub
  ⟨rfl,Jk,hC,fun e he=>(by cases he),List.nodup_nil,nw,h,rfl,rfl,rfl,rfl,fun j hj hl=>(by rw[iZ j hj]at hl;cases hl),fun j hj=>(by cases hj),fun j hj=>(by cases hj),fun j d hj hl=>(by rw[iZ j hj]at hl;cases hl),fun _ _=>rfl,fun _ _=>rfl⟩
 simpa using this
theorem ZW{id:Nat}{ro:Option Nat}[jA Q]{a:Act}{w:World}{L Lq:List aj}(A:List (List Nat))(ord:List Nat)(cA:qC l=true)(hm:P.follows .mixedOrders=true)(hB:FY l fs A ord=true)(hC:Mem w0 L {w with drawn:=w.drawn+1})(nw: ∀w,Mem w0 L w->Mem w0 Lq w)
  (h:sY P l fs mk Q w0 ord a L Lq):(Code.region id l.toArray true).wpIn (iY ro) 0 P Q a w:=by
 have h5: ∀k,fs.contains (k+2000)=false:=fun k=>by
  simp only[FY,anc]at hB
  cases hk:fs.contains (k+2000)with
  |false=>rfl
  |true=>
   have:=atk.1 hB.1.2 (k+2000) (by simpa using hk);have:=of_decide_eq_true this;omega
 refine Qn A ord cA hm ?_ hC nw (fun k _ _=>h5 k) h;simp only[FY,FZ,anc]at hB⊢;exact⟨hB.1.1,hB.2⟩
end
open Go.RowKit
section
variable {P:Program} {N:cc} {w0:World} {env:Env} {L R R1 R2:List aj} {Q:Exit->Act->World->Prop} {d:Option Tmp} {ty:TypeId} {ps:String} {af:Array Edge} {gd:Option (Nat×Bool)} {K:Value->List aj->Prop}
def iL(P:Program)(N:cc)(w0:World)(env:Env)(L:List aj)(o:Oper)(K:Value->List aj->Prop):Prop:=
 ∀a w,cO N env a->Mem w0 L w->upon P w (fun v w'=> ∃L',Mem w0 L' w'/\K v L') ((execOp a.eval o).run P w)
theorem xz{o:Oper}(h: ∀a w,cO N env a->Mem w0 L w-> ∃v w' L',(execOp a.eval o).run P w= .ok (.value v) w'/\Mem w0 L' w'/\K v L'):iL P N w0 env L o K:=fun a w ha hw=>by
 obtain⟨v,w',L',h1,h2,h3⟩:=h a w ha hw;rw[h1];exact⟨L',h2,h3⟩
theorem Ky{o:Oper}(h: ∀a w,cO N env a->Mem w0 L w-> ∃w' L',(execOp a.eval o).run P w= .ok .skip w'/\Mem w0 L' w'/\K undef L'):iL P N w0 env L o K:=fun a w ha hw=>by
 obtain⟨w',L',h1,h2,h3⟩:=h a w ha hw;rw[h1];exact⟨L',h2,h3⟩
theorem De{w:World}{R R':Value->World->Prop}(h: ∀v w,R v w->R' v w){r:Result Next}(hr:upon P w R r):upon P w R' r:=by
 unfold upon at hr⊢;split at hr
 ·
  exact h _ _ hr
 ·
  exact h _ _ hr
 ·
  exact⟨hr.1,hr.2.mono fun e qE ⟨v,he,hv⟩=>⟨v,he,h _ _ hv⟩⟩
 exact hr.elim
theorem Qo{o:Oper}{K':Value->List aj->Prop}(h:iL P N w0 env L o K')(hk: ∀v L',K' v L'-> ∃Ga,(∀w,Mem w0 L' w->Mem w0 Ga w)/\K v Ga):iL P N w0 env L o K:=fun a w ha hw=>
 De (fun v _ ⟨L',h1,h2⟩=>by obtain⟨Ga,h3,h4⟩:=hk v L' h2;exact⟨Ga,h3 _ h1,h4⟩) (h a w ha hw)
theorem qd{X:Type}{val:X->Value}{L':X->List aj}{pr:X->Prop}{pre:Prop}{f:FuncId}{xs:List Operand}{ts:Array TypeId}{vs:List Value}[hf:aI P f](hx:hH env xs=some vs)
  [hc:bQ P f w0 L vs X val L' pr pre] (hp:pre) (hk: ∀x,pr x->K (val x) (L' x)):
  iL P N w0 env L ⟨d, .call {callee:= .value (.func f),args:=xs.toArray,argTypes:=ts},ty,ps,af,gd⟩ K:=fun a w ha hw=>by
 rw[Fo hf w rfl,ha.hH hx];exact⟨rfl,(hc.h hp w hw).mono fun e w' ⟨x,he,kY,hm⟩=>⟨val x,he,L' x,hm,hk x kY⟩⟩
section
variable {α:Type} {enc:α->Array Value} {c:Nat} {s:Sv} {xs ys:List α}
theorem ZX{t:TypeId}{z:Value}[hz:eJ P t z](hk: ∀b,K ((.pointer (some ⟨b,0,none⟩))) ((aq b z.cells t::L))):
  iL P N w0 env L ⟨d, .alloc t,ty,ps,af,none⟩ K:=
 xz fun a w ha hw=>⟨_,_,_,by simp only[execOp,Instr.alloc,newVar,newRow,Sem.run_bind,Fl w hz,newObj,Sem.run,Result.andThen,Sem.run_pure];rfl,hw.alloc z.cells t,hk _⟩
theorem Qp{t:TypeId}{cs:Array Value}[hz:eJ P t (.agg cs)](hk: ∀b,K ((.pointer (some ⟨b,0,none⟩))) ((aq b cs t::L))):
  iL P N w0 env L ⟨d, .alloc t,ty,ps,af,none⟩ K:=ZX (z:= .agg cs) hk
theorem A2{t:TypeId}{x y:Operand}{i b o:Nat}{cs:Array Value}{T:TypeId}{v:Value}(hx:ev env x=some (.pointer (some ⟨b,o,none⟩)))(hy:ev env y=some v)[ht:fW P t][hh:Has L b cs T i](ho:o<cs.size)(hv:v.oneCell'=true){cs':Array Value}{L':List aj}(iE:cs.setIfInBounds o v=cs')[hu:fF L i (aq b cs' T) L'](hk:K undef (L')):
  iL P N w0 env L ⟨none, .store t x y,ty,ps,af,none⟩ K:=
 Ky fun a w ha hw=>by
  have hi:=hh.h;have hb:=hw.block hi;have hc:w.cell? ⟨b,o,none⟩=some cs[o]:=by rw[hw.cell hi];simp[ho]
  have hf:w.frozen? ⟨b,o,none⟩=false:=frozen_of_row w b o cs T hb;subst iE;refine⟨w.setCell ⟨b,o,none⟩ v,_,?_,?_,hk⟩
  ·
   have h1:(storeCells ⟨b,o,none⟩ [v]).run P w= .ok () (w.setCell ⟨b,o,none⟩ v):=by
    have:=run_storeCells_at (P:=P) b o T [v] 0 cs w hb (by simp;omega) (by simpa using hv);rw[this,setCell_eq_setRow w b o cs T (0,0) v hb];congr 2;apply avR;simp[List.set_eq_take_append_cons_drop,ho]
   have iE:v.cells= #[v]:=by cases v<;>simp_all[Value.oneCell',Value.cells]
   simp only[execOp,ha.ev hx,ha.ev hy,Instr.storeAt,Instr.sureAddr,storeVar,Sem.run_bind,Sem.run_pure,Result.andThen,l5 w ht.size,iE];simp[h1]
  ·
   rw[setCell_eq_setRow w b o cs T (0,0) v hb];rw[←hu.h];exact hw.setRow hi _
theorem Qq{t:TypeId}{x y:Operand}{i b o n:Nat}{cs vs:Array Value}{T:TypeId}(hx:ev env x=some (.pointer (some ⟨b,o,none⟩)))(hy:ev env y=some (.agg vs))[ht:fE P t n][hh:Has L b cs T i][hs:gk vs n](ho:o+n<=cs.size){cs':Array Value}{L':List aj}(iE:over cs o vs=cs')[hu:fF L i (aq b cs' T) L'](hk:K undef (L')):
  iL P N w0 env L ⟨none, .store t x y,ty,ps,af,none⟩ K:=
 Ky fun a w ha hw=>by
  have hi:=hh.h;have hn:=hs.h;have hv:=hs.one;have hb:=hw.block hi;subst iE;refine⟨_,_,?_,by rw[←hu.h];exact hw.setRow hi _,hk⟩;have h1:=run_storeCells_at (P:=P) b o T vs.toList 0 cs w hb (by simp;omega) (fun v l6=>(atM.1 hv) v (by simpa using l6));simp only[execOp,ha.ev hx,ha.ev hy,Instr.storeAt,Instr.sureAddr,storeVar,Value.cells,Sem.run_bind,Sem.run_pure,Result.andThen,l5 w ht.size,hn];simp[h1,over]
theorem rS{t:TypeId}{x y:Operand}{i b n:Nat}{cs vs:Array Value}{T:TypeId}(hx:ev env x=some (.pointer (some ⟨b,0,none⟩)))(hy:ev env y=some (.agg vs))[ht:fE P t n][hh:Has L b cs T i][hs:gk vs n][hc:gk cs n]{L':List aj}[hu:fF L i (aq b vs T) L'](hk:K undef (L')):
  iL P N w0 env L ⟨none, .store t x y,ty,ps,af,none⟩ K:=by
 have hn:=hs.h;have Yi:=hc.h;refine Qq hx hy (by omega) (?_:over cs 0 vs=vs) hk;apply avR;simp[over];omega
theorem ZY{x y:Operand}{tx gP e:TypeId}{i b o dl dc sl sc:Nat}{a:Addr}{cs vs:Array Value}{T:TypeId}(hx:ev env x=some (.slice (some ⟨b,o,none⟩) dl dc))(hy:ev env y=some (.slice (some a) sl sc))
  [ht:fw P tx e 1] [hh:Has L b cs T i] (hn:vs.size=Nat.min sl dl) (nz: ∀w,Mem w0 L w-> ∀j,j<vs.size->w.cell? (a.add j)=vs[j]?) (hv:vs.all (·.oneCell')=true) (ho:o+vs.size<=cs.size)
  {cs':Array Value} {L':List aj} (iE:over cs o vs=cs') [hu:fF L i (aq b cs' T) L'] (hk:K ((.int .i64 vs.size)) (L')):
  iL P N w0 env L ⟨d, .call {callee:= .builtin .copy,args:= #[x,y],argTypes:= #[tx,gP]},ty,ps,af,none⟩ K:=
 xz fun aa w ha hw=>by
  have hi:=hh.h;have hb:=hw.block hi;subst iE;have gO:=run_copy_row (P:=P) w tx gP ty e b o dl dc a sl sc cs T vs.toList ht.fa ht.size hb (by simpa using hn)
   (fun j v l6=>by
    have hj:j<vs.size:=by simpa using(ad2.1 l6).1
    rw[nz w hw j hj];simpa using l6) (by simpa using ho) (fun v l6=>(atM.1 hv) v (by simpa using l6))
  refine⟨_,w.setRow b (over cs o vs),_,?_,by rw[←hu.h];exact hw.setRow hi _,hk⟩;simp[execOp,ha.ev hx,ha.ev hy,resolve,invoke,builtin,gO,Result.andThen,goInt,over]
theorem ZZ{t tx e:TypeId}{x y:Operand}{yv:Value}{cL i:Nat}[ht:fH P t e c cL][he:bu enc c](hx:ev env x=some s.val)(hy:ev env y=some yv)[q:fI L s enc c xs i](hc:0<c)
  (hs: ∀w,Mem w0 L w->Src P c tx yv ys.length (aK enc ys) w) (hb:(xs.length+ys.length)*cL<=140737488355328) (jO:xs.length+ys.length<=140737488355328) {L':Sv->List aj} [hu: ∀s',fF L i (own enc c s' (xs++ys)) (L' s')]
  (hk: ∀s':Sv,s'.Ok->s'.len=(xs++ys).length->K (s'.val) ((L' s'))):
  iL P N w0 env L ⟨d, .call {callee:= .builtin .append,args:= #[x,y],argTypes:= #[t,tx]},ty,ps,af,none⟩ K:=
 xz fun a w ha hw=>by
  obtain⟨s',w',h1,h2,h3,h4⟩:=JL (ty:=ty) ht hc hw q.h (hs w hw) hb jO;refine⟨s'.val,w',L' s',?_,by rw[←(hu s').h];exact h4,hk s' h2 h3⟩;simp[execOp,ha.ev hx,ha.ev hy,resolve,invoke,builtin,h1,Result.andThen]
theorem Qr{t e:TypeId}{cL n:Nat}[ht:fH P t e c cL][he:bu enc c]{ops:List (Nat×Operand)}{vals:List Value}(xs:List α)(hx:kU env ops=some (idx vals 0))(hv:vals.map Value.cells=xs.map enc)(hn:xs.length=n)(hc:0<n*c)(vA:n*c<=16777216)
  (hk: ∀b,K ((Sv.val ⟨false,b,0,n,n,none⟩)) ((own enc c ⟨false,b,0,n,n,none⟩ xs::L))):
  iL P N w0 env L ⟨d, .buildSlice t n ops.toArray,ty,ps,af,none⟩ K:=
 xz fun a w ha hw=>by
  subst hn;have e1:(ops.toArray.map fun(p:Nat×Operand)=>match p with|(i,x)=>(i,a.eval x))=(idx vals 0).toArray:=by
   rw[←ha.kU hx];simp
  refine⟨_,_,_,?_,hw.call (yY (enc:=enc) (c:=c) (xs:=xs) (cs:=(aK enc xs).toArray) (e:=e) rfl xs.length xs.length rfl (as4 _) (JM hc vA) (by simp[iK]) fun i x hx j hj=>by rw[←oY (enc:=enc) xs i x hx j hj];simp),hk _⟩;simp only[execOp,e1,Sem.run_bind,JN ht hv hc vA w,Result.andThen,Sem.run_pure];rfl
theorem Qs{t e:TypeId}{cL n cap:Nat}{z:Value}{x y:Operand}{k k':IntKind}{ix iy:Int}[ht:fH P t e c cL][hz:eJ P e z](x0:α)(h0:enc x0=z.cells)(hx:ev env x=some (.int k ix))(hy:ev env y=some (.int k' iy))(ex:ix=(n:Int))(ey:iy=(cap:Int))(hle:n<=cap)(hb:cL*cap<=281474976710656)(jO:cap<=140737488355328)
  (hk: ∀b,K ((Sv.val ⟨false,b,0,n,cap,none⟩)) ((own enc c ⟨false,b,0,n,cap,none⟩ (List.replicate n x0)::L))):
  iL P N w0 env L ⟨d, .makeSlice t x y,ty,ps,af,none⟩ K:=
 xz fun a w ha hw=>by
  subst ex ey;obtain⟨w',h1,h2⟩:=JO ht hz (k:=k) (k':=k') (n:=n) x0 h0 hle hb jO w;exact⟨_,w',_,by simp only[execOp,ha.ev hx,ha.ev hy,Sem.run_bind,h1,Result.andThen,Sem.run_pure],hw.call h2,hk _⟩
theorem xA{t:TypeId}{x y:Operand}{i k j n p:Nat}{a a':α}{v:Value}(sz:(P.info? t).map (·.size)=some n)[he:bu enc c](hx:ev env x=some (.pointer (some ⟨s.b,p,none⟩)))(hy:ev env y=some v)[q:fI L s enc c xs i](fG:p=s.o+k*c+j)
  (ha:xs[k]? =some a) (hv:v.cells.all (·.oneCell')=true) (hn:v.cells.size=n) (hj:j+n<=c) (qM:over (enc a) j v.cells=enc a') {L':List aj} [hu:fF L i (own enc c s (xs.set k a')) L'] (hk:K undef (L')):
  iL P N w0 env L ⟨none, .store t x y,ty,ps,af,none⟩ K:=
 Ky fun aa w CW hw=>by
  subst fG hn;obtain⟨w',h1,h2⟩:=Pj (P:=P) hw q ha hv hj qM hu;refine⟨w',_,?_,h2,hk⟩;simp only[execOp,CW.ev hx,CW.ev hy,Instr.storeAt,Instr.sureAddr,storeVar,Sem.run_bind,Sem.run_pure,Result.andThen,l5 w sz];simp[h1]
theorem aaa{P:Program}{N:cc}{w0:World}{env:Env}{L:List aj}{ty:TypeId}{ps:String}{af:Array Edge}{τ:Type}{t:TypeId}{x y:Operand}{i k p:Nat}{s:Sv}{xs:List (Sl τ)}{a:Sl τ}(a':Sl τ)
  (sz:(P.info? t).map (·.size)=some 1) (hx:ev env x=some (.pointer (some ⟨s.b,p,none⟩))) (hy:ev env y=some a'.sv.val) [q:fI L s (cd (τ:=τ)) 1 xs i] (fG:p=s.o+k*1) (ha:xs[k]? =some a) {L':List aj} [hu:fF L i (own cd 1 s (xs.set k a')) L'] (hk:K undef (L')):
  iL P N w0 env L ⟨none, .store t x y,ty,ps,af,none⟩ K:=
 xA (j:=0) (a':=a') sz hx hy (q:=q) fG ha (by rw[Sv.jC];simp[Sv.one]) (by rw[Sv.jC];rfl) (by decide) (by rw[Sv.jC];rfl) hk
theorem aab{α:Type}{enc:α->Array Value}{x y:Operand}{tx gP e:TypeId}{i b o dl dc:Nat}{sv:Sv}{ys:List α}{cs:Array Value}{T:TypeId}(hx:ev env x=some (.slice (some ⟨b,o,none⟩) dl dc))(hy:ev env y=some sv.val)
  [ht:fw P tx e 1] [hh:Has L b cs T i] [q:Hd w0 L sv enc 1 ys] [he:bu enc 1] (h0:0<ys.length) (hl:ys.length<=dl) (ho:o+ys.length<=cs.size)
  {cs':Array Value} {L':List aj} (iE:over cs o (aK enc ys).toArray=cs') [hu:fF L i (aq b cs' T) L'] (hk:K ((.int .i64 (ys.length:Nat))) (L')):
  iL P N w0 env L ⟨d, .call {callee:= .builtin .copy,args:= #[x,y],argTypes:= #[tx,gP]},ty,ps,af,none⟩ K:=fun a w ha hw=>by
 have r:=q.h w hw;have hn:=r.some (i:=0) h0;have hlen:=r.len;rw[Sv.jc hn,r.ok.sp (by have:=r.ok.le;omega)]at hy;have hs:(aK enc ys).toArray.size=ys.length:=by rw[at1,iK,auL]
 have kC:=hk;rw[←hs]at kC;refine ZY (vs:=(aK enc ys).toArray) hx hy ?_ (fun w hw j hj=>?_) ?_ (by rw[hs];exact ho) iE kC a w ha hw
 ·
  rw[hs];simp only[Nat.min_def];split<;>omega
 ·
  rw[hs]at hj;have:=oY (enc:=enc) ys j ys[j] (by simp[hj]) 0 (by decide);have r2:=(q.h w hw).row j ys[j] (by simp[hj]) 0 (by decide);simp only[auL,atZ]at this r2;rw[Addr.ie,uf,r2,←this];simp
 ·
  rw[atM];intro v hv;exact xj (enc:=enc) ys v (by simpa using hv)
end
section
variable {τ:Type} [dp:Deep τ] {enc:τ->Array Value} {c:Nat}
end
theorem Qu{l:List Oper}{rest:List Oper}{o:Oper}(hg:o.guard=none)(hd:du N o.dst=true)(h:iL P N w0 env L o (fun v L'=>Sq P N w0 l Q rest (cB env o.dst v) L')):Sq P N w0 l Q (o::rest) env L:=fun a w ha hw=>by
 unfold wpList;rw[if_pos (qH hg)];refine .inl ?_;have h1:=h a w ha hw;unfold Oper.wp;generalize(execOp a.eval o).run P w=r at h1;unfold upon at h1;split at h1
 ·
  obtain⟨L',h2,h3⟩:=h1;exact h3 _ _ (ha.put hd _) h2
 ·
  obtain⟨L',h2,h3⟩:=h1;exact h3 _ _ (ha.put hd _) h2
 ·
  obtain⟨rfl,hc⟩:=h1;exact hc.mono fun e qE ⟨v,he,L',h2,h3⟩=>by subst he;exact h3 _ _ (ha.put hd _) h2
 exact h1.elim
end
section
variable {P:Program} {N:cc} {w0:World} {env:Env} {L Lq:List aj} {l:List Oper} {fs ord:List Nat} {mk:Nat->pd} {Q:Exit->Act->World->Prop} {k:Nat} {o:Oper}
def Ln(P:Program)(N:cc)(w0:World)(l:List Oper)(fs:List Nat)(mk:Nat->pd)(Q:Exit->Act->World->Prop)(ord:List Nat)(env:Env)(L Lq:List aj):Prop:= ∀a,cO N env a->sY P l fs mk Q w0 ord a L Lq
def Cert(P:Program)(N:cc)(env:Env)(l:List Oper)(fs:List Nat)(mk:Nat->pd)(ord:List Nat):Prop:=
 ∀i∈ord,fs.contains (i+2000)=true-> ∃oi,l[i]? =some oi/\oi.guard=none/\ ∀a,cO N env a->vE P oi a.eval (mk i)
theorem Cert.none(h:(ord.all fun i=> !fs.contains (i+2000))=true):Cert P N env l fs mk ord:=fun i hi hf=>by
 have:=atk.1 h i hi;rw[hf]at this;cases this
theorem Cert.one{i:Nat}{m:pd}(ho:l[i]? =some o)(hg:o.guard=Option.none)(hm:mk i=m)(h: ∀a,cO N env a->vE P o a.eval m)(hr:Cert P N env l fs mk (ord.filter fun j=> !(j==i))):Cert P N env l fs mk ord:=fun j hj hf=>by
 by_cases e:j=i
 ·
  subst e;exact⟨o,ho,hg,by rw[hm];exact h⟩
 exact hr j (atl.2 ⟨hj,by simpa using e⟩) hf
theorem Cert.at(h:Cert P N env l fs mk ord){a:Act}(ha:cO N env a): ∀i∈ord,fs.contains (i+2000)=true-> ∃oi,l[i]? =some oi/\oi.guard=Option.none/\vE P oi a.eval (mk i):=fun i hi hf=>by
 obtain⟨oi,h1,h2,h3⟩:=h i hi hf;exact⟨oi,h1,h2,h3 a ha⟩
theorem Qv(h:Ex N w0 Q .normal env L):Ln P N w0 l fs mk Q [] env L Lq:=fun a ha w hw=>h a w ha hw
theorem Qw{v:Value}(ho:l[k]? =some o)(hf:fs.contains k=false)(hd:du N o.dst=true)(h1: ∀a,cO N env a->Region.wanted o (yielded l.toArray a.tmps)=true->vm P o a (Mem w0 Lq) v)(h2: ∀a,cO N env a->Region.wanted o (yielded l.toArray a.tmps)=false->v=undef)
  (hk:Ln P N w0 l fs mk Q ord (cB env o.dst v) L Lq) (lI:fs.contains (k+1000)=false:=by rfl):Ln P N w0 l fs mk Q (k::ord) env L Lq:=fun a ha=>
 ⟨o,ho,by
  rw[if_neg (by rw[hf];exact auf)];exact⟨v,by rw[if_neg (by rw[lI];exact auf)];exact h1 a ha,h2 a ha,hk _ (ha.put hd v)⟩⟩
theorem aac{v:Value}(ho:l[k]? =some o)(h:Yl P N w0 env L o v)(hk:Ln P N w0 l fs mk Q ord (cB env o.dst v) L Lq)(hg:o.guard=none:=by rfl)(hd:du N o.dst=true:=by rfl)(hf:fs.contains k=false:=by rfl)(lI:fs.contains (k+1000)=true:=by rfl):Ln P N w0 l fs mk Q (k::ord) env L Lq:=fun a ha=>
 ⟨o,ho,by
  rw[if_neg (by rw[hf];exact auf)];exact⟨v,fun _=>by rw[if_pos lI];exact h a ha,(fun hw=>by rw[qH hg]at hw;cases hw),hk _ (ha.put hd v)⟩⟩
theorem lJ{v:Value}(ho:l[k]? =some o)(h:Ry P N w0 env L o v)(hk:Ln P N w0 l fs mk Q ord (cB env o.dst v) L Lq)(hg:o.guard=none:=by rfl)(hd:du N o.dst=true:=by rfl)(hf:fs.contains k=false:=by rfl)(lI:fs.contains (k+1000)=true:=by rfl):Ln P N w0 l fs mk Q (k::ord) env L Lq:=aac ho h.yl hk hg hd hf lI
theorem zl{v:Value}(ho:l[k]? =some o)(h:Yl P N w0 env Lq o v)(hk:Ln P N w0 l fs mk Q ord (cB env o.dst v) L Lq)(hg:o.guard=none:=by rfl)(hd:du N o.dst=true:=by rfl)(hf:fs.contains k=false:=by rfl)(lI:fs.contains (k+1000)=false:=by rfl):Ln P N w0 l fs mk Q (k::ord) env L Lq:=
 Qw (lI:=lI) ho hf hd (fun a ha _=>h a ha) (fun a ha hw=>by rw[qH hg]at hw;cases hw) hk
theorem an{v:Value}(ho:l[k]? =some o)(h:Ry P N w0 env Lq o v)(hk:Ln P N w0 l fs mk Q ord (cB env o.dst v) L Lq)(hg:o.guard=none:=by rfl)(hd:du N o.dst=true:=by rfl)(hf:fs.contains k=false:=by rfl)(lI:fs.contains (k+1000)=false:=by rfl):Ln P N w0 l fs mk Q (k::ord) env L Lq:=zl ho h.yl hk hg hd hf lI
theorem Qx{v:Value}{j t:Nat}{g:Bool}(ho:l[k]? =some o)(hg:o.guard=some (j,false))(hj:(l[j]?).bind (·.dst)=some t)(hv:look env t=some (.bool g))(h:(!g)=true->Yl P N w0 env Lq o v)
  (hk:Ln P N w0 l fs mk Q ord (cB env o.dst (if(!g)=true then v else undef)) L Lq) (hd:du N o.dst=true:=by rfl) (hf:fs.contains k=false:=by rfl) (lI:fs.contains (k+1000)=false:=by rfl):Ln P N w0 l fs mk Q (k::ord) env L Lq:=
 Qw (lI:=lI) ho hf hd (fun a ha hw=>by
  rw[yQ ha hg hj hv]at hw
  cases g
  ·
   exact h rfl a ha
  ·
   cases hw) (fun a ha hw=>by
  rw[yQ ha hg hj hv]at hw
  cases g
  ·
   cases hw
  ·
   rfl) hk
theorem aad(ho:l[k]? =some o)(h:iL P N w0 env L o fun v L'=> ∃gR,(∀w,Mem w0 L' w->Mem w0 gR w)/\(∀w,Mem w0 gR w->Mem w0 Lq w)/\Ln P N w0 l fs mk Q ord (cB env o.dst v) L' gR)(hg:o.guard=none:=by rfl)(hd:du N o.dst=true:=by rfl)(hf:fs.contains k=true:=by rfl)(uy:fs.contains (k+2000)=false:=by rfl)(A3:fs.contains (k+4000)=false:=by rfl)(vJ:fs.contains (k+5000)=false:=by rfl)(hC:Cert P N env l fs mk ord:=by exact Cert.none rfl):Ln P N w0 l fs mk Q (k::ord) env L Lq:=fun a ha=>
 ⟨o,ho,by
  rw[if_pos hf,if_neg (by rw[uy];exact auf)];exact⟨hC.at ha,qH hg,fun w hw=>De (fun v w' ⟨L',h1,gR,h2,h3,h4⟩=>⟨L',gR,h1,h2,h3,(fun h=>by rw[vJ]at h;cases h),h4 _ (ha.put hd v)⟩) (h a w ha hw),fun h=>by rw[A3]at h;cases h⟩⟩
theorem Qy(ho:l[k]? =some o)(h:iL P N w0 env L o fun v L'=>(∀w,Mem w0 L' w->Mem w0 Lq w)/\(∀w,Mem w0 L' w->Mem w0 L w)/\Ln P N w0 l fs mk Q ord (cB env o.dst v) L' Lq)(hg:o.guard=none:=by rfl)(hd:du N o.dst=true:=by rfl)(hf:fs.contains k=true:=by rfl)(uy:fs.contains (k+2000)=false:=by rfl)(A3:fs.contains (k+4000)=false:=by rfl)(hC:Cert P N env l fs mk ord:=by exact Cert.none rfl):Ln P N w0 l fs mk Q (k::ord) env L Lq:=fun a ha=>
 ⟨o,ho,by
  rw[if_pos hf,if_neg (by rw[uy];exact auf)];exact⟨hC.at ha,qH hg,fun w hw=>De (fun v w' ⟨L',h1,h2,h3,h4⟩=>⟨L',Lq,h1,h2,fun _ h=>h,(fun _=>h3),h4 _ (ha.put hd v)⟩) (h a w ha hw),fun h=>by rw[A3]at h;cases h⟩⟩
theorem aae(K:Value->List aj->Prop)(ho:l[k]? =some o)(h:iL P N w0 env L o K)(hF: ∀e,iL P N w0 env (e::L) o fun v L'=> ∃L1,(∀w,Mem w0 L' w->Mem w0 (e::L1) w)/\K v L1)(hk: ∀v L',K v L'->(∀w,Mem w0 L' w->Mem w0 Lq w)/\Ln P N w0 l fs mk Q ord (cB env o.dst v) L' Lq)(hC:Cert P N env l fs mk ord)(hg:o.guard=none:=by rfl)(hd:du N o.dst=true:=by rfl)(hf:fs.contains k=true:=by rfl)(uy:fs.contains (k+2000)=false:=by rfl)(vJ:fs.contains (k+5000)=false:=by rfl):Ln P N w0 l fs mk Q (k::ord) env L Lq:=fun a ha=>
 ⟨o,ho,by
  rw[if_pos hf,if_neg (by rw[uy];exact auf)];exact⟨hC.at ha,qH hg,fun w hw=>De (fun v w' ⟨L',h1,h2⟩=>⟨L',Lq,h1,(hk v L' h2).1,fun _ h=>h,(fun h=>by rw[vJ]at h;cases h),(hk v L' h2).2 _ (ha.put hd v)⟩) (h a w ha hw),fun _ e w hw=>De (fun v w' ⟨L',h1,L1,h2,h3⟩=>⟨L1,Lq,h2 _ h1,(hk v L1 h3).1,fun _ h=>h,(fun h=>by rw[vJ]at h;cases h),(hk v L1 h3).2 _ (ha.put hd v)⟩) (hF e a w ha hw)⟩⟩
theorem zm{X:Type}{val:X->Value}{L':X->List aj}{L2:aj->X->List aj}{pr:X->Prop}{pre:Prop}{f:FuncId}{xs:List Operand}{ts:Array TypeId}{vs:List Value}{d:Option Tmp}{ty:TypeId}{ps:String}{af:Array Edge}[hf:aI P f](ho:l[k]? =some ⟨d, .call {callee:= .value (.func f),args:=xs.toArray,argTypes:=ts},ty,ps,af,none⟩)(hx:hH env xs=some vs)
  [hc:bQ P f w0 L vs X val L' pr pre] [Kz: ∀e,bQ P f w0 (e::L) vs X val (L2 e) pr pre] (hp:pre) (hP: ∀e x w,Mem w0 (L2 e x) w->Mem w0 (e::L' x) w) (hC:Cert P N env l fs mk ord) (hk: ∀x,pr x->(∀w,Mem w0 (L' x) w->Mem w0 Lq w)/\Ln P N w0 l fs mk Q ord (cB env d (val x)) (L' x) Lq)
  (hd:du N d=true:=by rfl) (xB:fs.contains k=true:=by rfl) (uy:fs.contains (k+2000)=false:=by rfl) (vJ:fs.contains (k+5000)=false:=by rfl):Ln P N w0 l fs mk Q (k::ord) env L Lq:=
 aae (fun v L1=> ∃x,v=val x/\L1=L' x/\pr x) ho (qd hx hp fun x kY=>⟨x,rfl,rfl,kY⟩) (fun e=>Qo (qd (K:=fun v L1=> ∃x,v=val x/\L1=L2 e x/\pr x) hx hp fun x kY=>⟨x,rfl,rfl,kY⟩) fun v L1 ⟨x,h1,h2,h3⟩=>⟨L1,fun _ h=>h,L' x,fun w hw=>hP e x w (by rw[←h2];exact hw),x,h1,rfl,h3⟩)
  (fun v L1 ⟨x,h1,h2,h3⟩=>by subst h1;subst h2;exact hk x h3) hC rfl hd xB uy vJ
theorem uz{m:pd}(ho:l[k]? =some o)(hm:mk k=m)(h: ∀a,cO N env a->vE P o a.eval m)(hC:Cert P N env l fs mk ord)(hk: ∀x:m.X,Ln P N w0 l fs mk Q ord (cB env o.dst (m.v x)) (m.e x::L) Lq)(hg:o.guard=none:=by rfl)(hd:du N o.dst=true:=by rfl)(hf:fs.contains k=true:=by rfl)(lI:fs.contains (k+2000)=true:=by rfl):Ln P N w0 l fs mk Q (k::ord) env L Lq:=fun a ha=>by
 subst hm;refine⟨o,ho,?_⟩;rw[if_pos hf,if_pos lI];exact⟨hC.at ha,hg,h a ha,fun x=>hk x _ (ha.put hd _)⟩
theorem dS(ho:l[k]? =some o)(h:iL P N w0 env L o fun v L'=>(∀w,Mem w0 L' w->Mem w0 Lq w)/\Ln P N w0 l fs mk Q ord (cB env o.dst v) L' Lq)(hg:o.guard=none:=by rfl)(hd:du N o.dst=true:=by rfl)(hf:fs.contains k=true:=by rfl)(uy:fs.contains (k+2000)=false:=by rfl)(A3:fs.contains (k+4000)=false:=by rfl)(vJ:fs.contains (k+5000)=false:=by rfl)(hC:Cert P N env l fs mk ord:=by exact Cert.none rfl):Ln P N w0 l fs mk Q (k::ord) env L Lq:=
 aad (uy:=uy) (A3:=A3) (vJ:=vJ) (hC:=hC) ho (Qo h fun v L' ⟨h1,h2⟩=>⟨L',fun _ h=>h,Lq,h1,fun _ h=>h,h2⟩) hg hd hf
def KA:List (Nat×pd)->Nat->pd
 |[],_=>⟨Unit,fun _=>undef,fun _=> .emp⟩
 |(i,m)::r,k=>match Nat.beq i k with
  |true=>m
  |false=>KA r k
@[reducible] def pf (P:Program)(t:TypeId){z:Value}[_hz:eJ P t z]:pd:=⟨Nat,fun b=> .pointer (some ⟨b,0,none⟩),fun b=>aq b z.cells t⟩
theorem oc{t:TypeId}{z:Value}[hz:eJ P t z]{d:Option Tmp}{ty:TypeId}{ps:String}{af:Array Edge}{gd:Option (Nat×Bool)}: ∀a,cO N env a->vE P ⟨d, .alloc t,ty,ps,af,gd⟩ a.eval (pf P t):=fun a _ w0 w L hw=>by
 refine⟨w.heap.size,w.alloc (.cells z.cells t),?_,hw.alloc z.cells t⟩;simp only[execOp,Instr.alloc,newVar,newRow,Sem.run_bind,Fl w hz,newObj,Sem.run,Result.andThen,Sem.run_pure];rfl
@[reducible] def xC {α:Type}(enc:α->Array Value)(c n:Nat)(xs:List α):pd:=⟨Nat,fun b=>Sv.val ⟨false,b,0,n,n,none⟩,fun b=>own enc c ⟨false,b,0,n,n,none⟩ xs⟩
theorem Qz{α:Type}{enc:α->Array Value}{c:Nat}{t e:TypeId}{cL n:Nat}{d:Option Tmp}{ty:TypeId}{ps:String}{af:Array Edge}{gd:Option (Nat×Bool)}[ht:fH P t e c cL][he:bu enc c]{ops:List (Nat×Operand)}{vals:List Value}(xs:List α)(hx:kU env ops=some (idx vals 0))(hv:vals.map Value.cells=xs.map enc)(hn:xs.length=n)(hc:0<n*c)(vA:n*c<=16777216):
  ∀a,cO N env a->vE P ⟨d, .buildSlice t n ops.toArray,ty,ps,af,gd⟩ a.eval (xC enc c n xs):=fun a ha w0 w L hw=>by
 subst hn;have e1:(ops.toArray.map fun(p:Nat×Operand)=>match p with|(i,x)=>(i,a.eval x))=(idx vals 0).toArray:=by
  rw[←ha.kU hx];simp
 refine⟨w.heap.size,_,?_,hw.call (yY (enc:=enc) (c:=c) (xs:=xs) (cs:=(aK enc xs).toArray) (e:=e) rfl xs.length xs.length rfl (as4 _) (JM hc vA) (by simp[iK]) fun i x hx j hj=>by rw[←oY (enc:=enc) xs i x hx j hj];simp)⟩;simp only[execOp,e1,Sem.run_bind,JN ht hv hc vA w,Result.andThen,Sem.run_pure];rfl
theorem vK{id:Nat}[jA Q](fs:List Nat)(A:List (List Nat))(ord:List Nat)(Lq:List aj)(mk:List (Nat×pd))(Df:(fs.all fun j=>decide (j<2000)||decide (4000<=j)||fs.contains (j -2000))=true)(nw: ∀w,Mem w0 L w->Mem w0 Lq w)(hm:P.follows .mixedOrders=true)(hB:FZ l fs A ord=true)(h:Ln P N w0 l fs (KA mk) Q ord env L Lq)(bc:l.length<=1000:=by decide)(cA:qC l=true:=by kernel_rfl):Cw P N w0 Q (.region id l.toArray true) env L:=fun a _ ha hw=>by
 refine Qn A ord cA hm hB hw.E5 nw (fun k zg hk=>?_) (h a ha)
 cases h2:fs.contains (k+2000)with
 |false=>rfl
 |true=>
  have:=atk.1 Df (k+2000) (by simpa using h2);rw[aui,aui,decide_eq_true_eq,decide_eq_true_eq]at this;rcases this with(h|h)|h
  ·
   omega
  ·
   omega
  rw[Nat.add_sub_cancel,hk]at h;cases h
theorem jE{id:Nat}[jA Q](fs:List Nat)(A:List (List Nat))(ord:List Nat)(Lq:List aj)(nw: ∀w,Mem w0 L w->Mem w0 Lq w)(hm:P.follows .mixedOrders=true)(hB:FY l fs A ord=true)(h:Ln P N w0 l fs (KA []) Q ord env L Lq)(cA:qC l=true:=by kernel_rfl):Cw P N w0 Q (.region id l.toArray true) env L:=fun a _ ha hw=>
 ZW A ord cA hm hB hw.E5 nw (h a ha)
end
theorem Ry.n{P:Program}{N:cc}{w0:World}{env:Env}{L:List aj}{d:Option Tmp}{ty:TypeId}{ps:String}{af:Array Edge}{gd:Option (Nat×Bool)}{s:TypeId}{x:Operand}{fi off b o o':Nat}[hf:dG P s fi off](hx:ev env x=some (.pointer (some ⟨b,o,none⟩)))(ho:Nat.add o off=o':=by(simp only[avP,Nat.reduceAdd];exact rfl)):
  Ry P N w0 env L ⟨d, .fieldAddr s x fi,ty,ps,af,gd⟩ (.pointer (some ⟨b,o',none⟩)):=aL hx ho
theorem tS{P:Program}{N:cc}{w0:World}{l:List Oper}{Q:Exit->Act->World->Prop}{rest:List Oper}{env:Env}{L:List aj}{d:Option Tmp}{ty:TypeId}{ps:String}{af:Array Edge}(op:Op)(gd:Option (Nat×Bool))(h:Sq P N w0 l Q (⟨d,op,ty,ps,af,gd⟩::rest) env L):Sq P N w0 l Q (⟨d,op,ty,ps,af,gd⟩::rest) env L:=h
theorem tQ{P:Program}{N:cc}{w0:World}{l:List Oper}{fs:List Nat}{F:Act->Prop}{k:Nat}{rest:List Oper}{env:Env}{L:List aj}{d:Option Tmp}{ty:TypeId}{ps:String}{af:Array Edge}(op:Op)(gd:Option (Nat×Bool))(h:Qt P N w0 l fs F k (⟨d,op,ty,ps,af,gd⟩::rest) env L):Qt P N w0 l fs F k (⟨d,op,ty,ps,af,gd⟩::rest) env L:=h
structure Wr(p:Prop):Prop where
 h:p
theorem Gs{G G':Prop}(k:G')(h:Wr G'->G:=by
 intro k
 first
 |(with_reducible refine tS (.move _) none ?_);exact ag (aU rfl) k.h
 |(with_reducible refine tS (.assign _) none ?_);exact ag (eI rfl) k.h
 |(with_reducible refine tS (.fieldAddr _ _ _) none ?_);exact ag (Ry.n rfl) k.h
 |(with_reducible refine tS (.load _ _) none ?_);exact ag (bO rfl) k.h
 |(with_reducible refine tS (.load _ _) none ?_);exact ag (gE rfl) k.h
 |(with_reducible refine tS (.binOp .add _ _ _ _) none ?_);exact ag (sK rfl rfl (by omega)) k.h
 |(with_reducible refine tS (.binOp .sub _ _ _ _) none ?_);exact ag (vr rfl rfl (by omega)) k.h
 |(with_reducible refine tS (.pick _ _ _) none ?_);exact ag (wW rfl rfl rfl) k.h
 |(with_reducible refine tS (.pick _ _ _) none ?_);exact ag (wV rfl rfl rfl) k.h
 |(with_reducible refine tS (.unOp _ _ _) none ?_);exact ag (jM rfl) k.h
 |(with_reducible refine tS (.binOp _ _ _ _ _) none ?_);exact ag (dz rfl rfl rfl) k.h
 |(with_reducible refine tS (.nilCheck _) none ?_);exact ag (jR rfl) k.h
 |(with_reducible refine tS (.call _) none ?_);exact ag (qN rfl) k.h
 |(with_reducible refine tS (.store _ _ _) none ?_);exact xf rfl rfl k.h
 |(with_reducible refine tS (.call _) none ?_);exact eC (cl rfl trivial) k.h):G:=h ⟨k⟩
theorem Gq{G G':Prop}(k:G')(h:Wr G'->G:=by
 intro k
 first
 |(with_reducible refine tQ (.move _) none ?_);exact bE (aU rfl) k.h
 |(with_reducible refine tQ (.assign _) none ?_);exact bE (eI rfl) k.h
 |(with_reducible refine tQ (.fieldAddr _ _ _) none ?_);exact bE (Ry.n rfl) k.h
 |(with_reducible refine tQ (.load _ _) none ?_);exact bE (bO rfl) k.h
 |(with_reducible refine tQ (.load _ _) none ?_);exact bE (gE rfl) k.h
 |(with_reducible refine tQ (.binOp .add _ _ _ _) none ?_);exact bE (sK rfl rfl (by omega)) k.h
 |(with_reducible refine tQ (.binOp .sub _ _ _ _) none ?_);exact bE (vr rfl rfl (by omega)) k.h
 |(with_reducible refine tQ (.pick _ _ _) none ?_);exact bE (wW rfl rfl rfl) k.h
 |(with_reducible refine tQ (.pick _ _ _) none ?_);exact bE (wV rfl rfl rfl) k.h
 |(with_reducible refine tQ (.unOp _ _ _) none ?_);exact bE (jM rfl) k.h
 |(with_reducible refine tQ (.binOp _ _ _ _ _) none ?_);exact bE (dz rfl rfl rfl) k.h
 |(with_reducible refine tQ (.nilCheck _) none ?_);exact bE (jR rfl) k.h
 |(with_reducible refine tQ (.call _) none ?_);exact bE (qN rfl) k.h):G:=h ⟨k⟩
theorem Gg{G G':Prop}(k:G')(h:Wr G'->G:=by
 intro k
 first
 |(with_reducible refine tS (.move _) (some (_,false)) ?_);exact bn rfl rfl rfl (fun hg=>Ry.yl (aU rfl)) k.h
 |(with_reducible refine tS (.fieldAddr _ _ _) (some (_,false)) ?_);exact bn rfl rfl rfl (fun hg=>Ry.yl (Ry.n rfl)) k.h
 |(with_reducible refine tS (.load _ _) (some (_,false)) ?_);exact bn rfl rfl rfl (fun hg=>Ry.yl (bO (az hg rfl))) k.h
 |(with_reducible refine tS (.binOp _ _ _ _ _) (some (_,false)) ?_);exact bn rfl rfl rfl (fun hg=>Ry.yl (dz (az hg rfl) rfl rfl)) k.h
 |(with_reducible refine tS (.binOp _ _ _ _ _) (some (_,false)) ?_);exact bn rfl rfl rfl (fun hg=>Ry.yl (dz (az hg rfl) (az hg rfl) rfl)) k.h
 |(with_reducible refine tS (.call _) (some (_,false)) ?_);exact bn rfl rfl rfl (fun hg=>Ry.yl (qN (az hg rfl))) k.h
 |(with_reducible refine tS (.move _) (some (_,true)) ?_);exact gG rfl rfl rfl (fun hg=>Ry.yl (aU rfl)) k.h
 |(with_reducible refine tS (.fieldAddr _ _ _) (some (_,true)) ?_);exact gG rfl rfl rfl (fun hg=>Ry.yl (Ry.n rfl)) k.h
 |(with_reducible refine tS (.load _ _) (some (_,true)) ?_);exact gG rfl rfl rfl (fun hg=>Ry.yl (bO (az hg rfl))) k.h
 |(with_reducible refine tS (.binOp _ _ _ _ _) (some (_,true)) ?_);exact gG rfl rfl rfl (fun hg=>Ry.yl (dz (az hg rfl) rfl rfl)) k.h
 |(with_reducible refine tS (.binOp _ _ _ _ _) (some (_,true)) ?_);exact gG rfl rfl rfl (fun hg=>Ry.yl (dz (az hg rfl) (az hg rfl) rfl)) k.h
 |(with_reducible refine tS (.call _) (some (_,true)) ?_);exact gG rfl rfl rfl (fun hg=>Ry.yl (qN (az hg rfl))) k.h):G:=h ⟨k⟩
theorem Gh{G G':Prop}(k:G')(h:Wr G'->G:=by
 intro k
 first
 |(with_reducible refine tQ (.move _) (some (_,false)) ?_);exact eK rfl rfl rfl (fun hg=>Ry.yl (aU rfl)) k.h
 |(with_reducible refine tQ (.fieldAddr _ _ _) (some (_,false)) ?_);exact eK rfl rfl rfl (fun hg=>Ry.yl (Ry.n rfl)) k.h
 |(with_reducible refine tQ (.load _ _) (some (_,false)) ?_);exact eK rfl rfl rfl (fun hg=>Ry.yl (bO (az hg rfl))) k.h
 |(with_reducible refine tQ (.binOp _ _ _ _ _) (some (_,false)) ?_);exact eK rfl rfl rfl (fun hg=>Ry.yl (dz (az hg rfl) rfl rfl)) k.h
 |(with_reducible refine tQ (.binOp _ _ _ _ _) (some (_,false)) ?_);exact eK rfl rfl rfl (fun hg=>Ry.yl (dz (az hg rfl) (az hg rfl) rfl)) k.h
 |(with_reducible refine tQ (.call _) (some (_,false)) ?_);exact eK rfl rfl rfl (fun hg=>Ry.yl (qN (az hg rfl))) k.h
 |(with_reducible refine tQ (.move _) (some (_,true)) ?_);exact fO rfl rfl rfl (fun hg=>Ry.yl (aU rfl)) k.h
 |(with_reducible refine tQ (.fieldAddr _ _ _) (some (_,true)) ?_);exact fO rfl rfl rfl (fun hg=>Ry.yl (Ry.n rfl)) k.h
 |(with_reducible refine tQ (.load _ _) (some (_,true)) ?_);exact fO rfl rfl rfl (fun hg=>Ry.yl (bO (az hg rfl))) k.h
 |(with_reducible refine tQ (.binOp _ _ _ _ _) (some (_,true)) ?_);exact fO rfl rfl rfl (fun hg=>Ry.yl (dz (az hg rfl) rfl rfl)) k.h
 |(with_reducible refine tQ (.binOp _ _ _ _ _) (some (_,true)) ?_);exact fO rfl rfl rfl (fun hg=>Ry.yl (dz (az hg rfl) (az hg rfl) rfl)) k.h
 |(with_reducible refine tQ (.call _) (some (_,true)) ?_);exact fO rfl rfl rfl (fun hg=>Ry.yl (qN (az hg rfl))) k.h):G:=h ⟨k⟩
theorem tR{P:Program}{N:cc}{w0:World}{Q:Exit->Act->World->Prop}{env:Env}{L:List aj}{id:Nat}{l:Array Oper}(h:Cw P N w0 Q (.region id l false) env L):Cw P N w0 Q (.region id l false) env L:=h
theorem Gc{G G':Prop}(k:G')(h:Wr G'->G:=by
 intro k
 repeat (first
  |(with_reducible refine eE ?_)
  |(with_reducible refine dR ?_)
  |(with_reducible refine fc ?_)
  |(with_reducible refine sM ?_)
  |(with_reducible refine sN ?_)
  |(with_reducible refine yT ?_)
  |(with_reducible refine xh ?_)
  |(with_reducible refine ud ?_)
  |(with_reducible refine AG ?_)
  |(with_reducible refine CS ?_)
  |(with_reducible refine vw ?_)
  |(with_reducible refine CQ ?_)
  |(with_reducible refine Qv ?_)
  |(with_reducible refine Pa ?_)
  |(with_reducible refine tR ?_);refine fe ?_)
 exact k.h):G:=h ⟨k⟩
theorem Gi{G G':Prop}(k:G')(h:Wr G'->G:=by
 intro k
 first
  |(with_reducible refine eE ?_)
  |(with_reducible refine dR ?_)
  |(with_reducible refine fc ?_)
  |(with_reducible refine sM ?_)
  |(with_reducible refine sN ?_)
  |(with_reducible refine yT ?_)
  |(with_reducible refine xh ?_)
  |(with_reducible refine ud ?_)
  |(with_reducible refine AG ?_)
  |(with_reducible refine CS ?_)
  |(with_reducible refine vw ?_)
  |(with_reducible refine CQ ?_)
  |(with_reducible refine Qv ?_)
  |(with_reducible refine Pa ?_)
  |(with_reducible refine tR ?_);refine fe ?_
 exact k.h):G:=h ⟨k⟩
theorem bz{p q:Prop}(h:p)(e:p=q:=by(try simp only[Z0,Z1,Z2,Z3,Z4,Z5,Z6,Z7,Z8,Z9]);exact rfl):q:=e▸h
theorem tSn{P:Program}{N:cc}{w0:World}{l:List Oper}{Q:Exit->Act->World->Prop}{rest:List Oper}{env:Env}{L:List aj}{d:Option Tmp}{ty:TypeId}{ps:String}{af:Array Edge}{op:Op}(h:Sq P N w0 l Q (⟨d,op,ty,ps,af,none⟩::rest) env L):Sq P N w0 l Q (⟨d,op,ty,ps,af,none⟩::rest) env L:=h
theorem tSg{P:Program}{N:cc}{w0:World}{l:List Oper}{Q:Exit->Act->World->Prop}{rest:List Oper}{env:Env}{L:List aj}{d:Option Tmp}{ty:TypeId}{ps:String}{af:Array Edge}{op:Op}{g:Nat×Bool}(h:Sq P N w0 l Q (⟨d,op,ty,ps,af,some g⟩::rest) env L):Sq P N w0 l Q (⟨d,op,ty,ps,af,some g⟩::rest) env L:=h
theorem tQn{P:Program}{N:cc}{w0:World}{l:List Oper}{fs:List Nat}{F:Act->Prop}{k:Nat}{rest:List Oper}{env:Env}{L:List aj}{d:Option Tmp}{ty:TypeId}{ps:String}{af:Array Edge}{op:Op}(h:Qt P N w0 l fs F k (⟨d,op,ty,ps,af,none⟩::rest) env L):Qt P N w0 l fs F k (⟨d,op,ty,ps,af,none⟩::rest) env L:=h
theorem tQg{P:Program}{N:cc}{w0:World}{l:List Oper}{fs:List Nat}{F:Act->Prop}{k:Nat}{rest:List Oper}{env:Env}{L:List aj}{d:Option Tmp}{ty:TypeId}{ps:String}{af:Array Edge}{op:Op}{g:Nat×Bool}(h:Qt P N w0 l fs F k (⟨d,op,ty,ps,af,some g⟩::rest) env L):Qt P N w0 l fs F k (⟨d,op,ty,ps,af,some g⟩::rest) env L:=h
theorem Gz{G G':Prop}(k:G')(h:Wr G'->G:=by
 intro k
 first
 |(with_reducible refine tSn ?_);refine Gs ?_;exact k.h
 |(with_reducible refine tSg ?_);refine Gg ?_;exact k.h
 |(with_reducible refine tQn ?_);refine Gq ?_;exact k.h
 |(with_reducible refine tQg ?_);refine Gh ?_;exact k.h
 |refine Gc ?_;exact k.h):G:=h ⟨k⟩
theorem aA{G G':Prop}(k:G')(h:Wr G'->G:=by intro k;(iterate 2 (refine Gz ?_));exact k.h):G:=h ⟨k⟩
theorem al{G G':Prop}(k:G')(h:Wr G'->G:=by intro k;(iterate 3 (refine Gz ?_));exact k.h):G:=h ⟨k⟩
theorem av{G G':Prop}(k:G')(h:Wr G'->G:=by intro k;(iterate 4 (refine Gz ?_));exact k.h):G:=h ⟨k⟩
theorem aN{G G':Prop}(k:G')(h:Wr G'->G:=by intro k;(iterate 5 (refine Gz ?_));exact k.h):G:=h ⟨k⟩
theorem ba{G G':Prop}(k:G')(h:Wr G'->G:=by intro k;(iterate 6 (refine Gz ?_));exact k.h):G:=h ⟨k⟩
theorem dv{G G':Prop}(k:G')(h:Wr G'->G:=by intro k;(iterate 7 (refine Gz ?_));exact k.h):G:=h ⟨k⟩
theorem fk{G G':Prop}(k:G')(h:Wr G'->G:=by intro k;(iterate 8 (refine Gz ?_));exact k.h):G:=h ⟨k⟩
theorem iF{G G':Prop}(k:G')(h:Wr G'->G:=by intro k;(iterate 9 (refine Gz ?_));exact k.h):G:=h ⟨k⟩
theorem s8{G G':Prop}(k:G')(h:Wr G'->G:=by intro k;(iterate 10 (refine Gz ?_));exact k.h):G:=h ⟨k⟩
theorem qe{G G':Prop}(k:G')(h:Wr G'->G:=by intro k;(iterate 11 (refine Gz ?_));exact k.h):G:=h ⟨k⟩
theorem Dg{G G':Prop}(k:G')(h:Wr G'->G:=by intro k;(iterate 12 (refine Gz ?_));exact k.h):G:=h ⟨k⟩
theorem Gd{G G':Prop}(k:G')(h:Wr G'->G:=by intro k;(iterate 13 (refine Gz ?_));exact k.h):G:=h ⟨k⟩
theorem QA{G G':Prop}(k:G')(h:Wr G'->G:=by intro k;(iterate 14 (refine Gz ?_));exact k.h):G:=h ⟨k⟩
theorem aaf{G G':Prop}(k:G')(h:Wr G'->G:=by intro k;(iterate 15 (refine Gz ?_));exact k.h):G:=h ⟨k⟩
theorem KB{G G':Prop}(k:G')(h:Wr G'->G:=by intro k;(iterate 16 (refine Gz ?_));exact k.h):G:=h ⟨k⟩
theorem QB{G G':Prop}(k:G')(h:Wr G'->G:=by intro k;(iterate 17 (refine Gz ?_));exact k.h):G:=h ⟨k⟩
theorem QC{G G':Prop}(k:G')(h:Wr G'->G:=by intro k;(iterate 18 (refine Gz ?_));exact k.h):G:=h ⟨k⟩
theorem QD{G G':Prop}(k:G')(h:Wr G'->G:=by intro k;(iterate 19 (refine Gz ?_));exact k.h):G:=h ⟨k⟩
theorem aag{G G':Prop}(k:G')(h:Wr G'->G:=by intro k;(iterate 20 (refine Gz ?_));exact k.h):G:=h ⟨k⟩
theorem aah{G G':Prop}(k:G')(h:Wr G'->G:=by intro k;(iterate 21 (refine Gz ?_));exact k.h):G:=h ⟨k⟩
theorem aai{G G':Prop}(k:G')(h:Wr G'->G:=by intro k;(iterate 22 (refine Gz ?_));exact k.h):G:=h ⟨k⟩
theorem aaj{G G':Prop}(k:G')(h:Wr G'->G:=by intro k;(iterate 24 (refine Gz ?_));exact k.h):G:=h ⟨k⟩
theorem aak{G G':Prop}(k:G')(h:Wr G'->G:=by intro k;(iterate 27 (refine Gz ?_));exact k.h):G:=h ⟨k⟩
theorem aal{G G':Prop}(k:G')(h:Wr G'->G:=by intro k;(iterate 28 (refine Gz ?_));exact k.h):G:=h ⟨k⟩
theorem QE{G G':Prop}(k:G')(h:Wr G'->G:=by intro k;(iterate 29 (refine Gz ?_));exact k.h):G:=h ⟨k⟩
theorem aam{G G':Prop}(k:G')(h:Wr G'->G:=by intro k;(iterate 31 (refine Gz ?_));exact k.h):G:=h ⟨k⟩
theorem ij{G G':Prop}(k:G')(h:Wr G'->G:=by intro k;(iterate 2 (refine Gi ?_));exact k.h):G:=h ⟨k⟩
theorem kZ{G G':Prop}(k:G')(h:Wr G'->G:=by intro k;(iterate 3 (refine Gi ?_));exact k.h):G:=h ⟨k⟩
theorem KC{G G':Prop}(k:G')(h:Wr G'->G:=by intro k;(iterate 4 (refine Gi ?_));exact k.h):G:=h ⟨k⟩
theorem Gy5{G G':Prop}(k:G')(h:Wr G'->G:=by intro k;(iterate 5 (refine Gi ?_));exact k.h):G:=h ⟨k⟩
theorem od{G G':Prop}(k:G')(h:Wr G'->G:=by intro k;(iterate 6 (refine Gi ?_));exact k.h):G:=h ⟨k⟩
theorem Gy7{G G':Prop}(k:G')(h:Wr G'->G:=by intro k;(iterate 7 (refine Gi ?_));exact k.h):G:=h ⟨k⟩
theorem Gb{G p q A B:Prop}(a:p->A)(b:q->B)(h:Wr (p->A)->Wr (q->B)->G:=by
 intro a b;refine gn rfl (fun h=>?_) (fun h=>?_)
 ·
  exact a.h (bz h)
 exact b.h (bz h)):G:=h ⟨a⟩ ⟨b⟩
theorem Gr{P:Program}{fn:Func}{w0:World}{L:List aj}{env:Env}{R:Ending->World->Prop}{n:Nat}{e:Exit}{v:Value}(h: ∀w,Mem w0 L w->R (.returned v) w)(he:e= .ret\/e= .normal:=by exact .inl rfl)(hr: ∀a w,cO ⟨n,[],none⟩ env a->Mem w0 L w->(results fn a.tmps).run P w= .ok v w:=by
 first
 |exact y0 rfl (sO rfl)
 |exact JQ rfl (by first|exact sO rfl|exact xm rfl) (by first|exact sO rfl|exact xm rfl)
 |exact Ys rfl (by first|exact sO rfl|exact xm rfl) (by first|exact sO rfl|exact xm rfl) (by first|exact sO rfl|exact xm rfl)
 |exact y0 rfl (xm rfl)):Ex ⟨n,[],none⟩ w0 (qD P fn R) e env L:=eV he hr h
theorem Ge{a b:Bool}{w0 w1:World}{L M:List aj}[hk:ai L M](h:a=b)(hw:Mem w0 L w1):Ending.returned (.bool a)= .returned (.bool b)/\Mem w0 M w1:=⟨by rw[h],ai.mem hw⟩
theorem Gf{a b:Int}{k:IntKind}{w0 w1:World}{L M:List aj}[hk:ai L M](h:a=b)(hw:Mem w0 L w1):Ending.returned (.int k a)= .returned (.int k b)/\Mem w0 M w1:=⟨by rw[h],ai.mem hw⟩
theorem Gk{P:Program}{f:FuncId}{a:Array Value}{w0 w:World}{L:List aj}{X:Type}{val:X->Value}{pr:X->Prop}(E:X->List aj)(hw:Mem w0 L w)(h:Calls P f a w fun e w'=> ∃x,e= .returned (val x)/\pr x/\Mem w (E x) w'):Calls P f a w fun e w'=> ∃x,e= .returned (val x)/\pr x/\Mem w0 (E x++L) w':=h.mono fun e w' ⟨x,h1,h2,h3⟩=>⟨x,h1,h2,hw.call h3⟩
theorem sb{e e':Env}(h:Sub e e':=by repeat (first|exact Sub.nil _|refine Sub.cons rfl ?_)):Sub e e':=h
theorem oM{p:Prop}(h:p:=by omega):p:=h
theorem oF{p:Prop}(h:p:=by first|omega|(simp only[];omega)):p:=h
theorem oK{p:Prop}(h:p:=by kernel_rfl):p:=h
theorem Gl0{P:Program}{fn:Func}{R:Ending->World->Prop}{N:Nat}{f:FuncId}{c:Code}{w:World}(hf:P.funcs[f]? =some fn)(hb:fn.body=some c)(hN:fn.ntmps=N)(hle:Nat.ble 0 N=true)(h:Cw P ⟨N,[],none⟩ w (qD P fn R) c [] []):Calls P f #[] w R:=rL (args:=[]) hf hb hN hle h
theorem cD{P:Program}{fn:Func}{R:Ending->World->Prop}{N:Nat}{f:FuncId}{c:Code}{w:World}{v0:Value}(hf:P.funcs[f]? =some fn)(hb:fn.body=some c)(hN:fn.ntmps=N)(hle:Nat.ble 1 N=true)(h:Cw P ⟨N,[],none⟩ w (qD P fn R) c [(0,v0)] []):Calls P f #[v0] w R:=rL (args:=[v0]) hf hb hN hle h
theorem cQ{P:Program}{fn:Func}{R:Ending->World->Prop}{N:Nat}{f:FuncId}{c:Code}{w:World}{v0 v1:Value}(hf:P.funcs[f]? =some fn)(hb:fn.body=some c)(hN:fn.ntmps=N)(hle:Nat.ble 2 N=true)(h:Cw P ⟨N,[],none⟩ w (qD P fn R) c [(0,v0),(1,v1)] []):Calls P f #[v0,v1] w R:=rL (args:=[v0,v1]) hf hb hN hle h
theorem s9{P:Program}{fn:Func}{R:Ending->World->Prop}{N:Nat}{f:FuncId}{c:Code}{w:World}{v0 v1 v2:Value}(hf:P.funcs[f]? =some fn)(hb:fn.body=some c)(hN:fn.ntmps=N)(hle:Nat.ble 3 N=true)(h:Cw P ⟨N,[],none⟩ w (qD P fn R) c [(0,v0),(1,v1),(2,v2)] []):Calls P f #[v0,v1,v2] w R:=rL (args:=[v0,v1,v2]) hf hb hN hle h
theorem QF{P:Program}{fn:Func}{R:Ending->World->Prop}{N:Nat}{f:FuncId}{c:Code}{w:World}{v0 v1 v2 v3:Value}(hf:P.funcs[f]? =some fn)(hb:fn.body=some c)(hN:fn.ntmps=N)(hle:Nat.ble 4 N=true)(h:Cw P ⟨N,[],none⟩ w (qD P fn R) c [(0,v0),(1,v1),(2,v2),(3,v3)] []):Calls P f #[v0,v1,v2,v3] w R:=rL (args:=[v0,v1,v2,v3]) hf hb hN hle h
theorem Gl5{P:Program}{fn:Func}{R:Ending->World->Prop}{N:Nat}{f:FuncId}{c:Code}{w:World}{v0 v1 v2 v3 v4:Value}(hf:P.funcs[f]? =some fn)(hb:fn.body=some c)(hN:fn.ntmps=N)(hle:Nat.ble 5 N=true)(h:Cw P ⟨N,[],none⟩ w (qD P fn R) c [(0,v0),(1,v1),(2,v2),(3,v3),(4,v4)] []):Calls P f #[v0,v1,v2,v3,v4] w R:=rL (args:=[v0,v1,v2,v3,v4]) hf hb hN hle h
theorem A4{A X V:List Value}{o:Nat}(h:o=A.length):over (A++X).toArray o V.toArray=(A++(V++X.drop V.length)).toArray:=by
 subst h;unfold over;simp only[at1,ate];rw[List.take_left,List.drop_append];simp
section
variable {α:Type} {enc:α->Array Value} {c:Nat} {s:Sv} {xs:List α}
theorem zn(xs ys:List α):aK enc (xs++ys)=aK enc xs++aK enc ys:=by simp[aK]
theorem aan[he:bu enc c](hc:0<c){cs:Array Value}{o:Nat}(fj:o+xs.length*c<=cs.size)(hr: ∀i x,xs[i]? =some x-> ∀j,j<c->cs[o+i*c+j]? =(enc x)[j]?):
  cs=(cs.toList.take o++(aK enc xs++cs.toList.drop (o+xs.length*c))).toArray:=by
 have key:(cs.toList.drop o).take (xs.length*c)=aK enc xs:=by
  refine at5 fun k=>?_;rcases as3 k (xs.length*c)with hk|hk
  ·
   rw[List.getElem?_take_of_lt hk,aug,Array.getElem?_toList];have hd:k/c<xs.length:=avS (by rwa [aut]);have hm:=avc k hc;have e:k/c*c+k%c=k:=by rw[aut];exact avd k c
   have h1:=hr (k/c) xs[k/c] (by simp[hd]) (k%c) hm;have h2:=oY (enc:=enc) xs (k/c) xs[k/c] (by simp[hd]) (k%c) hm;rw[e]at h2;rw[h2,←h1];congr 1;omega
  ·
   rw[as7 (by simp;omega),as7 (by rw[iK];omega)]
 apply avR;simp only;rw[←key,←ate,show o+xs.length*c=o+xs.length*c from rfl,←au5,ate,atz,atz]
theorem KD{a b:Nat}(h:a<=b):a=Nat.min a b:=(avI h).symm
theorem aao{a b:Nat}(h:b<=a):b=Nat.min a b:=(Nat.min_eq_right h).symm
theorem aap[he:bu enc c](hc:1<c){w0 w:World}{L:List aj}{i:Nat}(hw:Mem w0 L w)(hi:L[i]? =some (own enc c s xs))(hn:s.nil=false):
  ∃pre mid T,pre.length=s.o/\s.o+s.cap*c<=pre.length+(xs.length*c+mid.length)/\s.sp=none/\s.Ok/\s.len=xs.length/\Mem w0 (L.set i (aq s.b (pre++(aK enc xs++mid)).toArray T)) w:=by
 obtain⟨r,oZ⟩:=hw.get hi;obtain⟨ig,cs,T,fz,fx,fj,nB,nW⟩:=oZ hn;obtain rfl:=nW hc;have hle:=r.ok.le;have hlen:=r.len;have hm:xs.length*c<=s.cap*c:=atm _ (by omega);have e:=aan (enc:=enc) (c:=c) (xs:=xs) (cs:=cs) (o:=s.o) (by omega) (by omega) fun i x hx j hj=>by
  rw[←r.row i x hx j hj];unfold oV;rw[fx]
 refine⟨cs.toList.take s.o,cs.toList.drop (s.o+xs.length*c),T,by simp;omega,by simp;omega,ig,r.ok,hlen,?_⟩;rw[←e];exact hw.change hi (fun k (hk:k=s.b)=>⟨hn,hk⟩) (fun _ _=>rfl) rfl ⟨rfl,rfl,rfl⟩ fx
theorem KE[he:bu enc c]{w0 w:World}{L:List aj}{i b:Nat}{pre mid:List Value}{T:TypeId}(hw:Mem w0 L w)(hi:L[i]? =some (aq b (pre++(aK enc xs++mid)).toArray T))(s':Sv)(bD:s'.Ok)(hn:s'.nil=false)(hb:s'.b=b)(ig:s'.sp=none)(ho:s'.o=pre.length)(hl:s'.len=xs.length)
  (yV:s'.o+s'.cap*c<=pre.length+(xs.length*c+mid.length)):Mem w0 (L.set i (own enc c s' xs)) w:=by
 subst hb;have fx:hp w s'.b=some (.cells (pre++(aK enc xs++mid)).toArray T (0,0)):=hw.block hi;refine hw.change hi (fun k hk=>hk.2) (fun _ _=>rfl) rfl ⟨rfl,rfl,rfl⟩ ⟨xk bD hl fx fun k y hy j hj=>?_,fun _=>⟨ig,_,_,_,fx,by simp[iK];omega,JE _,fun _=>rfl⟩⟩;have bc:k*c+j<(aK enc xs).length:=by
  rw[iK];have h1:=(ad2.1 hy).1
  calc k*c+j<k*c+c:=by omega
   _=(k+1)*c:=by rw[atB];omega
   _<=_:=atm _ h1
 rw[auj,ata (by omega),atb (by omega),←oY (enc:=enc) xs k y hy j hj];congr 1;omega
theorem Sv.xD{lo hi:Nat}(h:lo<s.cap):(s.sub c lo hi).o=s.o+lo*c:=by simp only[Sv.sub];rw[if_neg (by omega)]
theorem Sv.Dh{hi:Nat}:(s.sub c 0 hi).o=s.o:=by simp only[Sv.sub];split<;>simp
theorem Sv.sub_eq{hi:Nat}(hn:s.nil=false)(ig:s.sp= .none):s.sub c 0 hi=⟨false,s.b,s.o,hi,s.cap, .none⟩:=by
 have h0:=Sv.Dh (s:=s) (c:=c) (hi:=hi);obtain⟨sn,sb,so,sl,sc,ss⟩:=s;simp only[Sv.sub]at h0 hn ig⊢;subst hn ig;rw[h0];rfl
end
section
variable {P:Program} {N:cc} {w0:World} {env:Env} {L:List aj} {Q:Exit->Act->World->Prop} {l rest:List Oper} {d:Option Tmp} {ty:TypeId} {ps:String} {af:Array Edge} {gd:Option (Nat×Bool)} {K:Value->List aj->Prop}
variable {α:Type} {enc:α->Array Value} {c:Nat} {s:Sv} {xs:List α}
theorem aaq{w:World}{pre A mid:List Value}{T:TypeId}{b o:Nat}{L':List aj}(hw:Mem w0 (aq b (pre++(A++mid)).toArray T::L') w)(ho:pre.length=o){j:Nat}{u:Value}(hj:A[j]? =some u):w.cell? ⟨b,o+j,none⟩=some u:=by
 have iX:=(ad2.1 hj).1;have h0:(aq b (pre++(A++mid)).toArray T::L')[0]? =some (aq b (pre++(A++mid)).toArray T):=rfl;rw[hw.cell h0,auj,ata (by omega),atb (by omega),←hj];congr 1;omega
theorem QG{code:Code}[he:bu enc c]{i:Nat}(q:fI L s enc c xs i)(hc:1<c)(hn:0<xs.length){L':List Value->List Value->TypeId->List aj}[hu: ∀pre mid T,fF L i (aq s.b (pre++(aK enc xs++mid)).toArray T) (L' pre mid T)]
  (h: ∀pre mid T,pre.length=s.o->s.o+s.cap*c<=pre.length+(xs.length*c+mid.length)->s.nil=false->s.sp=none->s.Ok->s.len=xs.length->Cw P N w0 Q code env (L' pre mid T)):Cw P N w0 Q code env L:=fun a w ha hw=>by
 have ph:=(hw.get q.h).1.some hn;obtain⟨pre,mid,T,h1,h2,h3,h4,h5,h6⟩:=aap hc hw q.h ph;rw[(hu pre mid T).h]at h6;exact h pre mid T h1 h2 ph h3 h4 h5 a w ha h6
theorem Gj{code:Code}{i:Nat}(q:fI L s enc c xs i)(hn:0<xs.length)(h:s.nil=false->s.sp=none->s.Ok->s.len=xs.length->Cw P N w0 Q code env L):Cw P N w0 Q code env L:=fun a w ha hw=>by
 obtain⟨r,oZ⟩:=hw.get q.h;have ph:=r.some hn;exact h ph (oZ ph).1 r.ok r.len a w ha hw
theorem QH[he:bu enc c](hc:0<c){i:Nat}(q:fI L s enc c xs i){w:World}(hw:Mem w0 L w){j:Nat}{v:Value}(hj:(aK enc xs)[j]? =some v):w.cell? ⟨s.b,s.o+j,none⟩=some v:=by
 obtain⟨x,hx,hv⟩:=Fy hc hj;have r:=(hw.get q.h).1;rw[uf,←hv,←r.row _ x hx (j%c) (avc _ hc)];congr 1;have:=avd j c;rw[aut]at this;omega
theorem aar(w:World)(dT sT ty elem:TypeId)(b o QI aas:Nat)(a:Addr)(QJ aat n:Nat)(cur:Array Value)(t:TypeId)(vs:List Value)
  (hu:P.underlying dT=some (.slice elem)) (hs:(P.info? elem).map (·.size)=some c) (hg:w.heap[b]? =some (.cells cur t (0,0))) (hn:n=Nat.min QJ QI) (hv:vs.length=n*c)
  (nz: ∀j v,vs[j]? =some v->w.cell? (a.add j)=some v) (jB:o+vs.length<=cur.size) (h1: ∀v∈vs,v.oneCell'=true):
  (Builtin.copy_ #[dT,sT] ty #[.slice (some ⟨b,o,none⟩) QI aas, .slice (some a) QJ aat]).run P w= .ok (goInt n) (w.setRow b (over cur o vs.toArray)):=by
 have hl:=run_loadCells_list (P:=P) w a vs nz;have bq:=run_storeCells_at P b o t vs 0 cur w hg (by simpa using jB) h1;rw[hv]at hl
 cases hq:P.info? elem with
 |none=>simp[hq]at hs
 |some i=>
  have hi:i.size=c:=by simpa[hq]using hs
  simp[Builtin.copy_,run_underlying hu,Builtin.lenOf,Builtin.firstCells,sizeOf,typeInfo,hq,hi,←hn,hl,bq,over]
theorem Gl{D S:Sv}{x y:Operand}{tx gP e:TypeId}{i b o n:Nat}{cs:Array Value}{T:TypeId}{vs:List Value}(hx:ev env x=some D.val)(hy:ev env y=some S.val)
  (nF:D.nil=false) (pj:D.sp=none) (qU:D.b=b) (ta:D.o=o) (Di:S.nil=false) (Dj:S.sp=none) [ht:fw P tx e c] [hh:Has L b cs T i] (hn:n=Nat.min S.len D.len) (hv:vs.length=n*c)
  (nz: ∀w,Mem w0 L w-> ∀j v,vs[j]? =some v->w.cell? ⟨S.b,S.o+j,none⟩=some v) (h1: ∀v∈vs,v.oneCell'=true) (ho:o+vs.length<=cs.size) {cs':Array Value} {L':List aj} (iE:over cs o vs.toArray=cs') [hu:fF L i (aq b cs' T) L']
  (hk:Sq P N w0 l Q rest (cB env d (.int .i64 n)) L') (hd:du N d=true:=by rfl):
  Sq P N w0 l Q (⟨d, .call {callee:= .builtin .copy,args:= #[x,y],argTypes:= #[tx,gP]},ty,ps,af,none⟩::rest) env L:=
 oU rfl hd fun aa w ha hw=>by
  rw[Sv.jc nF,pj,qU,ta]at hx;rw[Sv.jc Di,Dj]at hy;have hb:=hw.block hh.h;have gO:=aar (P:=P) w tx gP ty e b o D.len D.cap ⟨S.b,S.o,none⟩ S.len S.cap n cs T vs ht.fa ht.size hb hn hv (fun j v hj=>by rw[Addr.ie];exact nz w hw j v hj) ho h1;refine⟨_,_,_,?_,by rw[←hu.h,←iE];exact hw.setRow hh.h _,hk⟩;simp[execOp,ha.ev hx,ha.ev hy,resolve,invoke,builtin,gO,Result.andThen,goInt]
theorem aau{D S:Sv}{x y:Operand}{tx gP e e':TypeId}{cL i b o n:Nat}{cs:Array Value}{T:TypeId}{vs:List Value}(hx:ev env x=some D.val)(hy:ev env y=some S.val)
  (nF:D.nil=false) (pj:D.sp=none) (qU:D.b=b) (ta:D.o+D.len*c=o) (Di:S.nil=false) (Dj:S.sp=none) [ht:fH P tx e c cL] (A5:P.underlying gP=some (.slice e')) [hh:Has L b cs T i] (hn:S.len=n) (hv:vs.length=n*c) (o8:D.len+n<=D.cap)
  (nz: ∀w,Mem w0 L w-> ∀j v,vs[j]? =some v->w.cell? ⟨S.b,S.o+j,none⟩=some v) (h1: ∀v∈vs,v.oneCell'=true) (ho:o+vs.length<=cs.size) {cs':Array Value} {L':List aj} (iE:over cs o vs.toArray=cs') [hu:fF L i (aq b cs' T) L']
  {R:Sv} (hR:R=⟨false,b,D.o,D.len+n,D.cap,none⟩) (hk:Sq P N w0 l Q rest (cB env d R.val) L') (hd:du N d=true:=by rfl):
  Sq P N w0 l Q (⟨d, .call {callee:= .builtin .append,args:= #[x,y],argTypes:= #[tx,gP]},ty,ps,af,none⟩::rest) env L:=
 oU rfl hd fun aa w ha hw=>by
  subst hR ta qU;rw[Sv.jc nF,pj]at hx;rw[Sv.jc Di,Dj,hn]at hy;have hb:=hw.block hh.h;obtain⟨i',z,bg,aH,bA,dj,nV⟩:=ht.info;have hs:=Src.ofSlice (P:=P) (size:=c) w A5 ⟨S.b,S.o,none⟩ n S.cap vs hv (fun j v hj=>by rw[Addr.ie];exact nz w hw j v hj) h1;have bq:=run_storeCells_at P D.b (D.o+D.len*c) T vs 0 cs w hb (by simpa using ho) h1;have gO:(Builtin.append_ #[tx,gP] ty #[.slice (some ⟨D.b,D.o,none⟩) D.len D.cap, .slice (some ⟨S.b,S.o,none⟩) n S.cap]).run P w= .ok (.slice (some ⟨D.b,D.o,none⟩) (D.len+n) D.cap) (w.setRow D.b (over cs (D.o+D.len*c) vs.toArray)):=by
   subst bA;rcases hs.kind with⟨e',hk⟩|hk<;>simp[Builtin.append_,run_underlying ht.fa,run_underlying hk,sizeOf,typeInfo,bg,hs.len,o8,hs.cells,Addr.ie,bq,over]
  refine⟨_,_,_,?_,by rw[←hu.h,←iE];exact hw.setRow hh.h _,hk⟩;simp[execOp,ha.ev hx,ha.ev hy,resolve,invoke,builtin,gO,Result.andThen,Sv.val]
theorem aav{D:Sv}{x y:Operand}{tx gP e:TypeId}{cL k:Nat}{z:Value}{olds:List Value}{kn kq:IntKind}{iy:Int}{p m:Nat}(hp:D.len=p)(hm:p+k=m)(hx:ev env x=some D.val)(hy:ev env y=some (.int kq iy))(og:iy=(k:Int))(h0:0<k)
  (nF:D.nil=false) (pj:D.sp=none) [ht:fH P tx e c cL] (hc:0<c) [hz:eJ P e z] (KF:P.underlying gP=some (.int kn)) (holds:olds.length=D.len*c) (nz: ∀w,Mem w0 L w-> ∀j v,olds[j]? =some v->w.cell? ⟨D.b,D.o+j,none⟩=some v)
  (hg:D.cap<D.len+k) (hb:(D.len+k)*cL<=140737488355328) (jO:D.len+k<=140737488355328)
  (hk: ∀(b C:Nat) (Z:List Value),m<=C->p*c+Z.length=C*c->Sq P N w0 l Q rest (cB env d (Sv.val ⟨false,b,0,m,C,none⟩)) (aq b (olds++Z).toArray e::L)) (hd:du N d=true:=by rfl):
  Sq P N w0 l Q (⟨d, .call {callee:= .builtin .append,args:= #[x,y],argTypes:= #[tx,gP]},ty,ps,af,none⟩::rest) env L:=
 oU rfl hd fun aa w ha hw=>by
  subst og hp hm;rw[Sv.jc nF,pj]at hx;obtain⟨i',z',bg,aH,bA,dj,nV⟩:=ht.info;subst bA dj;have yV:=nextslicecap_le hg;have jB:Builtin.nextslicecap (D.len+k) D.cap*i'.bytes<=281474976710656:=by
   have h2:Builtin.nextslicecap (D.len+k) D.cap*i'.bytes<=2*(D.len+k)*i'.bytes:=atm _ yV;rw[Nat.mul_assoc]at h2;omega
  have KG:k*i'.bytes<=281474976710656:=by
   have:k*i'.bytes<=(D.len+k)*i'.bytes:=atm _ (by omega);omega
  have hold:=run_firstCells_some (P:=P) w.drew i'.size D.len ⟨D.b,D.o,none⟩ D.len D.cap olds holds (fun j v hj=>by rw[Addr.ie];exact nz w hw j v hj);have gO:=Lib.run_append_grow_zeros (P:=P) w tx gP ty e i' z' kq kn ht.fa KF bg aH (some ⟨D.b,D.o,none⟩) D.len D.cap olds hold k h0 hc hg (by omega) KG jB;have uh:=grownCap_ge w (D.len+k) D.cap e;generalize grownCap w (D.len+k) D.cap e=C at gO uh;have Dk:=size_zeroCells z'.cells k;have Gm:=size_zeroCells z'.cells (C -(D.len+k));rw[nV]at Dk Gm;have hZ:D.len*i'.size+(Builtin.zeroCells z'.cells k++Builtin.zeroCells z'.cells (C -(D.len+k))).toList.length=C*i'.size:=by
   rw[au7,avN,Dk,Gm,←atB,←atB];congr 1;omega
  have e1:olds.toArray++Builtin.zeroCells z'.cells k++Builtin.zeroCells z'.cells (C -(D.len+k))=(olds++(Builtin.zeroCells z'.cells k++Builtin.zeroCells z'.cells (C -(D.len+k))).toList).toArray:=by apply avR;simp
  rw[e1]at gO;refine⟨_,_,_,?_,hw.drew.alloc _ e,hk w.heap.size C _ uh hZ⟩;simp[execOp,ha.ev hx,ha.ev hy,resolve,invoke,builtin,gO,Result.andThen,Sv.val]
theorem aaw{D:Sv}{x:Operand}{tx e:TypeId}{cL i b o n:Nat}{z:Value}{cs:Array Value}{T:TypeId}(hx:ev env x=some D.val)(nF:D.nil=false)(pj:D.sp=none)(qU:D.b=b)(ta:D.o=o)(hn:D.len=n)(h0:0<n)[ht:fH P tx e c cL][hz:eJ P e z](h1:z.cells.all (·.oneCell')=true)[hh:Has L b cs T i](ho:o+n*c<=cs.size)
  {L':List Value->List aj} [hu: ∀Z,fF L i (aq b (over cs o Z.toArray) T) (L' Z)] (hk: ∀Z:List Value,Z.length=n*c->Sq P N w0 l Q rest env (L' Z)):
  Sq P N w0 l Q (⟨none, .call {callee:= .builtin .clear,args:= #[x],argTypes:= #[tx]},ty,ps,af,none⟩::rest) env L:=
 oU rfl rfl fun aa w ha hw=>by
  rw[Sv.jc nF,pj,qU,ta,hn]at hx;have hb:=hw.block hh.h;obtain⟨i',z',bg,aH,bA,dj,nV⟩:=ht.info;obtain rfl:z'=z:=by
   have:=hz.zero;rw[bg,atJ,aH]at this;exact asY (asY this)
  subst bA;have hZ:=size_zeroCells z'.cells n;rw[nV]at hZ;have ux: ∀v∈(Builtin.zeroCells z'.cells n).toList,v.oneCell'=true:=fun v hv=>by
   simp only[Builtin.zeroCells,Array.toList_map,at7]at hv;obtain⟨j,hj,rfl⟩:=hv;have rT:0<z'.cells.size:=by
    rcases auy z'.cells.size with h|h
    ·
     rw[h]at hj;simp at hj
    ·
     exact h
   rw[getElem!_pos z'.cells _ (avc _ rT)];exact(atM.1 h1) _ (Array.getElem_mem _)
  have bq:=run_storeCells_at P b o T (Builtin.zeroCells z'.cells n).toList 0 cs w hb (by simp[hZ];omega) ux;have gO:(Builtin.clear_ #[tx] ty #[.slice (some ⟨b,o,none⟩) n D.cap]).run P w= .ok (.tuple #[]) (w.setRow b (over cs o (Builtin.zeroCells z'.cells n))):=by
   obtain⟨m,rfl⟩: ∃m,n=m+1:=⟨n -1,by omega⟩;simp[Builtin.clear_,run_underlying ht.fa,zeroValue,typeInfo,bg,aH,bq,over]
  refine⟨.tuple #[],w.setRow b (over cs o (Builtin.zeroCells z'.cells n)),L' (Builtin.zeroCells z'.cells n).toList,?_,?_,hk _ (by rw[au7,hZ])⟩
  ·
   simp[execOp,ha.ev hx,resolve,invoke,builtin,gO,Result.andThen]
  ·
   have h9:=hw.setRow hh.h (over cs o (Builtin.zeroCells z'.cells n));rw[←(hu _).h];simpa using h9
def Sv.top(s:Sv)(m:Nat):Sv:=⟨s.nil,s.b,s.o,s.len,m,s.sp⟩
theorem QK{t e:TypeId}{x lo hi mx:Operand}{l h m:Nat}{k k' QL:IntKind}{il ih im:Int}[ht:fw P t e c](hx:ev env x=some s.val)[q:Hd w0 L s enc c xs](hl:ev env lo=some (.int k il))(hh:ev env hi=some (.int k' ih))(hm:ev env mx=some (.int QL im))(el:il=(l:Int))(eh:ih=(h:Int))(em:im=(m:Int))(h1:l<=h)(h2:h<=m)(h3:m<=xs.length):
  Ry P N w0 env L ⟨d, .slice t x (some lo) (some hi) (some mx),ty,ps,af,gd⟩ ((s.top m).sub c l h).val:=fun a w ha hw=>by
 subst el eh em;have r:=q.h w hw;have hs:=r.ok;have hlen:=r.len;have hle:=hs.le;have ee:=AH ht.fa;have hu:P.underlying t=some (.slice (P.elem t)):=by rw[ee];exact ht.fa
 obtain⟨ad,len,cap,oW⟩:=s.ex;have e3:len=s.len/\cap=s.cap/\sliced ad l h m c=((s.top m).sub c l h).val:=by
  cases hn:s.nil with
  |true=>
   rw[Sv.ue hn]at oW;obtain⟨rfl,rfl,rfl⟩:=by simpa using oW
   have:=hs.nil hn;have e2:((s.top m).sub c l h).nil=true:=hn;rw[Sv.ue e2];have:l=0:=by omega
   have:h=0:=by omega
   have:m=0:=by omega
   subst l h m;exact⟨by omega,by omega,by simp[sliced]⟩
  |false=>
   rw[Sv.jc hn]at oW;obtain⟨rfl,rfl,rfl⟩:=by simpa using oW
   have e2:((s.top m).sub c l h).nil=false:=hn;rw[Sv.jc e2];refine⟨rfl,rfl,?_⟩;simp only[sliced,Sv.sub,Sv.top]
   by_cases hc:m=l
   ·
    simp[hc]
   ·
    have ig:=hs.sp (by omega);simp[hc,ig,Addr.ie]
 obtain⟨e1,e2,e3⟩:=e3;have hr:=run_slice_lhm (P:=P) (w:=w) t ad len cap hu k k' QL (l:Int) (h:Int) (m:Int) (by omega) (by omega) (by omega) (by omega);rw[ee,l5 w ht.size]at hr;simp only[Result.andThen,at4,e3]at hr;simp only[execOp,ha.ev hx,ha.ev hl,ha.ev hh,ha.ev hm,oW,atJ,run_sliceAt_slice (h:=hu),hr,Sem.run_bind,Result.andThen,Sem.run_pure]
theorem aax{t e:TypeId}{x:Operand}{m n:Nat}[ht:fw P t e m](hx:ev env x=some s.val)(ph:s.nil=false)(hn:s.cap=n):
  Ry P N w0 env L ⟨d, .call {callee:= .builtin .cap,args:= #[x],argTypes:= #[t]},ty,ps,af,gd⟩ (.int .i64 n):=fun a w ha _=>by
 subst hn;rw[Sv.jc ph]at hx;have hu:P.underlying t=some (.slice (P.elem t)):=by rw[AH ht.fa];exact ht.fa
 have:=run_cap_slice (P:=P) (w:=w) t ty (some ⟨s.b,s.o,s.sp⟩) s.len s.cap hu;simp[execOp,ha.ev hx,resolve,invoke,builtin,this,Result.andThen,goInt]
class QM(P:Program)(f:FuncId)(tS tR:outParam TypeId):Prop where
 fn: ∃fn,P.funcs[f]? =some fn∧(fn.name== "runtime.NumGoroutine")=false∧fn.body.isNone=true∧Extern.findNext fn=none∧Extern.find fn=some (Extern.SlicesOverlaps.overlaps #[tS,tS] #[tR])
theorem Mem.apart{w:World}{i j k:Nat}{e e':aj}(h:Mem w0 L w)(hi:L[i]? =some e)(hj:L[j]? =some e')(mJ:i≠j)(hk:e.fp k): ¬e'.fp k:=by
 obtain⟨gi,rfl⟩:=ad2.1 hi;obtain⟨gj,rfl⟩:=ad2.1 hj;have hd:=atV.1 h.pW;rcases avX mJ with h1|h1
 ·
  exact hd i j gi gj h1 k hk
 exact fun h2=>hd j i gj gi h1 k h2 hk
theorem aay{V D:Sv}{x y:Operand}{f:FuncId}{ts:Array TypeId}{tS tR e T:TypeId}{i j b:Nat}{cs:Array Value}(hx:ev env x=some V.val)(hy:ev env y=some D.val)[hf:QM P f tS tR][ht:fw P tS e c](hc:1<c)[q:fI L V enc c xs i](hv:0<xs.length)[hh:Has L b cs T j](nF:D.nil=false)(pj:D.sp=none)(qU:D.b=b)(iE:0<cs.size)(mJ:i≠j:=by decide):
  Ry P N w0 env L ⟨d, .call {callee:= .value (.func f),args:= #[x,y],argTypes:=ts},ty,ps,af,gd⟩ (.bool false):=fun a w ha hw=>by
 obtain⟨r,oZ⟩:=hw.get q.h;have KH:=r.some hv;obtain⟨hVs,cv,Tv,fz,fx,fj,nB,nW⟩:=oZ KH;obtain rfl:=nW hc;have hb:=hw.block hh.h;have bM:V.b≠b:=fun e0=>hw.apart q.h hh.h mJ (k:=V.b) ⟨KH,rfl⟩ e0;subst qU;rw[Sv.jc KH,hVs]at hx;rw[Sv.jc nF,pj]at hy;obtain⟨fn,h1,h2,h3,h4,h5⟩:=hf.fn;have gO:=Lib.run_overlaps_apart (P:=P) w tS tR e ht.fa c (fun w=>l5 w ht.size) ⟨V.b,V.o,none⟩ ⟨D.b,D.o,none⟩ V.len V.cap D.len D.cap bM Tv T cv.size cs.size (by simp[World.shape?,fx]) (by simp[World.shape?,hb]) (by omega) (by simp[World.frozen?,fx]) (by simp[World.frozen?,fx]);have QN:=run_callFunc_extern (P:=P) h1 h2 h3 h4 h5 #[.slice (some ⟨V.b,V.o,none⟩) V.len V.cap, .slice (some ⟨D.b,D.o,none⟩) D.len D.cap] w;rw[gO]at QN;have e1:a.eval (.func f)= .func (.func f) #[] #[]:=rfl;simp[execOp,ha.ev hx,ha.ev hy,resolve,e1,Deferred.ofValue,invoke,QN,Result.andThen]
end
end Go.ax
namespace Go.Kb
def aaz:Nat:=3988292384
def KI(n:Nat):Nat:=(n/2)^^^(if n%2=1 then aaz else 0)
theorem aaA{n:Nat}(h:n<2^32):KI n<2^32:=by
 refine avg (by omega) ?_;split
 ·
  decide
 decide
def pn(n:Nat):Nat->Nat
 |0=>n
 |k+1=>KI (pn n k)
theorem KJ{n:Nat}(h:n<2^32): ∀k,pn n k<2^32
 |0=>h
 |k+1=>aaA (KJ h k)
def KK(n:Nat)(b:UInt8):Nat:=pn (n^^^b.toNat) 8
theorem aaB{n:Nat}{b:UInt8}(h:n<2^32):KK n b<2^32:=KJ (avg h (by have:=b.toNat_lt;omega)) 8
def k7(n:Nat)(l:List UInt8):Nat:=l.foldl KK n
theorem Gn{n:Nat}(h:n<2^32): ∀l,k7 n l<2^32
 |[]=>h
 |b::l=>Gn (aaB h) l
theorem aaC{n:Nat}{l:List UInt8}{i:Nat}{b:UInt8}(h:l[i]? =some b):k7 n (l.take (i+1))=KK (k7 n (l.take i)) b:=by
 rw[atf,h,k7,k7,avz];rfl
def po(l:List UInt8):Nat:=4294967295 -k7 4294967295 l
theorem KL(l:List UInt8):po l<2^32:=by unfold po;omega
end Go.Kb
namespace Go.ax
open Go.RowKit
section
variable {α:Type} {enc:α->Array Value} {c:Nat} {s:Sv} {xs:List α}
theorem Mem.QO{w0 w:World}{L:List aj}{i k:Nat}(hw:Mem w0 L w)(hi:L[i]? =some (own enc c s xs))(hk:k<=xs.length):Mem w0 (L.set i (own enc c (s.sub c 0 k) (xs.take k))) w:=by
 obtain⟨r,oZ⟩:=hw.get hi;have r2:=r.sub (lo:=0) (hi:=k) (atv _) hk;rw[auu,Nat.sub_zero]at r2;refine hw.change hi (fun k hk=>hk) (fun _ _=>rfl) rfl ⟨rfl,rfl,rfl⟩ ⟨r2,fun hn=>?_⟩;obtain⟨h1,cs,T,fz,h2,h3,h4,h5⟩:=oZ hn;refine⟨h1,cs,T,fz,h2,?_,h4,h5⟩;rw[Sv.Dh];exact h3
end
section
variable {P:Program} {N:cc} {w0:World} {env:Env} {L:List aj} {Q:Exit->Act->World->Prop} {l rest:List Oper} {d:Option Tmp} {ty:TypeId} {ps:String} {af:Array Edge} {gd:Option (Nat×Bool)}
variable {α:Type} {enc:α->Array Value} {c:Nat} {xs:List α}
theorem QP{x y:Operand}{tx gP e:TypeId}{cL k:Nat}{z:Value}{kn kq:IntKind}{iy:Int}(x0:α)(hx:ev env x=some (.slice none 0 0))(hy:ev env y=some (.int kq iy))(og:iy=(k:Int))(h0:0<k)
  [ht:fH P tx e c cL] [he:bu enc c] (hc:0<c) [hz:eJ P e z] (QQ:enc x0=z.cells) (KF:P.underlying gP=some (.int kn)) (hb:k*cL<=140737488355328) (jO:k<=140737488355328)
  (hk: ∀b C:Nat,k<=C->Sq P N w0 l Q rest (cB env d (Sv.val ⟨false,b,0,k,C,none⟩)) (own enc c ⟨false,b,0,k,C,none⟩ (List.replicate k x0)::L)) (hd:du N d=true:=by rfl):
  Sq P N w0 l Q (⟨d, .call {callee:= .builtin .append,args:= #[x,y],argTypes:= #[tx,gP]},ty,ps,af,none⟩::rest) env L:=
 oU rfl hd fun aa w ha hw=>by
  subst og;obtain⟨i',z',bg,aH,bA,dj,nV⟩:=ht.info;obtain rfl:z'=z:=by
   have:=hz.zero;rw[bg,atJ,aH]at this;exact asY (asY this)
  subst bA dj;have gO:=Lib.run_append_nil_zeros (P:=P) w tx gP ty e i' z' kq kn ht.fa KF bg aH k h0 hc (by omega) (by omega);have uh:=grownCap_ge w k 0 e;generalize grownCap w k 0 e=C at gO uh;have Dk:=size_zeroCells z'.cells k;have Gm:=size_zeroCells z'.cells (C -k);have aaD: ∀m i j,i<m->j<i'.size->(Builtin.zeroCells z'.cells m)[i*i'.size+j]? =z'.cells[j]? :=fun m i j hi hj=>by
   have bc:i*i'.size+j<m*z'.cells.size:=by
    rw[nV];have:(i+1)*i'.size<=m*i'.size:=atm _ hi;rw[atB]at this;omega
   have e1:(i*i'.size+j)%z'.cells.size=j:=by rw[nV,aut,Nat.mul_add_mod];exact atN hj
   have hz3:j<z'.cells.size:=by omega
   simp[Builtin.zeroCells,bc,e1,hz3]
  refine⟨_,_,_,?_,hw.drew.call (yY (enc:=enc) (c:=i'.size) (xs:=List.replicate k x0) (cs:=Builtin.zeroCells z'.cells k++Builtin.zeroCells z'.cells (C -k)) (e:=e) rfl k C (by simp) uh jO ?_ fun i x hx j hj=>?_),hk _ C uh⟩
  ·
   simp[execOp,ha.ev hx,ha.ev hy,resolve,invoke,builtin,gO,Result.andThen,Sv.val]
  ·
   rw[avN,Dk,Gm,nV,←atB];exact atm _ (by omega)
  ·
   have hi:i<k:=by
    have:=(ad2.1 hx).1;simpa using this
   obtain rfl:x0=x:=by rw[avC,if_pos hi]at hx;exact asY hx
   rw[QQ,←aaD k i j hi hj,avs];rw[Dk,nV];have:(i+1)*i'.size<=k*i'.size:=atm _ hi;rw[atB]at this;omega
theorem Gp{t e:TypeId}{x:Operand}{m:Nat}[ht:fw P t e m](hx:ev env x=some (.slice none 0 0)):
  Ry P N w0 env L ⟨d, .call {callee:= .builtin .cap,args:= #[x],argTypes:= #[t]},ty,ps,af,gd⟩ (.int .i64 (0:Nat)):=fun a w ha _=>by
 have hu:P.underlying t=some (.slice (P.elem t)):=by rw[AH ht.fa];exact ht.fa
 have:=run_cap_slice (P:=P) (w:=w) t ty none 0 0 hu;simp[execOp,ha.ev hx,resolve,invoke,builtin,this,Result.andThen,goInt]
class mQ(w0:World)(L:List aj){τ:Type}[Deep τ](xs:List τ):Prop where
 h: ∀w,Mem w0 L w-> ∀x∈xs,Deep.cM (hp w) x
instance mQ.nil{τ:Type}[Deep τ]:mQ w0 L ([]:List τ):=⟨fun _ _ _ h=>by cases h⟩
instance mQ.cons{τ:Type}[Deep τ]{x:τ}{xs:List τ}[a:aT w0 L x][b:mQ w0 L xs]:mQ w0 L (x::xs):=⟨fun w hw y hy=>by
 rcases as2.1 hy with rfl|hy
 ·
  exact a.h w hw
 exact b.h w hw y hy⟩
instance (priority:=low) aT.flat {τ:Type}[Deep τ][Plain τ]{enc:τ->Array Value}{c:Nat}[gH τ enc c]{s:Sv}{xs:List τ}[q:cP w0 L enc c s xs]:aT w0 L (⟨s,xs⟩:Sl τ):=⟨fun w hw=>by
 have hl:=q.h w hw;have e1:Deep.cells (τ:=τ)=enc:=funext (gH.h (c:=c));have e2:Deep.c τ=c:=gH.hc (enc:=enc);refine⟨?_,fun x _=>Deep.ki _ x (by rw[Plain.h x];exact trivial)⟩;subst e1 e2;exact hl⟩
instance (priority:=low) aT.rows {τ:Type}[Deep τ]{enc:τ->Array Value}{c:Nat}[gH τ enc c]{s:Sv}{xs:List τ}[q:cP w0 L enc c s xs][g:mQ w0 L xs]:aT w0 L (⟨s,xs⟩:Sl τ):=⟨fun w hw=>by
 have hl:=q.h w hw;have e1:Deep.cells (τ:=τ)=enc:=funext (gH.h (c:=c));have e2:Deep.c τ=c:=gH.hc (enc:=enc);refine⟨?_,g.h w hw⟩;subst e1 e2;exact hl⟩
theorem aaE{τ:Type}[Deep τ]{s:Sv}{xs:List τ}[g:aT w0 L (⟨s,xs⟩:Sl τ)](h: ∀a:Sl τ,a=⟨s,xs⟩->aT w0 L a->Sq P N w0 l Q rest (cB env d a.sv.val) L):Sq P N w0 l Q rest (cB env d s.val) L:=h _ rfl g
def k8(l:List (Sl UInt8)):List UInt8:=(l.map Sl.xs).flatten
theorem Gt{l:List (Sl UInt8)}{i:Nat}{x:Sl UInt8}(h:l[i]? =some x):k8 (l.take (i+1))=k8 (l.take i)++x.xs:=by
 rw[k8,atf,h];simp[k8]
theorem aaF(l:List (Sl UInt8))(i:Nat):(k8 (l.take i)).length<=(k8 l).length:=by
 have e:k8 l=k8 (l.take i)++k8 (l.drop i):=by
  unfold k8;rw[←List.flatten_append,←atE,atz]
 rw[e,af0];omega
end
theorem aaG(l:List UInt8): ∀n,l.foldl (fun a b=>a*256+b.toNat) n=n*256^l.length+de l:=by
 induction l with
 |nil=>intro n;simp[de]
 |cons x l ih=>
  intro n;rw[auA,ih,show de (x::l)=l.foldl (fun a b=>a*256+b.toNat) (0*256+x.toNat)from rfl,ih,asZ,av1];simp only[Nat.zero_mul,atF,atB];rw[Nat.mul_assoc n,aut 256,auB]
theorem aaH(x:UInt8)(l:List UInt8):de (x::l)=x.toNat*256^l.length+de l:=by
 rw[show de (x::l)=l.foldl (fun a b=>a*256+b.toNat) (0*256+x.toNat)from rfl,aaG];simp
theorem QR(l:List UInt8):de l<256^l.length:=by
 have:=JR l l.length (as4 _);rwa [atr]at this
theorem aaI(m n:Nat): ∀k,be (m*256^k+n) k=be n k
 |0=>rfl
 |k+1=>by
  have e:m*256^(k+1)+n=(m*256)*256^k+n:=by rw[av1,Nat.mul_assoc,aut 256]
  rw[be,be,e,aaI (m*256) n k,av2,Nat.add_mul_div_right _ _ (Nat.pow_pos (by decide))];congr 1;apply avm.1;rw[sP,sP];omega
theorem Gu(n:Nat): ∀k,de (be n k)=n%256^k
 |0=>by simp[be,de,Nat.mod_one]
 |k+1=>by
  rw[be,aaH,jP,Gu n k,sP,av1,Nat.mod_mul,aut,av2]
section
variable {w0:World} {L:List aj} {α:Type} {enc:α->Array Value} {c:Nat} {xs ys:List α} {s t:Sv} {g:Bool}
end
section
variable {P:Program} {N:cc} {w0:World} {env:Env} {L:List aj} {l:List Oper} {Q:Exit->Act->World->Prop} {rest:List Oper} {d:Option Tmp} {ty:TypeId} {ps:String} {af:Array Edge}
end
section
variable {w0:World} {L:List aj} {τ:Type} [Deep τ]
instance (priority:=low) mQ.of {a:Sl τ}[q:aT w0 L a]:mQ w0 L a.xs:=⟨fun w hw=>(q.h w hw).2⟩
instance mQ.append{xs ys:List τ}[a:mQ w0 L xs][b:mQ w0 L ys]:mQ w0 L (xs++ys):=⟨fun w hw x hx=>by
 rcases as8.1 hx with h|h
 ·
  exact a.h w hw x h
 exact b.h w hw x h⟩
end
section
variable {w0:World} {L:List aj} {τ:Type} [Deep τ]
instance mQ.take{xs:List τ}{n:Nat}[q:mQ w0 L xs]:mQ w0 L (xs.take n):=⟨fun w hw x hx=>q.h w hw x (au0 hx)⟩
instance mQ.drop{xs:List τ}{n:Nat}[q:mQ w0 L xs]:mQ w0 L (xs.drop n):=⟨fun w hw x hx=>q.h w hw x (avQ hx)⟩
class aaJ(a:Sl τ)(s:outParam Sv)(xs:outParam (List τ)):Prop where
 h:a=⟨s,xs⟩
instance (priority:=low) aT.named {a:Sl τ}{s:Sv}{xs:List τ}[n:aaJ a s xs][q:aT w0 L (⟨s,xs⟩:Sl τ)]:aT w0 L a:=⟨by rw[n.h];exact q.h⟩
end
class gu(τ:Type)[d:Deep τ] where
 reach:τ->Nat->Prop
 congr: ∀(h h':Nat->Option Obj) (x:τ),(∀k,reach x k->h' k=h k)->d.cM h x->d.cM h' x
theorem dJ.congr{α:Type}{enc:α->Array Value}{c:Nat}{h h':Nat->Option Obj}{s:Sv}{xs:List α}(e:xs≠[]->h' s.b=h s.b)(r:dJ enc c h s xs):dJ enc c h' s xs:=
 ⟨r.ok,r.len,fun i x hi j hj=>by
  have bM:xs≠[]:=fun he=>by rw[he]at hi;simp at hi
  rw[←r.row i x hi j hj];unfold oV;rw[e bM]⟩
@[reducible] def gu.flat {τ:Type}[d:Deep τ](hg: ∀h x,d.cM h x):gu τ:=⟨fun _ _=>False,fun _ h' x _ _=>hg h' x⟩
instance gu.slice{τ:Type}[d:Deep τ][r:gu τ]:gu (Sl τ) where
 reach a k:=(a.xs≠[]/\k=a.sv.b)\/ ∃x∈a.xs,r.reach x k
 congr h h' a e g:=⟨g.1.congr fun bM=>e _ (.inl ⟨bM,rfl⟩),fun x hx=>r.congr h h' x (fun k hk=>e k (.inr ⟨x,hx,hk⟩)) (g.2 x hx)⟩
instance:gu UInt8:=gu.flat fun _ _=>trivial
def fz{τ:Type}[d:Deep τ][r:gu τ](x:τ):aj:=⟨r.reach x,fun h=>d.cM h x,fun h h' e s=>r.congr h h' x e s⟩
section
variable {w0:World} {L:List aj} {τ:Type} [d:Deep τ] [r:gu τ]
instance (priority:=high) aT.frozen {a:τ}{i:Nat}[q:At L (fz a) i]:aT w0 L a:=⟨fun _ hw=>hw.get q.h⟩
theorem Mem.freeze{w:World}{es:List aj}(x:τ)(hg:d.cM (hp w) x)(hr: ∀k,r.reach x k-> ∃e∈es,e.fp k)(h:Mem w0 (es++L) w):Mem w0 (fz x::L) w:=by
 have hd:=auP.1 h.pW;refine⟨h.below,fun e he=>?_,fun e he k hk=>?_,atn.2 ⟨fun y hy k hk kC=>?_,hd.2.1⟩⟩
 ·
  rcases as2.1 he with rfl|he
  ·
   exact hg
  exact h.sat e (as8.2 (.inr he))
 ·
  rcases as2.1 he with rfl|he
  ·
   obtain⟨e',qM,kC⟩:=hr k hk;exact h.kf e' (as8.2 (.inl qM)) k kC
  exact h.kf e (as8.2 (.inr he)) k hk
 obtain⟨e',qM,pa⟩:=hr k hk;exact hd.2.2 e' qM y hy k pa kC
theorem Mem.aaK{w:World}{e:aj}(x:τ)(hg:d.cM (hp w) x)(hr: ∀k,r.reach x k->e.fp k)(h:Mem w0 (e::L) w):Mem w0 (fz x::L) w:=
 Mem.freeze (es:=[e]) x hg (fun k hk=>⟨e,by simp,hr k hk⟩) h
end
open Go.Kb
section
variable {w0:World} {L:List aj} {τ:Type} [Deep τ] {xs:List τ} {es:List aj}
theorem Mem.zo{w:World}(h:Mem w0 L w):Mem w0 (aj.all []::L) w:=Mem.CY.2 h
theorem Mem.aaL{w:World}{e:aj}(h:Mem w0 (e::aj.all es::L) w):Mem w0 (aj.all (e::es)::L) w:=Mem.y5.2 h
theorem Mem.QS{w:World}{s:Sv}{enc:τ->Array Value}{c:Nat}[f:gH τ enc c][Plain τ](h:Mem w0 (own enc c s xs::L) w):Mem w0 (Deep.ck (⟨s,xs⟩:Sl τ)::L) w:=Tr.FC.mem h
end
end Go.ax
namespace Go.Kb
structure gI where
 len:Int
 bV:UInt16
 deriving DecidableEq
def gI.no:gI:=⟨0,0⟩
structure Nd where
 Gw:List gI
 Gx:List Int
 hs:Gw.length=16
 hn:Gx.length=16
 deriving DecidableEq
def Nd.sl(n:Nd)(b:Nat):gI:=n.Gw.getD b gI.no
def Nd.nx(n:Nd)(b:Nat):Int:=n.Gx.getD b 0
def Nd.mk'(f:Nat->gI)(g:Nat->Int):Nd:=⟨(List.range 16).map f,(List.range 16).map g,by simp,by simp⟩
def Nd.zero:Nd:=Nd.mk' (fun _=>gI.no) (fun _=>0)
def Nd.xE(n:Nd)(b:Nat)(s:gI):Nd:=⟨n.Gw.set b s,n.Gx,by simp[n.hs],n.hn⟩
def Nd.xF(n:Nd)(b:Nat)(x:Int):Nd:=⟨n.Gw,n.Gx.set b x,n.hs,by simp[n.hn]⟩
theorem Nd.lK{f:Nat->gI}{g:Nat->Int}{b:Nat}(h:b<16):(Nd.mk' f g).sl b=f b:=by simp[Nd.sl,Nd.mk',h]
theorem Nd.lL{f:Nat->gI}{g:Nat->Int}{b:Nat}(h:b<16):(Nd.mk' f g).nx b=g b:=by simp[Nd.nx,Nd.mk',h]
theorem Nd.aaM{n:Nd}{b:Nat}(h:16<=b):n.sl b=gI.no:=by
 have:=n.hs;rw[Nd.sl,atP,as7 (by omega)];rfl
theorem Nd.aaN{n:Nd}{b:Nat}(h:16<=b):n.nx b=0:=by
 have:=n.hn;rw[Nd.nx,atP,as7 (by omega)];rfl
theorem Nd.QT(b:Nat):Nd.zero.sl b=gI.no:=by
 rcases as3 b 16 with h|h
 ·
  exact Nd.lK h
 exact Nd.aaM h
theorem Nd.QU(b:Nat):Nd.zero.nx b=0:=by
 rcases as3 b 16 with h|h
 ·
  exact Nd.lL h
 exact Nd.aaN h
theorem Nd.Gy{n:Nd}{b c:Nat}{s:gI}(h:b<16):(n.xE b s).sl c=if b=c then s else n.sl c:=by
 have:=n.hs;simp only[Nd.sl,Nd.xE,atP,atI];split
 ·
  rename_i e;subst e;rw[if_pos (by omega)];rfl
 rfl
theorem Nd.KM{n:Nd}{b c:Nat}{x:Int}(h:b<16):(n.xF b x).nx c=if b=c then x else n.nx c:=by
 have:=n.hn;simp only[Nd.nx,Nd.xF,atP,atI];split
 ·
  rename_i e;subst e;rw[if_pos (by omega)];rfl
 rfl
@[simp] theorem Nd.QV {n:Nd}{b c:Nat}{s:gI}:(n.xE b s).nx c=n.nx c:=rfl
@[simp] theorem Nd.QW {n:Nd}{b c:Nat}{x:Int}:(n.xF b x).sl c=n.sl c:=rfl
theorem Nd.ext'{m n:Nd}(h1: ∀b,b<16->m.sl b=n.sl b)(h2: ∀b,b<16->m.nx b=n.nx b):m=n:=by
 obtain⟨a,b,ha,hb⟩:=m;obtain⟨c,d,hc,hd⟩:=n;have e1:a=c:=at5 fun i=>by
  rcases as3 i 16 with hi|hi
  ·
   have:=h1 i hi;simp only[Nd.sl,atP]at this;rw[as1 (by omega),as1 (by omega)]at this⊢;simpa using this
  rw[as7 (by omega),as7 (by omega)]
 have e2:b=d:=at5 fun i=>by
  rcases as3 i 16 with hi|hi
  ·
   have:=h2 i hi;simp only[Nd.nx,atP]at this;rw[as1 (by omega),as1 (by omega)]at this⊢;simpa using this
  rw[as7 (by omega),as7 (by omega)]
 subst e1;subst e2;rfl
def tc(k:Key)(n b:Nat):Key:=if n%2=0 then AQ k (n/2) (16*b%256)else AQ k (n/2) ((aY k (n/2)+b)%256)
def bJ(p:aZ):Nat:=((p.len -1)/4).toNat
structure Wy where
 steps:Nat
 key:Key
 deriving DecidableEq
def c6(k:Key)(s:Nat):Wy:=⟨s,cm k ((4*s:Nat):Int)⟩
def root:Wy:=⟨0,0#128⟩
theorem A6(k:Key):c6 k 0=root:=by rw[c6,root,FM _ _ (by decide)]
def child(w:Wy)(b:Nat):Wy:=⟨w.steps+1,tc w.key w.steps b⟩
def kl(W:List Wy)(w:Wy):List Wy:=if w∈W then W else W++[w]
def dM(W:List Wy)(p:aZ)(n:Nat):List Wy:=(List.range n).foldl (fun W i=>kl W (c6 p.key (i+1))) W
def oh(W:List Wy)(r:Rt)(bits:Int):List Wy:=if r.p.bits=bits then dM W r.p (bJ r.p)else W
def lM(bits:Int)(t:List Rt):List Wy:=t.foldl (fun W r=>oh W r bits) [root]
def hit(r:Rt)(bits:Int)(w:Wy)(b:Nat):Bool:=decide (r.p.bits=bits)&&decide (bJ r.p=w.steps)&&qO r.p (tc w.key w.steps b)
def zp(bits:Int)(w:Wy)(b:Nat)(s:gI)(r:Rt):gI:=if hit r bits w b=true/\s.len<=r.p.len then⟨r.p.len+1,r.bV⟩else s
def nG(bits:Int)(R:List Rt)(w:Wy)(b:Nat):gI:=R.foldl (zp bits w b) gI.no
def rU(W:List Wy)(w:Wy)(b:Nat):Int:=if child w b∈W then(W.idxOf (child w b):Nat)else 0
def ik(bits:Int)(W:List Wy)(R:List Rt)(w:Wy):Nd:=Nd.mk' (nG bits R w) (rU W w)
theorem KN(W:List Wy)(p:aZ):dM W p 0=W:=rfl
theorem vL(W:List Wy)(p:aZ)(n:Nat):dM W p (n+1)=kl (dM W p n) (c6 p.key (n+1)):=by simp[dM,aua]
theorem KO(bits:Int)(t:List Rt)(r:Rt):lM bits (t++[r])=oh (lM bits t) r bits:=by simp[lM]
theorem KP(bits:Int)(R:List Rt)(r:Rt)(w:Wy)(b:Nat):nG bits (R++[r]) w b=zp bits w b (nG bits R w b) r:=by simp[nG]
theorem A7{k:Key}{n b:Nat}(hn:n<32)(hb:b<16)(hk:cm k ((4*n:Nat):Int)=k)(i:Nat)(hi:i<128):
  (tc k n b).getMsbD i=if i<4*n then k.getMsbD i else if i<4*n+4 then b.testBit (4*n+3 -i)else false:=by
 have hz: ∀j,j<128->4*n<=j->k.getMsbD j=false:=fun j hj h=>(AS k _).1 hk j hj (by omega);have qV: ∀(x:Nat),x<256->(AQ k (n/2) x).getMsbD i=if i/8=n/2 then x.testBit (7 -i%8)else k.getMsbD i:=fun x hx=>by
  rw[mO _ i hi,J3 k _ x _ (by omega) hx];split
  ·
   rfl
  ·
   rw[mO k i hi]
 unfold tc;split
 ·
  rename_i he;rw[qV _ (by omega)]
  by_cases h1:i/8=n/2
  ·
   rw[if_pos h1,if_neg (by omega)];have e:16*b%256=b*2^4:=by omega
   rw[e,Nat.testBit_mul_two_pow]
   by_cases h2:i<4*n+4
   ·
    rw[if_pos h2,decide_eq_true (by omega),atU];congr 1;omega
   ·
    rw[if_neg h2,decide_eq_false (by omega),avk]
  ·
   rw[if_neg h1]
   by_cases h2:i<4*n
   ·
    rw[if_pos h2]
   ·
    rw[if_neg h2,if_neg (by omega)];exact hz i hi (by omega)
 ·
  rename_i ho;have aoQ:aY k (n/2)%16=0:=by
   have: ∀j,(aY k (n/2)%2^4).testBit j=false:=fun j=>by
    rw[Nat.testBit_mod_two_pow]
    by_cases hj:j<4
    ·
     have:=mO k (8*(n/2)+(7 -j)) (by omega);rw[show(8*(n/2)+(7 -j))/8=n/2 by omega,show 7 -(8*(n/2)+(7 -j))%8=j by omega,hz _ (by omega) (by omega)]at this;simp[←this]
    ·
     simp[hj]
   have:=au1 (x:=aY k (n/2)%2^4) (y:=0) (fun j=>by rw[this j];simp);simpa using this
  have bc:=gp k (n/2);have e:(aY k (n/2)+b)%256=aY k (n/2)|||b:=by
   obtain⟨q,hq⟩: ∃q,aY k (n/2)=2^4*q:=⟨aY k (n/2)/16,by omega⟩;rw[hq,←Nat.two_pow_add_eq_or_of_lt (i:=4) (by omega) q];omega
  rw[qV _ (by omega),e]
  by_cases h1:i/8=n/2
  ·
   rw[if_pos h1,Nat.testBit_or];have hm:=mO k i hi;rw[h1]at hm;rw[←hm]
   by_cases h2:i<4*n
   ·
    rw[if_pos h2,auo (x:=b) (atS (show b<2^4 by omega) (auc (by decide) (by omega)))];simp
   ·
    rw[if_neg h2,if_pos (by omega),hz i hi (by omega),avB];congr 1;omega
  ·
   rw[if_neg h1]
   by_cases h2:i<4*n
   ·
    rw[if_pos h2]
   ·
    rw[if_neg h2,if_neg (by omega)];exact hz i hi (by omega)
def gS(k:Key)(n:Nat):Nat:=(ji k n).toNat
theorem vM(k:Key)(n:Nat):gS k n<16:=by
 unfold gS ji;have h1:=xt k (4*n);have h2:=xt k (4*n+1);have h3:=xt k (4*n+2);have h4:=xt k (4*n+3);split<;>omega
theorem Dl(k:Key)(n:Nat):ji k n=(gS k n:Int):=by
 unfold gS ji;have h1:=xt k (4*n);have h2:=xt k (4*n+1);have h3:=xt k (4*n+2);have h4:=xt k (4*n+3);split<;>omega
theorem Dm(k:Key)(n j:Nat)(hn:n<32)(hj:j<4):(gS k n).testBit j=k.getMsbD (4*n+3 -j):=by
 have e:=Dl k n;rw[ji,if_pos (by omega)]at e;have b0:=FN k (4*n);have b1:=FN k (4*n+1);have b2:=FN k (4*n+2);have b3:=FN k (4*n+3);simp only[Int.natCast_add,Int.natCast_mul,Int.cast_ofNat_Int]at b0 b1 b2 b3;rw[b0,b1,b2,b3]at e;have key: ∀(a0 a1 a2 a3:Bool) (x:Nat),(8*(if a0 then 1 else 0)+4*(if a1 then 1 else 0)+2*(if a2 then 1 else 0)+(if a3 then 1 else 0):Int)=(x:Int)->x.testBit 0=a3/\x.testBit 1=a2/\x.testBit 2=a1/\x.testBit 3=a0:=by
  intro a0 a1 a2 a3 x hx;have qT:x=(8*(if a0 then 1 else 0)+4*(if a1 then 1 else 0)+2*(if a2 then 1 else 0)+(if a3 then 1 else 0):Nat):=by
   cases a0<;>cases a1<;>cases a2<;>cases a3<;>simp at hx⊢ <;>omega
  subst qT
  cases a0<;>cases a1<;>cases a2<;>cases a3<;>decide
 obtain⟨h0,h1,h2,h3⟩:=key _ _ _ _ _ e
 match j,hj with
 |0,_=>exact h0
 |1,_=>exact h1
 |2,_=>exact h2
 |3,_=>exact h3
theorem aaO{x y:Nat}(hx:x<16)(hy:y<16)(h: ∀j,j<4->x.testBit j=y.testBit j):x=y:=by
 refine au1 fun j=>?_;rcases as3 j 4 with hj|hj
 ·
  exact h j hj
 have hp:2^4<=2^j:=auc (by decide) hj;rw[auo (atS hx hp),auo (atS hy hp)]
theorem A8(k:Key)(n i:Nat):(cm k (n:Int)).getMsbD i=(decide (i<n)&&k.getMsbD i):=by
 rw[pc];congr 1;simp
section
variable {k:Key} {n b:Nat}
theorem QX(hn:n<32)(hb:b<16)(hk:cm k ((4*n:Nat):Int)=k):gS (tc k n b) n=b:=
 aaO (vM _ _) hb fun j hj=>by
  rw[Dm _ _ _ hn hj,A7 hn hb hk _ (by omega),if_neg (by omega),if_pos (by omega)];congr 1;omega
theorem GA(hn:n<32)(hb:b<16)(hk:cm k ((4*n:Nat):Int)=k):cm (tc k n b) ((4*n:Nat):Int)=k:=
 uq fun i hi=>by
  have h2:=A8 k (4*n) i;rw[hk]at h2;rw[A8,A7 hn hb hk i hi]
  by_cases h:i<4*n
  ·
   simp[h]
  simp[h]at h2⊢;exact h2
theorem QY(hn:n<32)(hb:b<16)(hk:cm k ((4*n:Nat):Int)=k):cm (tc k n b) ((4*(n+1):Nat):Int)=tc k n b:=
 uq fun i hi=>by
  rw[A8,A7 hn hb hk i hi]
  by_cases h:i<4*(n+1)
  ·
   simp[h]
  rw[if_neg (by omega),if_neg (by omega)];simp
end
theorem QZ(k:Key)(n m:Nat):cm (cm k (n:Int)) (m:Int)=cm k ((min n m:Nat):Int):=by
 rw[AR];congr 1;omega
theorem Dn(k:Key)(s:Nat):cm (c6 k s).key ((4*s:Nat):Int)=(c6 k s).key:=by
 simp only[c6];rw[QZ,Nat.min_self]
theorem GB(k:Key)(n:Nat)(hn:n<32):child (c6 k n) (gS k n)=c6 k (n+1):=by
 have e:tc (cm k ((4*n:Nat):Int)) n (gS k n)=cm k ((4*(n+1):Nat):Int):=uq fun i hi=>by
  have hm:=A7 (k:=cm k ((4*n:Nat):Int)) hn (vM k n) (Dn k n) i hi;rw[hm,A8,A8]
  by_cases h:i<4*n
  ·
   simp[h,show i<4*(n+1) by omega]
  rw[if_neg h]
  by_cases h2:i<4*n+4
  ·
   rw[if_pos h2,Dm _ _ _ hn (by omega),decide_eq_true (show i<4*(n+1) by omega),atU];congr 1;omega
  rw[if_neg h2,decide_eq_false (show ¬i<4*(n+1) by omega),avk]
 simp only[child,c6,e]
def Wy.ok(w:Wy):Prop:=w.steps<32/\cm w.key ((4*w.steps:Nat):Int)=w.key
theorem Q0{w v:Wy}{b c:Nat}(hw:w.ok)(hv:v.ok)(hb:b<16)(hc:c<16)(e:child w b=child v c):w=v/\b=c:=by
 obtain⟨ws,wk⟩:=w;obtain⟨vs,vk⟩:=v;simp only[child,Wy.mk.injEq]at e;obtain⟨e1,e2⟩:=e;have e3:ws=vs:=by omega
 subst e3;have h1:=GA hw.1 hb hw.2;have h2:=QX hw.1 hb hw.2;simp only at h1 h2;rw[e2,QX hv.1 hc hv.2]at h2;rw[e2,GA hv.1 hc hv.2]at h1;have GC:vk=wk:=h1;exact⟨by rw[GC],h2.symm⟩
theorem aaP(k:Key)(s:Nat)(h:s<32):(c6 k s).ok:=⟨h,Dn k s⟩
theorem Q1(k:Key)(s n:Nat)(h:s<=n):c6 (c6 k n).key s=c6 k s:=by
 simp only[c6];rw[QZ,Nat.min_eq_right (by omega)]
theorem aaQ:root.ok:=⟨by decide,by rw[root];exact FM _ _ (by decide)⟩
theorem aaR{W:List Wy}{w v:Wy}:v∈kl W w↔v∈W\/v=w:=by
 unfold kl;split
 ·
  rename_i h;exact⟨.inl,fun| .inl h=>h| .inr e=>e▸h⟩
 simp
theorem Q2{W:List Wy}{w:Wy}(h:W.Nodup):(kl W w).Nodup:=by
 unfold kl;split
 ·
  exact h
 rename_i hw;rw[auK];exact⟨h,by simp,fun a ha b hb=>by simp at hb;subst hb;intro e;subst e;exact hw ha⟩
theorem Q3{W:List Wy}{w:Wy}:W<+:kl W w:=by
 unfold kl;split
 ·
  exact avy
 exact List.prefix_append _ _
theorem vN{W:List Wy}{p:aZ}{v:Wy}: ∀{n:Nat},v∈dM W p n↔v∈W\/ ∃s,1<=s/\s<=n/\v=c6 p.key s
 |0=>by simp[KN];omega
 |n+1=>by
  rw[vL,aaR,vN (n:=n)];constructor
  ·
   rintro((h|⟨s,h1,h2,h3⟩)|h)
   ·
    exact .inl h
   ·
    exact .inr ⟨s,h1,by omega,h3⟩
   exact .inr ⟨n+1,by omega,by omega,h⟩
  rintro(h|⟨s,h1,h2,h3⟩)
  ·
   exact .inl (.inl h)
  rcases as3 n s with h4|h4
  ·
   obtain rfl:s=n+1:=by omega
   exact .inr h3
  exact .inl (.inr ⟨s,h1,h4,h3⟩)
theorem Q4{W:List Wy}{p:aZ}(h:W.Nodup): ∀n,(dM W p n).Nodup
 |0=>h
 |n+1=>by rw[vL];exact Q2 (Q4 h n)
theorem GD{W:List Wy}{p:aZ}: ∀n,W<+:dM W p n
 |0=>avy
 |n+1=>by rw[vL];exact(GD n).trans Q3
theorem aaS{W:List Wy}{p:aZ}{n m:Nat}(h:n<=m):dM W p n<+:dM W p m:=by
 induction m with
 |zero=>obtain rfl:n=0:=by omega
        exact avy
 |succ m ih=>
  rcases as3 m n with h'|h'
  ·
   obtain rfl:n=m+1:=by omega
   exact avy
  rw[vL];exact(ih h').trans Q3
theorem Q5{W:List Wy}{r:Rt}{bits:Int}:W<+:oh W r bits:=by
 unfold oh;split
 ·
  exact GD _
 exact avy
structure jj(W:List Wy):Prop where
 nodup:W.Nodup
 root:W[0]? =some root
 ok: ∀w∈W,w.ok
 up: ∀w∈W,∀s,s<=w.steps->c6 w.key s∈W
 ord: ∀(i:Nat) (w:Wy),W[i]? =some w-> ∀s,s<w.steps-> ∃j,j<i/\W[j]? =some (c6 w.key s)
theorem jj.ne{W:List Wy}(h:jj W):0<W.length:=by
 have:=h.root;rcases auy W.length with e|e
 ·
  rw[as7 (by omega)]at this;simp at this
 exact e
theorem jj.one:jj [Kb.root]:=⟨by simp,rfl,fun w hw=>by simp at hw;subst hw;exact aaQ,fun w hw s hs=>by
 simp at hw;subst hw;have:s=0:=by simpa[Kb.root]using hs
 subst this;rw[A6];simp,fun i w hi s hs=>by
 have hw:=alM hi;simp at hw;subst hw;exact absurd hs (by simp[Kb.root])⟩
theorem jj.add{W:List Wy}(h:jj W){p:aZ}: ∀{n:Nat},n<32->jj (dM W p n)
 |0,_=>h
 |n+1,hn=>by
  have ih:=h.add (p:=p) (n:=n) (by omega);refine⟨Q4 h.nodup _,?_,fun w hw=>?_,fun w hw s hs=>?_,fun i w hi s hs=>?_⟩
  ·
   have:=GD (W:=W) (p:=p) (n+1);obtain⟨t,ht⟩:=this;rw[←ht,atb h.ne];exact h.root
  ·
   rcases vN.1 hw with hw|⟨s,h1,h2,rfl⟩
   ·
    exact h.ok w hw
   exact aaP _ _ (by omega)
  ·
   rcases vN.1 hw with hw|⟨s',h1,h2,rfl⟩
   ·
    exact vN.2 (.inl (h.up w hw s hs))
   have Aw:s<=s':=hs;rw[Q1 _ _ _ Aw];rcases auy s with e|e
   ·
    subst e;rw[A6];exact vN.2 (.inl (alM h.root))
   exact vN.2 (.inr ⟨s,e,by omega,rfl⟩)
  rw[vL]at hi⊢;unfold kl at hi⊢;split at hi
  ·
   rename_i hm;rw[if_pos hm];exact ih.ord i w hi s hs
  rename_i hm;rw[if_neg hm];rcases as3 i (dM W p n).length with bc|hge
  ·
   rw[atb bc]at hi;obtain⟨j,hj,e⟩:=ih.ord i w hi s hs;exact⟨j,hj,by rw[atb (by omega)];exact e⟩
  have aH:=(ad2.1 hi).1;simp only[af0,asZ,as0]at aH;obtain rfl:i=(dM W p n).length:=by omega
  rw[ata (as4 _),auJ,List.getElem?_cons_zero]at hi;obtain rfl:=asY hi;have Aw:s<n+1:=hs;have jD:c6 p.key s∈dM W p n:=by
   rcases auy s with e|e
   ·
    subst e;rw[A6];exact alM ih.root
   exact vN.2 (.inr ⟨s,e,by omega,rfl⟩)
  obtain⟨j,hj⟩:=aue.1 jD;have iX:=(ad2.1 hj).1;exact⟨j,iX,by rw[Q1 _ _ _ (by omega),atb iX];exact hj⟩
theorem GF{p:aZ}(h:bo p=true):bJ p<32:=by
 obtain⟨h1,h2,h3,_⟩:=(kj p).1 h;unfold bJ;omega
theorem jj.oh{W:List Wy}(h:jj W){r:Rt}{bits:Int}(hr:bo r.p=true):jj (oh W r bits):=by
 unfold Kb.oh;split
 ·
  exact h.add (GF hr)
 exact h
theorem Q6{bits:Int}: ∀{t:List Rt} {W:List Wy},jj W->(∀r∈t,bo r.p=true)->jj (t.foldl (fun W r=>Kb.oh W r bits) W)
 |[],_,h,_=>h
 |r::t,_,h,ha=>Q6 (t:=t) (h.oh (ha r (by simp))) fun x hx=>ha x (by simp[hx])
theorem aaT{bits:Int}{t:List Rt}(h: ∀r∈t,bo r.p=true):jj (lM bits t):=Q6 jj.one h
def vO(bits:Int)(W:List Wy)(R:List Rt):Prop:= ∀r∈R,r.p.bits=bits-> ∀s,1<=s->s<=bJ r.p->c6 r.p.key s∈W
theorem Q7{W:List Wy}{w:Wy}(h:w∈W):W[W.idxOf w]? =some w:=by
 have hl:=List.idxOf_lt_length_iff.2 h;rw[as1 hl,List.getElem_idxOf]
theorem aaU{W:List Wy}{w:Wy}(h:w∈W):W.idxOf w<W.length:=List.idxOf_lt_length_iff.2 h
theorem KQ{W:List Wy}(hn:W.Nodup){i:Nat}{w:Wy}(h:W[i]? =some w):W.idxOf w=i:=by
 obtain⟨hi,rfl⟩:=ad2.1 h;exact List.Nodup.idxOf_getElem hn i hi
theorem get_inj{W:List Wy}(hn:W.Nodup){i j:Nat}{w:Wy}(h:W[i]? =some w)(h':W[j]? =some w):i=j:=by
 rw[←KQ hn h,KQ hn h']
def vP(ns:List Nd)(node four:Nat):Bool:=decide (0<(ns.getD node Nd.zero).nx four)||decide (ns.length<512)
def vQ(ns:List Nd)(node four:Nat):Int:=if 0<(ns.getD node Nd.zero).nx four then(ns.getD node Nd.zero).nx four else if 512<=ns.length then 0 else ns.length
def vR(ns:List Nd)(node four:Nat):List Nd:=if 0<(ns.getD node Nd.zero).nx four\/512<=ns.length then ns else(ns++[Nd.zero]).set node ((ns.getD node Nd.zero).xF four ns.length)
def nodes(bits:Int)(W:List Wy)(R:List Rt):List Nd:=W.map (ik bits W R)
@[simp] theorem A9 (bits:Int)(W:List Wy)(R:List Rt):(nodes bits W R).length=W.length:=by simp[nodes]
theorem GG{bits:Int}{W:List Wy}{R:List Rt}{i:Nat}{w:Wy}(h:W[i]? =some w):(nodes bits W R)[i]? =some (ik bits W R w):=by simp[nodes,h]
theorem Q8{bits:Int}{W:List Wy}{R:List Rt}{i:Nat}{w:Wy}(h:W[i]? =some w):(nodes bits W R).getD i Nd.zero=ik bits W R w:=by
 rw[atP,GG h];rfl
theorem Ba{W:List Wy}(hW:jj W){w:Wy}{b:Nat}:0<rU W w b↔child w b∈W:=by
 unfold rU;split
 ·
  rename_i h;refine⟨fun _=>h,fun _=>?_⟩;rcases auy (W.idxOf (child w b))with e|e
  ·
   have h1:=Q7 h;rw[e,hW.root]at h1;have:=congrArg Wy.steps (asY h1);simp[child,root]at this
  exact_mod_cast e
 rename_i h;exact⟨fun h'=>absurd h' (by decide),fun h'=>absurd h' h⟩
theorem aaV{bits:Int}{w:Wy}{b:Nat}: ∀{R:List Rt},(∀r∈R,hit r bits w b=false)->nG bits R w b=gI.no:=by
 intro R
 suffices h: ∀(R:List Rt) (s:gI),(∀r∈R,hit r bits w b=false)->R.foldl (zp bits w b) s=s from fun hR=>h R _ hR
 intro R
 induction R with
 |nil=>intro s _;rfl
 |cons r R ih=>
  intro s hR;rw[auA,zp,if_neg (by rw[hR r (by simp)];simp)];exact ih s fun x hx=>hR x (by simp[hx])
theorem Q9{r:Rt}{bits:Int}{w:Wy}{b:Nat}(hw:w.ok)(hb:b<16)(h:hit r bits w b=true)(hl:0<r.p.len):w=c6 r.p.key w.steps:=by
 simp only[hit,anc,decide_eq_true_eq]at h;obtain⟨⟨h1,h2⟩,h3⟩:=h;obtain⟨_,_,h4⟩:=(rP _ _).1 h3;have hle:4*(w.steps:Int)<=r.p.len:=by rw[←h2];unfold bJ;omega
 obtain⟨s,k⟩:=w;have hk:=GA hw.1 hb hw.2;simp only at hk h4 hle⊢;rw[c6,←h4,AR,show min r.p.len ((4*s:Nat):Int)=((4*s:Nat):Int) by omega,hk]
theorem Ra{p:aZ}(h:p.len<=0):bJ p=0:=by unfold bJ;omega
theorem aaW{bits:Int}{W:List Wy}{R:List Rt}(hh:vO bits W R){w:Wy}{b:Nat}(hw:w.ok)(hb:b<16)(hs:0<w.steps)(hn:w∉W):nG bits R w b=gI.no:=
 aaV fun r hr=>by
  cases he:hit r bits w b with
  |false=>rfl
  |true=>
   have h':=he;simp only[hit,anc,decide_eq_true_eq]at h';obtain⟨⟨h1,h2⟩,h3⟩:=h';have hl:0<r.p.len:=by
    rcases Int.lt_or_le 0 r.p.len with h|h
    ·
     exact h
    rw[Ra h]at h2;omega
   have e:=Q9 hw hb he hl;exact absurd (e▸hh r hr h1 w.steps hs (by omega)) hn
section
variable {bits:Int} {W:List Wy} {R:List Rt} {w:Wy} {node b:Nat}
theorem KR(hw:W[node]? =some w)(hb:b<16):((nodes bits W R).getD node Nd.zero).nx b=rU W w b:=by
 rw[Q8 hw,ik,Nd.lL hb]
theorem aaX(hW:jj W)(hw:W[node]? =some w)(hb:b<16)(hl:W.length<=512):vP (nodes bits W R) node b=decide ((kl W (child w b)).length<=512):=by
 rw[vP,KR hw hb,A9]
 by_cases h:child w b∈W
 ·
  rw[decide_eq_true ((Ba hW).2 h),Bool.true_or,kl,if_pos h,decide_eq_true hl]
 rw[decide_eq_false (fun h'=>h ((Ba hW).1 h')),avB,kl,if_neg h,af0];simp;omega
theorem aaY(hW:jj W)(hw:W[node]? =some w)(hb:b<16)(hl:(kl W (child w b)).length<=512):vQ (nodes bits W R) node b=((kl W (child w b)).idxOf (child w b):Nat):=by
 rw[vQ,KR hw hb,A9]
 by_cases h:child w b∈W
 ·
  rw[if_pos ((Ba hW).2 h),kl,if_pos h,rU,if_pos h]
 rw[kl,if_neg h,af0]at hl;simp only[asZ,as0]at hl;rw[if_neg (fun h'=>h ((Ba hW).1 h')),if_neg (by omega),kl,if_neg h,List.idxOf_append,if_neg h];simp
theorem aaZ(hW:jj W)(hw:W[node]? =some w)(hb:b<16)(hs:w.steps<31)(hh:vO bits W R)(hl:(kl W (child w b)).length<=512):vR (nodes bits W R) node b=nodes bits (kl W (child w b)) R:=by
 have KS:=alM hw;have GH:=hW.ok w KS;rw[vR,KR hw hb,A9,Q8 hw]
 by_cases h:child w b∈W
 ·
  rw[if_pos (.inl ((Ba hW).2 h)),kl,if_pos h]
 rw[kl,if_neg h]at hl;simp only[af0,asZ,as0]at hl;rw[if_neg (by rw[Ba hW];intro h';rcases h' with h'|h';exact h h';omega),kl,if_neg h]
 have Df:(child w b).ok:=⟨by simp only[child];omega,QY (by omega) hb GH.2⟩;have cA:(W++[child w b]).Nodup:=by have:=Q2 (w:=child w b) hW.nodup;rwa [kl,if_neg h]at this
 have nlt:node<W.length:=(ad2.1 hw).1;refine at5 fun i=>?_;rcases avA i W.length with hi|hi|hi
 ·
  obtain⟨v,hv⟩: ∃v,W[i]? =some v:=⟨W[i],by simp[hi]⟩;have hvm:=alM hv;have e2:(W++[child w b])[i]? =some v:=by rw[atb hi];exact hv
  rw[GG e2,atI];have nx: ∀c,c<16->rU (W++[child w b]) v c=if child v c=child w b then(W.length:Int)else rU W v c:=fun c hc=>by
   unfold rU
   by_cases h1:child v c=child w b
   ·
    rw[if_pos (by rw[h1];simp),if_pos h1,h1,List.idxOf_append,if_neg h];simp
   rw[if_neg h1]
   by_cases h2:child v c∈W
   ·
    rw[if_pos (by simp[h2]),if_pos h2,List.idxOf_append,if_pos h2]
   rw[if_neg (by simp[h1,h2]),if_neg h2]
  split
  ·
   rename_i e;subst e;rw[if_pos (by simp;omega)];obtain rfl:w=v:=asY (hw.symm.trans hv);refine congrArg some (Nd.ext' (fun c hc=>?_) fun c hc=>?_)
   ·
    rw[Nd.QW,ik,ik,Nd.lK hc,Nd.lK hc]
   rw[Nd.KM hb,ik,ik,Nd.lL hc,Nd.lL hc,nx c hc]
   by_cases Bb:b=c
   ·
    subst Bb;rw[if_pos rfl,if_pos rfl]
   rw[if_neg Bb,if_neg fun e=>Bb (Q0 GH GH hc hb e).2.symm]
  rename_i e;rw[atb (by simpa using hi),GG hv];refine congrArg some (Nd.ext' (fun c hc=>?_) fun c hc=>?_)
  ·
   rw[ik,ik,Nd.lK hc,Nd.lK hc]
  rw[ik,ik,Nd.lL hc,Nd.lL hc,nx c hc,if_neg fun e'=>?_];obtain⟨rfl,_⟩:=Q0 (hW.ok v hvm) GH hc hb e';exact e (get_inj hW.nodup hw hv)
 ·
  have e2:(W++[child w b])[i]? =some (child w b):=by rw[hi];simp
  rw[GG e2,atI,if_neg (by omega),ata (by simp[hi])];simp only[A9,hi,auJ,List.getElem?_cons_zero];refine congrArg some (Nd.ext' (fun c hc=>?_) fun c hc=>?_)
  ·
   rw[Nd.QT,ik,Nd.lK hc,aaW hh Df hc (by simp[child]) h]
  rw[Nd.QU,ik,Nd.lL hc,rU,if_neg];intro hm;rcases as8.1 hm with hm|hm
  ·
   have:=hW.up _ hm (w.steps+1) (by simp only[child];omega);refine h ?_;have e3:c6 (child (child w b) c).key (w.steps+1)=child w b:=by
    have:=GA (k:=(child w b).key) (n:=w.steps+1) (b:=c) Df.1 hc Df.2;simp only[child,c6]at this⊢;rw[this]
   rwa [e3]at this
  have:=congrArg Wy.steps (atG.1 hm);simp[child]at this
 rw[as7 (by simp;omega),as7 (by simp;omega)]
end
def mh(p:aZ):Nat:=(4 -(p.len -4*(bJ p:Int))).toNat
theorem Dp{p:aZ}(h:bo p=true):mh p<=4/\(p.len:Int)=4*(bJ p:Int)+4 -(mh p:Int):=by
 obtain⟨_,h2,h3,_⟩:=(kj p).1 h;unfold mh bJ;omega
theorem aa0{x y e:Nat}(hx:x<16)(hy:y<16)(he:e<=4)(h0:x%2^e=0):(x<=y/\y<x+2^e)↔ ∀j,e<=j->j<4->y.testBit j=x.testBit j:=by
 have hp:0<2^e:=Nat.two_pow_pos e;have hq:=avd x (2^e);have hr:=avd y (2^e);have hm:=avc y hp;have key:(x<=y/\y<x+2^e)↔y/2^e=x/2^e:=by
  constructor
  ·
   rintro⟨h1,h2⟩;apply Nat.le_antisymm
   ·
    apply Nat.le_of_lt_succ;apply avS;rw[Nat.mul_succ];omega
   exact Nat.div_le_div_right h1
  intro h;rw[h]at hr;omega
 rw[key];constructor
 ·
  intro h j h1 h2;have:=congrArg (fun z=>z.testBit (j -e)) h;simp only[auM]at this;rwa [show j -e+e=j by omega]at this
 intro h;refine au1 fun j=>?_;rw[auM,auM];rcases as3 (j+e) 4 with hj|hj
 ·
  exact h _ (by omega) hj
 have hp:2^4<=2^(j+e):=auc (by decide) hj;rw[auo (atS hx hp),auo (atS hy hp)]
theorem Rb{p:aZ}(h:bo p=true):gS p.key (bJ p)%2^mh p=0:=by
 obtain⟨h1,h2⟩:=Dp h;have hb:=(FQ p).1 h;have hl:=GF h;refine au1 fun j=>?_;rw[Nat.testBit_mod_two_pow,Nat.zero_testBit]
 by_cases hj:j<mh p
 ·
  rw[Dm _ _ _ hl (by omega),hb.2.2.2 _ (by omega) (by omega)];simp
 simp[hj]
theorem Rc{p:aZ}(h:bo p=true):gS p.key (bJ p)+2^mh p<=16:=by
 have h0:=Rb h;have bc:=vM p.key (bJ p);obtain⟨h1,_⟩:=Dp h;have:=avd (gS p.key (bJ p)) (2^mh p);generalize gS p.key (bJ p)=x at*;generalize mh p=e at*
 match e,h1 with
 |0,_=>simp;omega
 |1,_=>simp at*;omega
 |2,_=>simp at*;omega
 |3,_=>simp at*;omega
 |4,_=>simp at*;omega
theorem GI{r:Rt}{bits:Int}{w:Wy}{b:Nat}(hr:bo r.p=true)(GJ:r.p.bits=bits)(hw:w.ok)(hb:b<16):
  hit r bits w b=true↔w=c6 r.p.key (bJ r.p)/\gS r.p.key (bJ r.p)<=b/\b<gS r.p.key (bJ r.p)+2^mh r.p:=by
 obtain⟨zq,rR⟩:=Dp hr;have qf:=(FQ r.p).1 hr;have hl:=GF hr;rw[aa0 (vM _ _) hb zq (Rb hr)];constructor
 ·
  intro h;have gN:w=c6 r.p.key (bJ r.p):=by
   have h':=h;simp only[hit,anc,decide_eq_true_eq]at h';obtain⟨⟨h1,h2⟩,h3⟩:=h';rcases Int.lt_or_le 0 r.p.len with hl|hl
   ·
    rw[h2];exact Q9 hw hb h hl
   ·
    have h0:=Ra hl;rw[h0,A6];obtain⟨s,k⟩:=w;have hs:s=0:=by rw[h0]at h2;exact h2.symm
    subst hs;have:=hw.2;simp only[Nat.mul_zero]at this;rw[FM _ _ (by decide)]at this;rw[root,←this]
  refine⟨gN,fun j h1 h2=>?_⟩;subst gN;simp only[hit,anc,decide_eq_true_eq]at h;obtain⟨_,_,h4⟩:=(rP _ _).1 h.2;have hm:=congrArg (fun k:Key=>k.getMsbD (4*bJ r.p+3 -j)) h4;simp only[pc]at hm;rw[decide_eq_true (by omega),atU]at hm;rw[Dm _ _ _ hl h2,←hm];have e:=A7 (k:=(c6 r.p.key (bJ r.p)).key) (n:=bJ r.p) hl hb (Dn _ _) (4*bJ r.p+3 -j) (by omega);rw[if_neg (by omega),if_pos (by omega)]at e;have e':(tc (c6 r.p.key (bJ r.p)).key (c6 r.p.key (bJ r.p)).steps b).getMsbD (4*bJ r.p+3 -j)=b.testBit (4*bJ r.p+3 -(4*bJ r.p+3 -j)):=e;rw[e'];congr 1;omega
 ·
  rintro⟨rfl,h⟩;simp only[hit,anc,decide_eq_true_eq];refine⟨⟨GJ,rfl⟩,(rP _ _).2 ⟨hr,?_,?_⟩⟩
  ·
   have hf:=QY (k:=(c6 r.p.key (bJ r.p)).key) (n:=bJ r.p) hl hb (Dn _ _);refine(AS _ _).2 fun i hi h2=>?_;refine(AS _ _).1 hf i hi ?_;have:=qf.1;have h3:=qf.2.2.1;have h4:=qf.2.1;have:(bJ r.p:Int)<=(r.p.bits -1)/4:=by unfold bJ;omega
   omega
  ·
   refine uq fun i hi=>?_;have hm:=A7 (k:=(c6 r.p.key (bJ r.p)).key) (n:=bJ r.p) hl hb (Dn _ _) i hi;have GK:(tc (c6 r.p.key (bJ r.p)).key (c6 r.p.key (bJ r.p)).steps b).getMsbD i=_:=hm;rw[pc,GK]
   by_cases h1:(i:Int)<r.p.len
   ·
    rw[decide_eq_true h1,atU]
    by_cases h2:i<4*bJ r.p
    ·
     rw[if_pos h2];simp only[c6];rw[A8,decide_eq_true h2,atU]
    ·
     rw[if_neg h2,if_pos (by omega),h _ (by omega) (by omega),Dm _ _ _ hl (by omega)];congr 1;omega
   ·
    rw[decide_eq_false h1,avk,qf.2.2.2 i hi (by omega)]
def om(bits:Int)(W:List Wy)(R:List Rt)(r:Rt)(f:Nat):List Nd:=W.map fun w=>
 if w=c6 r.p.key (bJ r.p)then Nd.mk' (fun b=>if b<f then nG bits (R++[r]) w b else nG bits R w b) (rU W w)else ik bits W R w
@[simp] theorem Rd (bits:Int)(W:List Wy)(R:List Rt)(r:Rt)(f:Nat):(om bits W R r f).length=W.length:=by simp[om]
section
variable {bits:Int} {W:List Wy} {R:List Rt} {r:Rt} {f:Nat}
theorem GL{w:Wy}{b:Nat}(h:hit r bits w b=false):nG bits (R++[r]) w b=nG bits R w b:=by
 rw[KP,zp,if_neg (by rw[h];simp)]
theorem aa1(hW:jj W)(hr:bo r.p=true)(hb:r.p.bits=bits):om bits W R r (gS r.p.key (bJ r.p))=nodes bits W R:=by
 refine at6 fun w hw=>?_;split
 ·
  rename_i e;refine Nd.ext' (fun b cN=>?_) fun b cN=>by rw[ik,Nd.lL cN,Nd.lL cN]
  rw[ik,Nd.lK cN,Nd.lK cN];split
  ·
   rename_i bc;refine GL ?_
   cases hh:hit r bits w b with
   |false=>rfl
   |true=>have:=(GI hr hb (hW.ok w hw) cN).1 hh;omega
  rfl
 rfl
theorem aa2(hW:jj W)(hr:bo r.p=true)(hb:r.p.bits=bits):om bits W R r (gS r.p.key (bJ r.p)+2^mh r.p)=nodes bits W (R++[r]):=by
 refine at6 fun w hw=>?_;split
 ·
  rename_i e;refine Nd.ext' (fun b cN=>?_) fun b cN=>by rw[ik,Nd.lL cN,Nd.lL cN]
  rw[ik,Nd.lK cN,Nd.lK cN];split
  ·
   rfl
  rename_i bc;refine(GL ?_).symm
  cases hh:hit r bits w b with
  |false=>rfl
  |true=>have:=(GI hr hb (hW.ok w hw) cN).1 hh;omega
 rename_i e;refine Nd.ext' (fun b cN=>?_) fun b cN=>by rw[ik,ik,Nd.lL cN,Nd.lL cN]
 rw[ik,ik,Nd.lK cN,Nd.lK cN];refine(GL ?_).symm
 cases hh:hit r bits w b with
 |false=>rfl
 |true=>exact absurd ((GI hr hb (hW.ok w hw) cN).1 hh).1 e
theorem KT(f:Nat){i:Nat}(hi:W[i]? =some (c6 r.p.key (bJ r.p))):(om bits W R r f)[i]? =some (Nd.mk' (fun b=>if b<f then nG bits (R++[r]) (c6 r.p.key (bJ r.p)) b else nG bits R (c6 r.p.key (bJ r.p)) b) (rU W (c6 r.p.key (bJ r.p)))):=by
 simp[om,hi]
theorem Re{i:Nat}(hi:W[i]? =some (c6 r.p.key (bJ r.p)))(hf:f<16){n:Nd}(hn:(om bits W R r f)[i]? =some n):n.sl f=nG bits R (c6 r.p.key (bJ r.p)) f:=by
 rw[KT f hi]at hn;obtain rfl:=(asY hn).symm;rw[Nd.lK hf,if_neg (by omega)]
theorem aa3(hW:jj W)(hf: ¬(nG bits R (c6 r.p.key (bJ r.p)) f).len<=r.p.len):om bits W R r (f+1)=om bits W R r f:=by
 refine at6 fun w hw=>?_;split
 ·
  rename_i e;refine Nd.ext' (fun b cN=>?_) fun b cN=>by rw[Nd.lL cN,Nd.lL cN]
  rw[Nd.lK cN,Nd.lK cN]
  by_cases h1:b=f
  ·
   subst h1;rw[if_pos (by omega),if_neg (by omega),KP,zp,if_neg];subst e;intro h;exact hf h.2
  by_cases h2:b<f
  ·
   rw[if_pos (by omega),if_pos h2]
  rw[if_neg (by omega),if_neg h2]
 rfl
theorem aa4(hW:jj W)(hr:bo r.p=true)(hb:r.p.bits=bits){i:Nat}(hi:W[i]? =some (c6 r.p.key (bJ r.p))){n:Nd}(hn:(om bits W R r f)[i]? =some n)
  (h1:gS r.p.key (bJ r.p)<=f) (h2:f<gS r.p.key (bJ r.p)+2^mh r.p) (hf:(nG bits R (c6 r.p.key (bJ r.p)) f).len<=r.p.len):
  (om bits W R r f).set i (n.xE f ⟨r.p.len+1,r.bV⟩)=om bits W R r (f+1):=by
 have PR:=Rc hr;have KS:=alM hi;rw[KT f hi]at hn;obtain rfl:=(asY hn).symm;refine at5 fun j=>?_;rw[atI];split
 ·
  rename_i e;subst e;have dL:=(ad2.1 hi).1;rw[if_pos (by simpa using dL),KT (f+1) hi];refine congrArg some (Nd.ext' (fun b cN=>?_) fun b cN=>by rw[Nd.QV,Nd.lL cN,Nd.lL cN]);rw[Nd.Gy (by omega),Nd.lK cN,Nd.lK cN]
  by_cases h3:f=b
  ·
   subst h3;rw[if_pos rfl,if_pos (by omega),KP,zp,if_pos ⟨(GI hr hb (hW.ok _ KS) cN).2 ⟨rfl,h1,h2⟩,hf⟩]
  ·
   rw[if_neg h3]
   by_cases h4:b<f
   ·
    rw[if_pos h4,if_pos (by omega)]
   ·
    rw[if_neg h4,if_neg (by omega)]
 ·
  rename_i e;rcases as3 j W.length with hj|hj
  ·
   obtain⟨v,hv⟩: ∃v,W[j]? =some v:=⟨W[j],by simp[hj]⟩;have bM:v≠c6 r.p.key (bJ r.p):=fun e'=>by subst e';exact e (get_inj hW.nodup hi hv)
   simp[om,hv,bM]
  ·
   rw[as7 (by simpa using hj),as7 (by simpa using hj)]
end
theorem aa5{p:aZ}(h:0<=p.len):max (0:Int) ((p.len -1).tdiv 4)=((bJ p:Nat):Int):=by
 unfold bJ;rcases Int.lt_or_le 0 p.len with h1|h1
 ·
  rw[Int.tdiv_eq_ediv_of_nonneg (by omega)];omega
 obtain h2:p.len=0:=by omega
 rw[h2];decide
theorem aa6{l:Int}(h0:0<=l)(h1:l<=128):0<=(l -1).tdiv 4/\(l -1).tdiv 4<=31:=by
 rcases Int.lt_or_le 0 l with h|h
 ·
  rw[Int.tdiv_eq_ediv_of_nonneg (by omega)];omega
 obtain h2:l=0:=by omega
 rw[h2];decide
theorem Rf{W:List Wy}(hW:jj W)(p:aZ)(i:Nat):c6 p.key i∈dM W p i:=by
 rcases auy i with e|e
 ·
  subst e;rw[A6,KN];exact alM hW.root
 exact vN.2 (.inr ⟨i,e,as4 _,rfl⟩)
theorem vO.mono{bits:Int}{W W':List Wy}{R:List Rt}(h:vO bits W R)(hp:W<+:W'):vO bits W' R:=fun r hr hb s h1 h2=>hp.subset (h r hr hb s h1 h2)
theorem KU{bits:Int}: ∀(n:Nat) (t:List Rt),vO bits (lM bits (t.take n)) (t.take n)
 |0,t=>by simp[vO]
 |n+1,t=>by
  rcases as3 n t.length with h|h
  ·
   rw[auI h,KO];intro r hr hb s h1 h2;rcases as8.1 hr with hr|hr
   ·
    exact(KU n t).mono Q5 r hr hb s h1 h2
   obtain rfl:=atG.1 hr;rw[oh,if_pos hb];exact vN.2 (.inr ⟨s,h1,h2,rfl⟩)
  rw[ath (by omega)];have:=KU (bits:=bits) n t;rwa [ath h]at this
theorem Dq{bits:Int}{t:List Rt}{i:Nat}{r:Rt}(h:t[i]? =some r):lM bits (t.take (i+1))=oh (lM bits (t.take i)) r bits:=by
 obtain⟨hi,rfl⟩:=ad2.1 h;rw[auI hi,KO]
theorem aa7{bits:Int}{t:List Rt}: ∀{i j:Nat},i<=j->lM bits (t.take i)<+:lM bits (t.take j):=by
 intro i j mJ
 induction j with
 |zero=>obtain rfl:i=0:=by omega
        exact avy
 |succ j ih=>
  rcases as3 j i with h|h
  ·
   obtain rfl:i=j+1:=by omega
   exact avy
  refine(ih h).trans ?_;rcases as3 j t.length with h'|h'
  ·
   rw[auI h',KO];exact Q5
  rw[ath (by omega),ath (by omega)];exact avy
theorem aa8{bits:Int}{W:List Wy}{R:List Rt}{r:Rt}(h:r.p.bits≠bits):nodes bits W (R++[r])=nodes bits W R:=by
 refine at6 fun w hw=>?_;refine Nd.ext' (fun b cN=>?_) fun b cN=>by rw[ik,ik,Nd.lL cN,Nd.lL cN]
 rw[ik,ik,Nd.lK cN,Nd.lK cN,GL];simp[hit,h]
theorem aa9(bits:Int):nodes bits [root] []=[Nd.zero]:=by
 have e:ik bits [root] [] root=Nd.zero:=Nd.ext' (fun b hb=>by rw[ik,Nd.lK hb,Nd.QT];rfl) fun b hb=>by
  rw[ik,Nd.lL hb,Nd.QU,rU,if_neg];intro h;have:=congrArg Wy.steps (atG.1 h);simp[child,root]at this
 simp[nodes,e]
theorem uA{t:List Rt}(h:br t=true){r:Rt}(hr:r∈t):bo r.p=true:=by
 obtain⟨i,hi⟩:=aue.1 hr;have bc:=(ad2.1 hi).1
 cases hm:bo r.p with
 |true=>rfl
 |false=>rw[FR bc (PY hi hm)]at h;cases h
theorem uB{t:List Rt}(h:br t=true):t.length<=256:=by
 rcases as3 256 t.length with h1|h1
 ·
  rw[J8 h1]at h;cases h
 exact h1
def pq(t:List Rt)(bits:Int):Int:=if br t=true/\(bits=32\/bits=128)then(if(lM bits t).length<=512 then 0 else 5)else 1
def uC(t:List Rt)(bits:Int):Int:=if pq t bits=0 then bits else 0
def uD(t:List Rt)(bits:Int):List Nd:=if pq t bits=0 then nodes bits (lM bits t) t else[]
theorem aba{t:List Rt}{bits:Int}(h: ¬(br t=true/\(bits=32\/bits=128))):pq t bits=1/\uC t bits=0/\uD t bits=[]:=by
 have e:pq t bits=1:=by rw[pq,if_neg h]
 exact⟨e,by rw[uC,e];rfl,by rw[uD,e];rfl⟩
theorem abb{t:List Rt}{bits:Int}(h:br t=true/\(bits=32\/bits=128))(h2: ¬(lM bits t).length<=512):pq t bits=5/\uC t bits=0/\uD t bits=[]:=by
 have e:pq t bits=5:=by rw[pq,if_pos h,if_neg h2]
 exact⟨e,by rw[uC,e];rfl,by rw[uD,e];rfl⟩
theorem abc{t:List Rt}{bits:Int}(h:br t=true/\(bits=32\/bits=128))(h2:(lM bits t).length<=512):pq t bits=0/\uC t bits=bits/\uD t bits=nodes bits (lM bits t) t:=by
 have e:pq t bits=0:=by rw[pq,if_pos h,if_pos h2]
 exact⟨e,by rw[uC,e];rfl,by rw[uD,e];rfl⟩
open Go.ax
def bx(x:Int):Array Value:= #[.int .i64 x]
instance:bu bx 1:=⟨fun _=>rfl,fun _=>by simp[bx,Value.oneCell']⟩
instance (x:Int):cg (bx x) 0 (.int .i64 x):=⟨rfl⟩
instance:Deep Int:=Deep.flat bx 1
instance:gH Int bx 1:=⟨rfl,fun _=>rfl⟩
instance:Plain Int:=⟨fun _=>rfl⟩
def qg(s:gI):Array Value:= #[.int .i64 s.len, .int .u16 s.bV.toNat]
instance:bu qg 2:=⟨fun _=>rfl,fun _=>by simp[qg,Value.oneCell']⟩
instance (s:gI):gk (qg s) 2:=⟨rfl,bu.one s⟩
instance (s:gI):cg (qg s) 0 (.int .i64 s.len):=⟨rfl⟩
instance (s:gI):cg (qg s) 1 (.int .u16 s.bV.toNat):=⟨rfl⟩
def rV(n:Nd)(j:Nat):Value:=if j<32 then(if j%2=0 then .int .i64 (n.sl (j/2)).len else .int .u16 (n.sl (j/2)).bV.toNat)else .int .i64 (n.nx (j -32))
def dB(n:Nd):Array Value:=((List.range 48).map (rV n)).toArray
theorem GM(n:Nd):(dB n).size=48:=by simp[dB]
theorem zr(n:Nd)(j:Nat)(h:j<48):(dB n)[j]? =some (rV n j):=by simp[dB,h]
theorem GN(n:Nd)(j:Nat)(h:48<=j):(dB n)[j]? =none:=by simp[dB];omega
instance:bu dB 48:=⟨GM,fun n=>by
 rw[atM];intro v hv;simp only[dB,List.mem_toArray,at7]at hv;obtain⟨j,_,rfl⟩:=hv;unfold rV;split
 ·
  split<;>rfl
 rfl⟩
instance (n:Nd):gk (dB n) 48:=⟨GM n,bu.one n⟩
instance:Deep Nd:=Deep.flat dB 48
instance:gH Nd dB 48:=⟨rfl,fun _=>rfl⟩
instance:Plain Nd:=⟨fun _=>rfl⟩
theorem KV(n:Nd){b:Nat}(h:b<16):(dB n)[b*2]? =some (.int .i64 (n.sl b).len):=by
 rw[zr _ _ (by omega),rV,if_pos (by omega),if_pos (by omega),show b*2/2=b by omega]
theorem abd(n:Nd){b:Nat}(h:b<16):(dB n)[b*2+1]? =some (.int .u16 (n.sl b).bV.toNat):=by
 rw[zr _ _ (by omega),rV,if_pos (by omega),if_neg (by omega),show(b*2+1)/2=b by omega]
theorem Rh(n:Nd){b:Nat}(h:b<16):(dB n)[32+b]? =some (.int .i64 (n.nx b)):=by
 rw[zr _ _ (by omega),rV,if_neg (by omega),show 32+b -32=b by omega]
theorem abe(n:Nd){b:Nat}(h:b<16):nT (dB n) (b*2) 2 (qg (n.sl b)):=⟨rfl,fun j hj=>by
 match j,hj with
 |0,_=>exact KV n h
 |1,_=>exact abd n h⟩
theorem abf(n:Nd){b:Nat}(h:b<16)(x:Int):over (dB n) (32+b) #[.int .i64 x]=dB (n.xF b x):=auF fun j=>by
 rw[vz (by rw[GM];simp;omega)];rcases as3 j 48 with hj|hj
 ·
  rw[zr n j hj,zr (n.xF b x) j hj];split
  ·
   rename_i h2;have e:j=32+b:=by simp at h2;omega
   subst e;rw[auJ,rV,if_neg (by omega),show 32+b -32=b by omega,Nd.KM h,if_pos rfl];rfl
  rename_i h2;rw[rV,rV]
  by_cases h3:j<32
  ·
   rw[if_pos h3,if_pos h3,Nd.QW]
  rw[if_neg h3,if_neg h3,Nd.KM h,if_neg];simp at h2;omega
 rw[if_neg (by simp;omega),GN _ _ hj,GN _ _ hj]
theorem abg(n:Nd){b:Nat}(h:b<16)(s:gI):over (dB n) (b*2) (qg s)=dB (n.xE b s):=auF fun j=>by
 have hs:(qg s).size=2:=rfl;rw[vz (by rw[GM,hs];omega),hs];rcases as3 j 48 with hj|hj
 ·
  rw[zr n j hj,zr (n.xE b s) j hj];split
  ·
   rename_i h2;rw[rV,if_pos (by omega)];rcases as3 j (b*2+1)with h3|h3
   ·
    obtain rfl:j=b*2:=by omega
    rw[if_pos (by omega),show b*2/2=b by omega,Nd.Gy h,if_pos rfl,auJ];rfl
   obtain rfl:j=b*2+1:=by omega
   rw[if_neg (by omega),show(b*2+1)/2=b by omega,Nd.Gy h,if_pos rfl,show b*2+1 -b*2=1 by omega];rfl
  rename_i h2;rw[rV,rV]
  by_cases h3:j<32
  ·
   have bM: ¬b=j/2:=by omega
   rw[if_pos h3,if_pos h3,Nd.Gy h];simp only[if_neg bM]
  rw[if_neg h3,if_neg h3,Nd.QV]
 rw[if_neg (by omega),GN _ _ hj,GN _ _ hj]
structure mi where
 bits:Int
 ns:Sl Nd
def dN(t:mi):Array Value:= #[.int .i64 t.bits,t.ns.sv.val]
instance:bu dN 2:=⟨fun _=>rfl,fun t=>by
 have h1:(Value.int .i64 t.bits).oneCell'=true:=rfl;simp only[dN,auU,au2,avi,Sv.one,h1,auN]⟩
instance (t:mi):gk (dN t) 2:=⟨rfl,bu.one t⟩
instance (t:mi):nT (dN t) 0 2 (dN t):=⟨rfl,fun j _=>by rw[atF]⟩
instance (t:mi):cg (dN t) 0 (.int .i64 t.bits):=⟨rfl⟩
instance (t:mi):cg (dN t) 1 t.ns.sv.val:=⟨rfl⟩
instance:Deep mi where
 c:=2
 cells:=dN
 size:=bu.size
 one:=bu.one
 cM h x:=Deep.cM h x.ns
 ck x:=Deep.ck x.ns
 ki h x hs:=Deep.ki h x.ns hs
 mono w w' x:=Deep.mono w w' x.ns
variable {w0:World}{L:List aj}
instance{x:mi}[q:aT w0 L x]:aT w0 L x.ns:=⟨q.h⟩
instance{x:mi}[q:aT w0 L x]:Hd w0 L x.ns.sv dB 48 x.ns.xs:=(inferInstance:Hd w0 L x.ns.sv dB 48 x.ns.xs)
end Go.Kb
namespace Go.ax
open Go.Kb
section
variable {P:Program} {N:cc} {w0:World} {env:Env} {L:List aj} {d:Option Tmp} {ty:TypeId} {ps:String} {af:Array Edge} {gd:Option (Nat×Bool)}
theorem jR{x:Operand}{a:Addr}(hx:ev env x=some (.pointer (some a))):Ry P N w0 env L ⟨d, .nilCheck x,ty,ps,af,gd⟩ (.pointer (some a)):=fun _ w ha _=>by
 simp only[execOp,ha.ev hx,Sem.run_pure]
variable {s:Sv} {xs:List Nd} {a:Nd}
theorem Ri{t:TypeId}{x:Operand}{p:Nat}[ht:fW P t][q:Hd w0 L s dB 48 xs](hx:ev env x=some (.pointer (some ⟨s.b,p,none⟩)))(i:Nat)(hi:xs[i]? =some a)(b:Nat)(hb:b<16)(fG:p=s.o+i*48+32+b):
  Ry P N w0 env L ⟨d, .load t x,ty,ps,af,gd⟩ (.int .i64 (a.nx b)):=JG (j:=32+b) hx q.h hi (by omega) (by omega) (Rh a hb)
theorem abh{t:TypeId}{x:Operand}{p:Nat}[ht:fW P t][q:Hd w0 L s dB 48 xs](hx:ev env x=some (.pointer (some ⟨s.b,p,none⟩)))(i:Nat)(hi:xs[i]? =some a)(b:Nat)(hb:b<16)(fG:p=s.o+i*48+b*2):
  Ry P N w0 env L ⟨d, .load t x,ty,ps,af,gd⟩ (.int .i64 (a.sl b).len):=JG (j:=b*2) hx q.h hi (by omega) (by omega) (KV a hb)
theorem abi{t:TypeId}{x:Operand}{p:Nat}[ht:fE P t 2][q:Hd w0 L s dB 48 xs](hx:ev env x=some (.pointer (some ⟨s.b,p,none⟩)))(i:Nat)(hi:xs[i]? =some a)(b:Nat)(hb:b<16)(fG:p=s.o+i*48+b*2):
  Ry P N w0 env L ⟨d, .load t x,ty,ps,af,gd⟩ (.agg (qg (a.sl b))):=
 have:=abe a hb
 JH (j:=b*2) hx q.h hi (by omega) (by omega)
theorem abj{t T:TypeId}{x:Operand}{p k i:Nat}[ht:fW P t][q:Has L k (dB a) T i](hx:ev env x=some (.pointer (some ⟨k,p,none⟩)))(b:Nat)(hb:b<16)(fG:p=32+b):
  Ry P N w0 env L ⟨d, .load t x,ty,ps,af,gd⟩ (.int .i64 (a.nx b)):=uc hx (by rw[fG];exact Rh a hb)
theorem abk{t T:TypeId}{x:Operand}{p k i:Nat}[ht:fW P t][q:Has L k (dB a) T i](hx:ev env x=some (.pointer (some ⟨k,p,none⟩)))(b:Nat)(hb:b<16)(fG:p=b*2):
  Ry P N w0 env L ⟨d, .load t x,ty,ps,af,gd⟩ (.int .i64 (a.sl b).len):=uc hx (by rw[fG];exact KV a hb)
end
section
variable {P:Program} {N:cc} {w0:World} {env:Env} {L:List aj} {l:List Oper} {Q:Exit->Act->World->Prop} {rest:List Oper} {ty:TypeId} {ps:String} {af:Array Edge}
variable {s:Sv} {xs:List Nd} {a:Nd}
theorem abl{t:TypeId}{x y:Operand}{i k p:Nat}{v:gI}[ht:fE P t 2](hx:ev env x=some (.pointer (some ⟨s.b,p,none⟩)))(hy:ev env y=some (.agg (qg v)))[q:fI L s dB 48 xs i](ha:xs[k]? =some a)(b:Nat)(hb:b<16)(fG:p=s.o+k*48+b*2){L':List aj}[hu:fF L i (own dB 48 s (xs.set k (a.xE b v))) L'](hk:Sq P N w0 l Q rest env L'):
  Sq P N w0 l Q (⟨none, .store t x y,ty,ps,af,none⟩::rest) env L:=
 kW (j:=b*2) (n:=2) (a':=a.xE b v) ht.size hx hy (q:=q) (by omega) ha (bu.one v) rfl (by omega) (abg a hb v) hk
theorem Rj{t:TypeId}{x y:Operand}{i k p:Nat}{s:Sv}{xs:List Int}{a v:Int}[ht:fW P t](hx:ev env x=some (.pointer (some ⟨s.b,p,none⟩)))(hy:ev env y=some (.int .i64 v))[q:fI L s bx 1 xs i](ha:xs[k]? =some a)(fG:p=s.o+k*1){L':List aj}[hu:fF L i (own bx 1 s (xs.set k v)) L'](hk:Sq P N w0 l Q rest env L'):
  Sq P N w0 l Q (⟨none, .store t x y,ty,ps,af,none⟩::rest) env L:=
 kW (j:=0) (n:=1) (a':=v) ht.size hx hy (q:=q) (by omega) ha (by simp[Value.cells,Value.oneCell']) rfl (by omega) (by rfl) hk
end
end Go.ax
namespace Go.Kb
open Go.ax
theorem vS(k:IntKind)(n:Int):(Value.int k n).oneCell'=true:=rfl
theorem vT(b:Bool):(Value.bool b).oneCell'=true:=rfl
instance:gu Int:=gu.flat fun _ _=>trivial
structure Ft where
 op:Int
 fail:Bool
 cut:Bool
 mask:UInt8
 deriving DecidableEq
def eO(x:Ft):Array Value:= #[.int .i64 x.op, .bool x.fail, .bool x.cut, .int .u8 x.mask.toNat]
instance:bu eO 4:=⟨fun _=>rfl,fun x=>by
 simp only[eO,auU,au2,avi,Sv.one,vS,vT,auN]⟩
instance (x:Ft):gk (eO x) 4:=⟨rfl,bu.one x⟩
instance (x:Ft):cg (eO x) 0 (.int .i64 x.op):=⟨rfl⟩
instance (x:Ft):cg (eO x) 1 (.bool x.fail):=⟨rfl⟩
instance (x:Ft):cg (eO x) 2 (.bool x.cut):=⟨rfl⟩
instance (x:Ft):cg (eO x) 3 (.int .u8 x.mask.toNat):=⟨rfl⟩
instance:Deep Ft:=Deep.flat eO 4
instance:Plain Ft:=⟨fun _=>rfl⟩
instance:gu Ft:=gu.flat fun _ _=>trivial
instance:gH Ft eO 4:=⟨rfl,fun _=>rfl⟩
def Bc:Ft:=⟨0,false,false,0⟩
structure Bk where
 pages:Sl (Sl UInt8)
 used:Int
 aR:Int
 bad:Bool
def bY(x:Bk):Array Value:= #[x.pages.sv.val, .int .i64 x.used, .int .i64 x.aR, .bool x.bad]
instance:bu bY 4:=⟨fun _=>rfl,fun x=>by
 simp only[bY,auU,au2,avi,Sv.one,vS,vT,auN]⟩
instance (x:Bk):gk (bY x) 4:=⟨rfl,bu.one x⟩
instance (x:Bk):cg (bY x) 0 (x.pages.sv.val):=⟨rfl⟩
instance (x:Bk):cg (bY x) 1 (.int .i64 x.used):=⟨rfl⟩
instance (x:Bk):cg (bY x) 2 (.int .i64 x.aR):=⟨rfl⟩
instance (x:Bk):cg (bY x) 3 (.bool x.bad):=⟨rfl⟩
instance:Deep Bk where
 c:=4
 cells:=bY
 size:=bu.size
 one:=bu.one
 cM h x:=Deep.cM h x.pages
 ck x:=Deep.ck x.pages
 ki h x hs:=Deep.ki h x.pages hs
 mono w w' x hg hb:=Deep.mono w w' x.pages hg hb
instance:gu Bk where
 reach x k:=gu.reach x.pages k
 congr h h' x e hg:=gu.congr h h' x.pages (fun k hk=>e k (hk)) hg
variable {w0:World}{L:List aj}
instance{x:Bk}[q:aT w0 L x]:aT w0 L x.pages:=⟨fun w hw=>(q.h w hw)⟩
instance:gH Bk bY 4:=⟨rfl,fun _=>rfl⟩
def qW:Bk:=⟨⟨Sv.none,[]⟩,0,0,false⟩
structure Cp where
 pages:Int
 size:Int
 blocks:Sl Bk
 ops:Int
 off:Bool
 aV:Sl Ft
def aS(x:Cp):Array Value:= #[.int .i64 x.pages, .int .i64 x.size,x.blocks.sv.val, .int .i64 x.ops, .bool x.off,x.aV.sv.val]
instance:bu aS 6:=⟨fun _=>rfl,fun x=>by
 simp only[aS,auU,au2,avi,Sv.one,vS,vT,auN]⟩
instance (x:Cp):gk (aS x) 6:=⟨rfl,bu.one x⟩
instance (x:Cp):cg (aS x) 0 (.int .i64 x.pages):=⟨rfl⟩
instance (x:Cp):cg (aS x) 1 (.int .i64 x.size):=⟨rfl⟩
instance (x:Cp):cg (aS x) 2 (x.blocks.sv.val):=⟨rfl⟩
instance (x:Cp):cg (aS x) 3 (.int .i64 x.ops):=⟨rfl⟩
instance (x:Cp):cg (aS x) 4 (.bool x.off):=⟨rfl⟩
instance (x:Cp):cg (aS x) 5 (x.aV.sv.val):=⟨rfl⟩
instance:Deep Cp where
 c:=6
 cells:=aS
 size:=bu.size
 one:=bu.one
 cM h x:=Deep.cM h x.blocks/\Deep.cM h x.aV
 ck x:= .two (Deep.ck x.blocks) (Deep.ck x.aV)
 ki h x hs:=⟨Deep.ki h x.blocks hs.1,Deep.ki h x.aV hs.2.1⟩
 mono w w' x hg hb:=⟨Deep.mono w w' x.blocks hg.1 hb,Deep.mono w w' x.aV hg.2 hb⟩
instance:gu Cp where
 reach x k:=gu.reach x.blocks k\/gu.reach x.aV k
 congr h h' x e hg:=⟨gu.congr h h' x.blocks (fun k hk=>e k (.inl hk)) hg.1,gu.congr h h' x.aV (fun k hk=>e k (.inr hk)) hg.2⟩
instance{x:Cp}[q:aT w0 L x]:aT w0 L x.blocks:=⟨fun w hw=>(q.h w hw).1⟩
instance{x:Cp}[q:aT w0 L x]:aT w0 L x.aV:=⟨fun w hw=>(q.h w hw).2⟩
instance{pages:Int}{size:Int}{blocks:Sl Bk}{ops:Int}{off:Bool}{aV:Sl Ft}[q0:aT w0 L blocks][q1:aT w0 L aV]:aT w0 L (Cp.mk pages size blocks ops off aV):=⟨fun w hw=>⟨q0.h w hw,q1.h w hw⟩⟩
def hO:Cp:=⟨0,0,⟨Sv.none,[]⟩,0,false,⟨Sv.none,[]⟩⟩
end Go.Kb
namespace Go.ax
theorem dJ.cut{α:Type}{enc:α->Array Value}{c:Nat}{h:Nat->Option Obj}{s:Sv}{xs:List α}(r:dJ enc c h s xs){lo hi:Nat}(h1:lo<=hi)(h2:hi<=xs.length):dJ enc c h ⟨s.nil,s.b,if hi=lo then s.o else s.o+lo*c,hi -lo,hi -lo,s.sp⟩ ((xs.drop lo).take (hi -lo)):=by
  have hl:=r.len;have hle:=r.ok.le;have jk:=r.ok.bd;refine⟨⟨fun hn=>?_,as4 _,?_,fun hc=>?_⟩,?_,fun i x nR j hj=>?_⟩
  ·have:=r.ok.nil hn
   simp only at this⊢;omega
  ·simp only;omega
  ·simp only at hc⊢;exact r.ok.sp (by omega)
  ·simp;omega
  ·have dL:=(ad2.1 nR).1
   rw[as6,as9]at dL;have hx:xs[lo+i]? =Option.some x:=by rw[avv,if_pos (by omega),aug]at nR;exact nR
   have:=r.row (lo+i) x hx j hj;simp only;rw[if_neg (by omega),show s.o+lo*c+i*c+j=s.o+(lo+i)*c+j by rw[atB];omega];exact this
end Go.ax
namespace Go.Kb
open Go.ax
structure BV where
  pages:List (List UInt8)
  used:Int
  aR:Int
  bad:Bool
  deriving DecidableEq
structure CV where
  pages:Int
  size:Int
  blocks:List BV
  ops:Int
  off:Bool
  aV:List Ft
  deriving DecidableEq
def aM(l:List (Sl UInt8)):List (List UInt8):=l.map fun x=>x.xs
theorem pt(l:List (Sl UInt8)):(aM l).length=l.length:=by simp[aM]
theorem qX{l:List (Sl UInt8)}{i:Nat}{x:Sl UInt8}(h:l[i]? =some x):(aM l)[i]? =some x.xs:=by simp[aM,h]
def bv(b:Bk):BV:=⟨aM b.pages.xs,b.used,b.aR,b.bad⟩
def jl(l:List Bk):List BV:=l.map bv
theorem iq(l:List Bk):(jl l).length=l.length:=by simp[jl]
theorem nH{l:List Bk}{i:Nat}{x:Bk}(h:l[i]? =some x):(jl l)[i]? =some (bv x):=by simp[jl,h]
def cv(c:Cp):CV:=⟨c.pages,c.size,jl c.blocks.xs,c.ops,c.off,c.aV.xs⟩
def win(rm:Sv)(lo hi:Nat):Sv:=⟨rm.nil,rm.b,if hi=lo then rm.o else rm.o+lo,hi -lo,hi -lo,rm.sp⟩
def dD(rm:Sv):Nat->List (List UInt8)->List (Sl UInt8)
  |_,[]=>[]
  |o,p::r=>⟨win rm o (o+p.length),p⟩::dD rm (o+p.length) r
theorem xG(rm:Sv): ∀(o:Nat) (l:List (List UInt8)),aM (dD rm o l)=l
  |_,[]=>rfl
  |o,p::r=>by
   have:=xG rm (o+p.length) r;simp only[aM,dD,atq]at this⊢;rw[this]
theorem KW(rm:Sv): ∀(o:Nat) (l:List (List UInt8)),(dD rm o l).length=l.length
  |_,[]=>rfl
  |o,p::r=>by rw[dD,asZ,asZ,KW]
theorem GO(rm:Sv): ∀(o:Nat) (l:List (List UInt8)) (x:Sl UInt8),x∈dD rm o l->x.sv.b=rm.b
  |_,[],_,h=>by cases h
  |o,p::r,x,h=>by
   rcases as2.1 h with rfl|h
   ·rfl
   ·exact GO rm _ r x h
theorem Rk(rm:Sv): ∀(o:Nat) (l:List (List UInt8)) (p:List UInt8),dD rm o (l++[p])=dD rm o l++[⟨win rm (o+l.flatten.length) (o+l.flatten.length+p.length),p⟩]
  |o,[],p=>by simp[dD]
  |o,q::r,p=>by
   rw[aup,dD,Rk,dD];simp only[auw,af0,aup,auB]
theorem Rl{rm:Sv}{h:Nat->Option Obj}{all:List UInt8}(hl:dJ aQ 1 h rm all): ∀(o:Nat) (l:List (List UInt8)),o+l.flatten.length<=all.length->(all.drop o).take l.flatten.length=l.flatten-> ∀x∈dD rm o l,dJ aQ 1 h x.sv x.xs
  |_,[],_,_,_,hx=>by cases hx
  |o,p::r,hb,he,x,hx=>by
   rw[auw,af0]at hb;rw[auw,af0]at he
   have e1:(all.drop o).take p.length=p:=by
      have:=congrArg (List.take p.length) he;rw[List.take_take,avI (by omega),List.take_left']at this
      ·exact this
      ·rfl
   have e2:(all.drop (o+p.length)).take r.flatten.length=r.flatten:=by
      have:=congrArg (List.drop p.length) he;rw[List.drop_take,au5,List.drop_left' rfl,show p.length+r.flatten.length -p.length=r.flatten.length by omega]at this;exact this
   rcases as2.1 hx with rfl|hx
   ·have:=hl.cut (lo:=o) (hi:=o+p.length) (by omega) (by omega)
    rw[auL,show o+p.length -o=p.length by omega,e1]at this;simpa[win]using this
   ·exact Rl hl (o+p.length) r (by omega) e2 x hx
def Bd(a:Sl (Sl UInt8)):aj:=⟨fun k=> ∃x∈a.xs,k=x.sv.b,fun h=>a.xs=[]\/ ∃rm,rm.nil=false/\a.xs=dD rm 0 (aM a.xs)/\(own aQ 1 rm (aM a.xs).flatten).sat h,fun h h' e s=>by
  rcases s with s|⟨rm,h1,h2,h3⟩
  ·exact .inl s
  ·rcases List.eq_nil_or_concat a.xs with hx|⟨l,x,hx⟩
   ·exact .inl hx
   ·have hm:x∈a.xs:=by rw[hx];simp
    have hb:x.sv.b=rm.b:=GO rm 0 _ x (h2▸hm);exact .inr ⟨rm,h1,h2,(own aQ 1 rm (aM a.xs).flatten).loc h h' (fun k hk=>e k ⟨x,hm,by rw[hb];exact hk.2⟩) h3⟩⟩
def fA(a:Sl (Sl UInt8)):aj:= .two (own (cd (τ:=UInt8)) 1 a.sv a.xs) (Bd a)
theorem abm{a:Sl (Sl UInt8)}{h:Nat->Option Obj}(s:(Bd a).sat h): ∀x∈a.xs,dJ aQ 1 h x.sv x.xs:=fun x hx=>by
  rcases s with s|⟨rm,h1,h2,h3⟩
  ·rw[s]at hx;cases hx
  ·refine Rl h3.1 0 (aM a.xs) (by omega) (by rw[auu,atr]) x (h2▸hx)
theorem Dr{α:Type}{enc:α->Array Value}{c:Nat}{s:Sv}{xs:List α}{h:Nat->Option Obj}(hl:dJ enc c h s xs)(hx:xs≠[]):(own enc c s xs).fp s.b:=
  ⟨hl.ok.some (by have:=hl.len;have:=avo.2 hx;omega),rfl⟩
theorem aj.GP{k:Nat}: ∀{es:List aj} {e:aj},e∈es->e.fp k->(aj.all es).fp k
  |_::_,_,he,hk=>(as2.1 he).elim (fun h=> .inl (h▸hk)) fun h=> .inr (aj.GP h hk)
theorem Rn{α:Type}{e:α}: ∀{L:List α} {i:Nat},L[i]? =Option.some e->L.Perm (e::L.eraseIdx i)
  |[],i,h=>by simp at h
  |x::L,0,h=>by obtain rfl:x=e:=by simpa using h
                simp
  |x::L,i+1,h=>by
   have:=Rn (L:=L) (i:=i) (by simpa using h);rw[avW];exact(this.cons x).trans (.swap _ _ _)
theorem Mem.pick{τ:Type}{f:τ->aj}{w0 w:World}{L:List aj}{xs:List τ}{i:Nat}{x:τ}(hx:xs[i]? =some x):Mem w0 (aj.all (xs.map f)::L) w↔Mem w0 (f x::aj.all ((xs.eraseIdx i).map f)::L) w:=by
  have hp:(xs.map f).Perm (f x::(xs.eraseIdx i).map f):=by
    have:=Rn hx;simpa using this.map f
  rw[Mem.CZ];have e:Mem w0 (f x::aj.all ((xs.eraseIdx i).map f)::L) w↔Mem w0 (f x::((xs.eraseIdx i).map f++L)) w:=by
    have sw: ∀(a b:aj) (K:List aj),Mem w0 (a::b::K) w↔Mem w0 (b::a::K) w:=fun a b K=>⟨fun h=>h.perm (List.Perm.swap _ _ _),fun h=>h.perm (List.Perm.swap _ _ _)⟩;rw[sw,Mem.CZ];exact⟨fun h=>h.perm avh,fun h=>h.perm avh.symm⟩
  rw[e];exact⟨fun h=>h.perm (hp.append_right L),fun h=>h.perm (hp.append_right L).symm⟩
theorem abn{w0 w:World}{L:List aj}{a:Sl Bk}(h:Mem w0 (own bY 4 a.sv a.xs::aj.all (a.xs.map fun b:Bk=>fA b.pages)::L) w):Mem w0 (fz a::L) w:=by
  have hs:=h.sat (own bY 4 a.sv a.xs) (by simp);have ha:=h.sat (aj.all (a.xs.map fun b:Bk=>fA b.pages)) (by simp);have hb: ∀x∈a.xs,(fA x.pages).sat fun k=>w.heap[k]? :=fun x hx=>aj.C0 ha _ (atp hx);refine Mem.freeze (es:=[own bY 4 a.sv a.xs,aj.all (a.xs.map fun b:Bk=>fA b.pages)]) a ⟨hs.1,fun x hx=>⟨(hb x hx).1.1,fun y hy=>⟨abm (hb x hx).2.1 y hy,fun _ _=>trivial⟩⟩⟩ (fun k hk=>?_) h;rcases hk with⟨bM,rfl⟩|⟨x,hx,hk⟩
  ·exact⟨_,by simp,Dr hs.1 bM⟩
  ·refine⟨aj.all (a.xs.map fun b:Bk=>fA b.pages),by simp,aj.GP (atp hx) ?_⟩
   rcases hk with⟨bM,rfl⟩|⟨y,hy,⟨_,rfl⟩|⟨_,_,hf⟩⟩
   ·exact .inl (Dr (hb x hx).1.1 bM)
   ·exact .inr ⟨y,hy,rfl⟩
   ·exact hf.elim
theorem GQ{τ:Type}[Deep τ][r:gu τ][Plain τ]{enc:τ->Array Value}{c:Nat}[f:gH τ enc c](hr: ∀(x:τ) k,¬r.reach x k)(hg: ∀h (x:τ),Deep.cM h x){w0 w:World}{L:List aj}{a:Sl τ}(h:Mem w0 (own enc c a.sv a.xs::L) w):Mem w0 (fz a::L) w:=by
  have hs:=h.sat (own enc c a.sv a.xs) (by simp);have e1:Deep.cells (τ:=τ)=enc:=funext (gH.h (c:=c));have e2:Deep.c τ=c:=gH.hc (enc:=enc);refine Mem.aaK a ⟨by rw[e1,e2];exact hs.1,fun x _=>hg _ x⟩ (fun k hk=>?_) h;rcases hk with⟨bM,rfl⟩|⟨x,_,hk⟩
  ·exact Dr hs.1 bM
  ·exact(hr x k hk).elim
theorem GR{w0 w:World}{L:List aj}{d:Cp}(h:Mem w0 (fz d.blocks::fz d.aV::L) w):Mem w0 (fz d::L) w:=by
  refine Mem.freeze (es:=[fz d.blocks,fz d.aV]) d ⟨h.sat (fz d.blocks) (by simp),h.sat (fz d.aV) (by simp)⟩ (fun k hk=>?_) h;rcases hk with hk|hk
  ·exact⟨fz d.blocks,by simp,hk⟩
  ·exact⟨fz d.aV,by simp,hk⟩
theorem Ro{w0 w:World}{L:List aj}{a:Sl Ft}(h:Mem w0 (own eO 4 a.sv a.xs::L) w):Mem w0 (fz a::L) w:=GQ (fun _ _ h=>h) (fun _ _=>trivial) h
theorem zt{w0 w:World}{L:List aj}{a:Sl Int}(h:Mem w0 (own bx 1 a.sv a.xs::L) w):Mem w0 (fz a::L) w:=GQ (fun _ _ h=>h) (fun _ _=>trivial) h
theorem KX{w0 w:World}{L:List aj}{a:Sl UInt8}(h:Mem w0 (own aQ 1 a.sv a.xs::L) w):Mem w0 (fz a::L) w:=GQ (fun _ _ h=>h) (fun _ _=>trivial) h
def cV:Int:=1099511627776
def vU(b p s:Int):Bool:=decide (1<=b)&&decide (b<=32)&&decide (1<=p)&&decide (p<=16)&&decide (1<=s)&&decide (s<=256)
theorem mj{b p s:Int}:vU b p s=true↔1<=b/\b<=32/\1<=p/\p<=16/\1<=s/\s<=256:=by
 simp only[vU,anc,decide_eq_true_eq,and_assoc]
def Rp(s:Int)(x:List UInt8):Bool:=decide ((x.length:Int)=s)
def qY(p s:Int)(b:BV):Bool:=decide ((b.pages.length:Int)=p)&&decide (0<=b.used)&&decide (b.used<=p)&&decide (0<=b.aR)&&decide (b.aR<=cV)&&b.pages.all (Rp s)
theorem fm{p s:Int}{b:BV}:qY p s b=true↔(b.pages.length:Int)=p/\0<=b.used/\b.used<=p/\0<=b.aR/\b.aR<=cV/\ ∀x∈b.pages,(x.length:Int)=s:=by
 simp only[qY,Rp,anc,decide_eq_true_eq,and_assoc,atk]
def bb(c:CV):Bool:=vU c.blocks.length c.pages c.size&&decide (0<=c.ops)&&decide (c.ops<=cV)&&decide (c.aV.length<=64)&&c.blocks.all (qY c.pages c.size)
theorem fJ{c:CV}:bb c=true↔vU c.blocks.length c.pages c.size=true/\0<=c.ops/\c.ops<=cV/\c.aV.length<=64/\ ∀b∈c.blocks,qY c.pages c.size b=true:=by
 simp only[bb,anc,decide_eq_true_eq,and_assoc,atk]
def ir(c:CV)(block:Int):Bool:=bb c&&decide (0<=block)&&decide (block<c.blocks.length)
theorem iu{c:CV}{block:Int}:ir c block=true↔bb c=true/\0<=block/\block<c.blocks.length:=by
 simp only[ir,anc,decide_eq_true_eq,and_assoc]
def zBV:BV:=⟨[],0,0,false⟩
def ak(c:CV)(block:Int):BV:=c.blocks.getD block.toNat zBV
def iv(n:Int):List UInt8:=List.replicate n.toNat 255
def rW(b p s:Int):CV×Int:=if vU b p s=true then(⟨p,s,List.replicate b.toNat ⟨List.replicate p.toNat (iv s),0,0,false⟩,0,false,[]⟩,0)else(⟨0,0,[],0,false,[]⟩,1)
def bt(c:CV):Ft×Bool:=match c.aV.find? fun f=>decide (f.op=c.ops)with
 |some f=>(f,f.cut||f.fail)
 |none=>(Bc,false)
def mn(f:Ft):Int:=if f.cut=true then 7 else 9
def oo(c:CV)(block pv:Int)(p:List UInt8):Bool:=ir c block&&decide (0<=pv)&&decide (pv<c.pages)&&decide ((p.length:Int)=c.size)&&decide (c.ops<cV)
theorem jS{c:CV}{block pv:Int}{p:List UInt8}:oo c block pv p=true↔ir c block=true/\0<=pv/\pv<c.pages/\(p.length:Int)=c.size/\c.ops<cV:=by
 simp only[oo,anc,decide_eq_true_eq,and_assoc]
def cY(m:UInt8)(p:List UInt8):List UInt8:=p.map fun x=>x|||m
def pw(c:CV)(p:List UInt8):List UInt8:=if(bt c).2=true then cY (~~~(bt c).1.mask) p else p
def iM(c:CV)(block pv:Int)(p:List UInt8):CV:=
 {c with ops:=c.ops+1,off:=(bt c).2&&(bt c).1.cut,blocks:=c.blocks.set block.toNat {ak c block with used:=(ak c block).used+1,pages:=(ak c block).pages.set pv.toNat (pw c p)}}
def kH(c:CV)(block pv:Int)(p:List UInt8):Int:=
 if oo c block pv p=true then(if c.off=true then 7 else if(ak c block).bad=true\/pv≠(ak c block).used then 9 else if(bt c).2=true then mn (bt c).1 else 0)else 1
def gT(c:CV)(block pv:Int)(p:List UInt8):CV:=
 if oo c block pv p=true/\c.off=false/\(ak c block).bad=false/\pv=(ak c block).used then iM c block pv p else c
def px(c:CV)(block:Int):Bool:=ir c block&&decide (c.ops<cV)&&decide ((ak c block).aR<cV)
theorem qh{c:CV}{block:Int}:px c block=true↔ir c block=true/\c.ops<cV/\(ak c block).aR<cV:=by
 simp only[px,anc,decide_eq_true_eq,and_assoc]
def td(c:CV)(ps:List (List UInt8)):List (List UInt8):=if(bt c).2=true then ps.map (cY (bt c).1.mask)else ps.map fun _=>iv c.size
def k9(c:CV)(block:Int):CV:=
 {c with ops:=c.ops+1,off:=(bt c).2&&(bt c).1.cut,blocks:=c.blocks.set block.toNat {ak c block with used:=if(bt c).2=true then c.pages else 0,aR:=(ak c block).aR+1,pages:=td c (ak c block).pages}}
def dZ(c:CV)(block:Int):Int:=
 if px c block=true then(if c.off=true then 7 else if(ak c block).bad=true then 9 else if(bt c).2=true then mn (bt c).1 else 0)else 1
def gv(c:CV)(block:Int):CV:=if px c block=true/\c.off=false/\(ak c block).bad=false then k9 c block else c
def qi(c:CV)(block:Int):Int:=if ir c block=true then(if c.off=true then 7 else 0)else 1
def mo(c:CV)(block:Int):CV:=if qi c block=0 then{c with blocks:=c.blocks.set block.toNat {ak c block with bad:=true}}else c
def xH(c:CV)(fs:List Ft):Int:=if bb c=true/\fs.length<=64 then 0 else 1
def Ds(c:CV)(fs:List Ft):CV:=if xH c fs=0 then{c with off:=false,aV:=fs}else c
theorem GS{c:CV}{block:Int}(h:ir c block=true):c.blocks[block.toNat]? =some (ak c block):=by
 obtain⟨_,h2,h3⟩:=iu.1 h;exact mN (by omega)
theorem qZ{c:CV}{block:Int}(h:ir c block=true):qY c.pages c.size (ak c block)=true:=
 (fJ.1 (iu.1 h).1).2.2.2.2 _ (alM (GS h))
end Go.Kb
