/- Laws and walks by which the law LabRight is proved, each with its own conditions. -/
import Derived.Test.YtkggjjnhnjjokaaGreatDoorI6
import Derived.ProofKit
import Derived.Deep.Slices
import Derived.HandedShaped
import Derived.Lay
import Derived.MakeChecks
import Derived.Stop.Joined
set_option maxRecDepth 20000
set_option linter.unusedSimpArgs false
set_option linter.unusedVariables false
namespace Go.Proofs.YtkggjjnhnjjokaaGreatDoor
open Go.ay Go.Kb Go.RowKit
structure gM where
 b:Int
 p:Int
 s:Int
 l:Sl aO
def eV(x:gM):Array Value:= #[.int .i64 x.b, .int .i64 x.p, .int .i64 x.s,x.l.sv.val]
instance:bn eV 4:=⟨fun _=>rfl,fun x=>by
 simp only[eV,anI,anQ,anY,Sv.one,ry,rz,anR]⟩
instance (x:gM):eY (eV x) 4:=⟨rfl,bn.one x⟩
instance (x:gM):bH (eV x) 0 (.int .i64 x.b):=⟨rfl⟩
instance (x:gM):bH (eV x) 1 (.int .i64 x.p):=⟨rfl⟩
instance (x:gM):bH (eV x) 2 (.int .i64 x.s):=⟨rfl⟩
instance (x:gM):bH (eV x) 3 (x.l.sv.val):=⟨rfl⟩
instance:Deep gM where
 c:=4
 cells:=eV
 size:=bn.size
 one:=bn.one
 dD h x:=Deep.dD h x.l
 cg x:=Deep.cg x.l
 iU h x hs:=Deep.iU h x.l hs
 mono w w' x hg hb:=Deep.mono w w' x.l hg hb
variable {w0:World}{L:List ah}
instance{x:gM}[q:aU w0 L x]:aU w0 L x.l:=⟨fun w hw=>(q.h w hw)⟩
def kG:gM:=⟨0,0,0,⟨Sv.none,[]⟩⟩
def eW(x:gM):ox:=⟨x.b,x.p,x.s,x.l.xs⟩
instance:pX Tryz.prog 76 [] (.agg (eV kG)):=⟨fun w=>by kernel_rfl⟩
instance:dH Tryz.prog 76 (.agg (eV kG)):=⟨by kernel_rfl⟩
instance:dH Tryz.prog 242 (.agg (yI [] 0)):=⟨by kernel_rfl⟩
def wZ(s:aB):gM:=match jH s with
 |some q=>⟨(q.1:Nat),(q.2.1:Nat),(q.2.2:Nat),⟨Sv.none,[]⟩⟩
 |none=>kG
theorem abz{α:Type}{l:List α}{i:Nat}{d:α}(h:i<l.length):l.getD i d∈l:=by simp[List.getD,h]
theorem Qh{s:aB}(h:jH s=none):wZ s=kG:=by rw[wZ,h]
theorem Qi{s:aB}{a b c:Nat}(h:jH s=some (a,b,c)):wZ s=⟨(a:Nat),(b:Nat),(c:Nat),⟨Sv.none,[]⟩⟩:=by rw[wZ,h]
instance alR{s:List UInt8}[tb:gS w0]:bD Tryz.prog 79 w0 L [.string ⟨s.toArray⟩] (.tuple #[.agg (eV (wZ s)), .bool ((jH s).isSome)]) (s.length<=1000000000):=⟨fun aw w hw=>by
 have tb:=tb.at hw;refine bQ Tryz.func79 rfl Tryz.ntmps79 rfl ?_;refine Gc ?_;refine bc fun b2=>aj ?_;refine aW rfl oM fun cB pO=>ct ?_;refine aV rfl rfl rfl (fun hg=>(Ry.yl (aY (au hg rfl) rfl 0 rfl (by simp only[Z0,Z1,Z2,Z3,Z4,Z5,Z6,Z7,Z8,Z9]at hg;omega)))) (aV rfl rfl rfl (fun hg=>(Ry.yl (bB (j:=0) (au hg rfl) 0 (jZ (xs:=(aE 32 s)) (i:=0) (d:=([]:aB)) (by simp only[Z0,Z1,Z2,Z3,Z4,Z5,Z6,Z7,Z8,Z9]at hg;omega)) rfl (by decide)))) (aV rfl rfl rfl (fun hg=>(Ry.yl (xu (au hg rfl) rfl))) (ao ?_)));refine Gb ?_ ?_<;>intro h0
 ·
  have cF:jH s=none:=by
   by_cases q:(aE 32 s).length=4
   ·
    refine L4 q fun g=>?_;rcases h0 with r|r
    ·
     omega
    exact r g
   exact L3 q
  refine Gc ?_;refine ae (cX rfl) (aj ?_);refine Gr fun w1 hw=>?_;exact⟨(by rw[Qh cF,cF];rfl),ag.mem hw⟩
 have h4:(aE 32 s).length=4:=by omega
 have mA:(aE 32 s).getD 0 []=ux:=h0.2;have PL:(((aE 32 s).drop 1).take ((aE 32 s).length -1)).length=3:=by rw[amo,amu];omega
 refine Gc ?_;refine bc fun b5=>ao ?_;have IW:Rg 1 ((aE 32 s).length) (aE 32 s).length:=⟨by omega⟩;refine ae (zK rfl rfl 1 rfl IW.h.1) (aj ?_);refine bI (X:=Nat) (fun U=>[(25, .int .i64 (U:Nat)),(2, .pointer (some ⟨b2,0,none⟩)),(5, .pointer (some ⟨b5,0,none⟩)),(23,((⟨false,cB,0,(aE 32 s).length,(aE 32 s).length,none⟩:Sv).sub 1 1 ((aE 32 s).length)).val),(24, .int .i64 ((((aE 32 s).drop 1).take ((aE 32 s).length -1)).length:Nat))]) (fun U=>[al b5 (yI (aE 32 s) U) 242,own gu 1 ⟨false,cB,0,(aE 32 s).length,(aE 32 s).length,none⟩ (aE 32 s),al b2 (eV kG) 76]) (fun U=>U<=3/\ ∀j,j<U->(bj ((aE 32 s).getD (j+1) []) 999).isSome=true) (fun U=>3 -U) 0 ⟨Nat.zero_le _,fun j h=>by first|omega|(simp only[];omega)⟩ sb (fun w hw=>ag.mem (show Mem _ [al b5 (yI (aE 32 s) 0) 242,own gu 1 ⟨false,cB,0,(aE 32 s).length,(aE 32 s).length,none⟩ (aE 32 s),al b2 (eV kG) 76] _ from hw)) ?_;rintro i ⟨hi,aF⟩;refine aj ?_;refine Gb ?_ ?_<;>intro h1
 ·
  refine ao ?_;obtain⟨x,hx⟩:=get_some (xs:=(((aE 32 s).drop 1).take ((aE 32 s).length -1))) (i:=i) oM;refine ae (aY rfl rfl i rfl oM) (ae (bB (j:=0) rfl i hx rfl (by decide)) (ao ?_));refine iY ?_;have pS:(aE 32 s).getD (i+1) []=x:=by
   rw[anO,if_pos oM,ang,aoy]at hx;simp[List.getD,hx]
  have xW:x.length<=s.length:=ri s (by rw[←pS];exact abz oM);have hxn:gE (aE 32 s) i=(bj x 999).getD 0:=by rw[gE,pS]
  refine Gi ?_;refine Gs ?_;refine ck (br rfl oM) (Gs ?_);refine ae (ax (v:= .int .i64 (((bj x 999).getD 0):Nat)) rfl rfl) (ae (ax (v:= .bool ((bj x 999).isSome)) rfl rfl) (aQ ?_));refine Gb ?_ ?_<;>intro h2
  ·
   have cF:jH s=none:=CL (i:=i) h4 oM (by rw[pS];cases hq:bj x 999 with|none=>rfl|some n=>rw[hq]at h2;cases h2)
   refine Gc ?_;refine ae (cX rfl) (aj ?_);refine Gr fun w1 hw=>?_;exact⟨(by rw[Qh cF,cF];rfl),ag.mem hw⟩
  have h2s:(bj x 999).isSome=true:=h2;refine aj ?_;refine ae (iR rfl rfl oM oM) (cR (cs':=yI (aE 32 s) (i+1)) rfl rfl (by show(i:Int).toNat<3;omega) rfl (by rw[am1,←hxn];exact Y3 _ oM) (aj ?_));refine Gi ?_;exact bg (x:=(i)) (i+1) ⟨oF,fun j hj=>if e:j=i then(by subst e;rw[pS];exact h2s)else aF j oF⟩ oF sb (fun w hw=>ag.mem hw)
 obtain rfl:i=3:=by omega
 have cW:=L5 h4 mA fun j hj=>aF j hj;refine Gc ?_;refine ae (iR rfl rfl oM oM) (ae (pV rfl (v:= .int .i64 (gE (aE 32 s) 0:Nat)) rfl) (ae (iR rfl rfl oM oM) (ae (pV rfl (v:= .int .i64 (gE (aE 32 s) 1:Nat)) rfl) (ae (iR rfl rfl oM oM) (ae (pV rfl (v:= .int .i64 (gE (aE 32 s) 2:Nat)) rfl) (ae (cr (v:= .agg (eV (⟨(gE (aE 32 s) 0:Nat),(gE (aE 32 s) 1:Nat),(gE (aE 32 s) 2:Nat),⟨Sv.none,[]⟩⟩:gM))) rfl (fun w=>by kernel_rfl)) (aj ?_)))))));refine Gr fun w1 hw=>?_;exact⟨(by rw[Qi cW,cW];rfl),ag.mem hw⟩⟩
theorem abA(n s:Int)(b:Sv)(xs:List Bk)(w:World):(Instr.build 59 #[(0, .int .i64 n),(1, .int .i64 s),(2,b.val)]).run Tryz.prog w= .ok (.agg (aS ⟨n,s,⟨b,xs⟩,0,false,⟨Sv.none,[]⟩⟩)) w:=by
 unfold aS;obtain⟨e,b,o,l,c,p⟩:=b
 cases e<;>kernel_rfl
instance alS{b:Int}{n:Int}{s:Int}:bK Tryz.prog 37 w0 L [.int .i64 b, .int .i64 n, .int .i64 s] (Cp) (fun U=> .tuple #[.agg (aS U), .int .i64 ((jj b n s).2)]) (fun U=>fz U::L) (fun U=>cv U=(jj b n s).1) (True):=⟨fun aw w hw=>Gk (fun U=>[fz U]) hw (by
 refine rr Tryz.func37 rfl Tryz.ntmps37 rfl ?_;refine Gc ?_;refine bc fun b6=>dV ?_;refine Gb ?_ ?_<;>intro h0
 ·
  have hN:jj b n s=(⟨0,0,[],0,false,[]⟩,1):=by rw[jj,if_neg (by rw[h0];simp)]
  refine Gc ?_;refine ae (cr (v:= .agg (aS fL)) rfl (fun w=>by kernel_rfl)) (aj ?_);refine Gr fun w1 hw=>?_;exact⟨fL,by rw[hN],by rw[hN];rfl,MO (d:=fL) rfl (show Mem w [own bU 4 Sv.none [],ah.all []] _ from ag.mem (Mem.wb (Mem.cJ bU 4 (ag.mem hw:Mem w [] _))))⟩
 have fO:=kt.1 h0;have hN:jj b n s=(⟨n,s,List.replicate b.toNat (⟨List.replicate n.toNat (gT s),0,0,false⟩:BV),0,false,[]⟩,0):=by rw[jj,if_pos h0]
 refine an ?_;refine sJ (enc:=bU) (n:=b.toNat) (cap:=b.toNat) oz rfl rfl rfl oM oM oM oM oM fun gK=>ae (cr (v:= .agg (aS (⟨n,s,⟨⟨false,gK,0,b.toNat,b.toNat,none⟩,[]⟩,0,false,⟨Sv.none,[]⟩⟩:Cp))) rfl (abA n s ⟨false,gK,0,b.toNat,b.toNat,none⟩ [])) (bc fun b8=>aG ?_);refine bI (X:=Nat×List Bk) (fun U=>[(23, .int .i64 (U.1:Nat)),(8, .pointer (some ⟨b8,0,none⟩)),(1, .int .i64 n),(2, .int .i64 s),(6, .pointer (some ⟨b6,0,none⟩)),(22, .int .i64 b)]) (fun U=>[own bU 4 ⟨false,gK,0,b.toNat,b.toNat,none⟩ U.2,ah.all ((U.2.take U.1).map fun b:Bk=>fz b.ab),al b8 (aS (⟨n,s,⟨⟨false,gK,0,b.toNat,b.toNat,none⟩,[]⟩,0,false,⟨Sv.none,[]⟩⟩:Cp)) 59,al b6 (aS fL) 59]) (fun U=>U.1<=b.toNat/\U.2.length=b.toNat/\(U.2.take U.1).map bv=List.replicate U.1 (⟨List.replicate n.toNat (gT s),0,0,false⟩:BV)/\ ∀j,U.1<=j->j<b.toNat->U.2[j]? =Option.some oz) (fun U=>b.toNat -U.1) (0,List.replicate b.toNat oz) ⟨Nat.zero_le _,by simp,by simp,fun j _ hj=>by simp[hj]⟩ sb (fun w hw=>by
  simp only[amL,anl];exact ag.mem (Mem.wb hw)) ?_
 rintro⟨i,zs⟩ ⟨bf,aF,bo,cI⟩;dsimp only;simp only at bf aF bo cI;refine aj ?_;refine Gb ?_ ?_<;>intro h1
 ·
  obtain⟨z,hz⟩:=get_some (xs:=zs) (i:=i) oM;obtain rfl:z=oz:=amn (hz.symm.trans (cI i (amz _) oM));have abB:=Da (b:=gK) (n:=b.toNat) oM;refine an ?_;refine gB [4,7] [[],[],[],[],[],[4],[4],[4]] [0,1,2,3,4,5,6,7] [al b8 (aS (⟨n,s,⟨⟨false,gK,0,b.toNat,b.toNat,none⟩,[]⟩,0,false,⟨Sv.none,[]⟩⟩:Cp)) 59] (fun _ hw=>ag.mem hw) oK oK (ak rfl (aK (o':=2) rfl rfl) (ak rfl (bA rfl) (ak rfl (ba rfl) (ak rfl (ba rfl) (cC rfl (K9 (enc:=bX (τ:=UInt8)) (n:=n.toNat) (cap:=n.toNat) (⟨Sv.none,[]⟩:Sl UInt8) rfl rfl rfl oM oM oM oM oM fun eJ=>⟨fun _ hw=>ag.mem hw,?_⟩))))));obtain⟨e31,alT⟩:=get_some (xs:=zs) (i:=i) oM;refine ak rfl (mC (s:=⟨false,gK,0,b.toNat,b.toNat,none⟩) (i:=i) rfl rfl rfl abB (by simp only;omega)) (ak rfl (aK rfl rfl) ?_);refine cC rfl (vX (s:=⟨false,gK,0,b.toNat,b.toNat,none⟩) (n:=1) (k:=i) (j:=0) (a:=oz) (a':=⟨⟨⟨false,eJ,0,n.toNat,n.toNat,none⟩,[]⟩,0,0,false⟩) (xs:=zs) (enc:=bU) (c:=4) (v:=(⟨false,eJ,0,n.toNat,n.toNat,none⟩:Sv).val) oK rfl rfl rfl hz (by rw[Sv.iC];simp[Sv.one]) (by rw[Sv.iC];rfl) (by decide) (by rw[Sv.iC];rfl) ⟨fun _ hw=>ag.mem hw,?_⟩);refine iY ?_;have Qj:(zs.set i ⟨⟨⟨false,eJ,0,n.toNat,n.toNat,none⟩,[]⟩,0,0,false⟩)[i]? =Option.some (⟨⟨⟨false,eJ,0,n.toNat,n.toNat,none⟩,[]⟩,0,0,false⟩:Bk):=amP oM;have wP:(zs.set i ⟨⟨⟨false,eJ,0,n.toNat,n.toNat,none⟩,[]⟩,0,0,false⟩).length=b.toNat:=by rw[anb];exact aF
  refine Gi ?_;refine aj ?_;refine bI (X:=Nat×List (Sl UInt8)) (fun U=>[(34, .int .i64 (U.1:Nat)),(8, .pointer (some ⟨b8,0,none⟩)),(1, .int .i64 n),(2, .int .i64 s),(6, .pointer (some ⟨b6,0,none⟩)),(9, .int .i64 (i:Nat)),(22, .int .i64 b),(23, .int .i64 (i:Nat)),(33, .int .i64 n)]) (fun U=>[own (bX (τ:=UInt8)) 1 ⟨false,eJ,0,n.toNat,n.toNat,none⟩ U.2,ah.all ((U.2.take U.1).map fun b:Sl UInt8=>fz b),own bU 4 ⟨false,gK,0,b.toNat,b.toNat,none⟩ (zs.set i ⟨⟨⟨false,eJ,0,n.toNat,n.toNat,none⟩,[]⟩,0,0,false⟩),ah.all ((zs.take i).map fun b:Bk=>fz b.ab),al b8 (aS (⟨n,s,⟨⟨false,gK,0,b.toNat,b.toNat,none⟩,[]⟩,0,false,⟨Sv.none,[]⟩⟩:Cp)) 59,al b6 (aS fL) 59]) (fun U=>U.1<=n.toNat/\U.2.length=n.toNat/\aM (U.2.take U.1)=List.replicate U.1 (gT s)) (fun U=>n.toNat -U.1) (0,List.replicate n.toNat ⟨Sv.none,[]⟩) ⟨Nat.zero_le _,by simp,by simp[aM]⟩ sb (fun w hw=>by
   simp only[amL,anl];exact ag.mem (Mem.wb hw)) ?_
  rintro⟨j,qs⟩ ⟨jc,dk,fN⟩;dsimp only;simp only at jc dk fN;refine aj ?_;refine Gb ?_ ?_<;>intro h2
  ·
   obtain⟨y,hy⟩:=get_some (xs:=qs) (i:=j) oM;have abC:=Da (b:=eJ) (n:=n.toNat) oM;refine an ?_;refine gB [8,10] [[],[],[],[],[],[],[],[],[],[8],[8]] [0,1,2,3,4,5,6,7,8,9,10] [al b8 (aS (⟨n,s,⟨⟨false,gK,0,b.toNat,b.toNat,none⟩,[]⟩,0,false,⟨Sv.none,[]⟩⟩:Cp)) 59,own bU 4 ⟨false,gK,0,b.toNat,b.toNat,none⟩ (zs.set i ⟨⟨⟨false,eJ,0,n.toNat,n.toNat,none⟩,[]⟩,0,0,false⟩)] (fun _ hw=>ag.mem hw) oK oK (ak rfl (aK (o':=2) rfl rfl) (ak rfl (bA rfl) (ak rfl (ba rfl) ?_)));obtain⟨e40,aa7⟩:=get_some (xs:=(zs.set i ⟨⟨⟨false,eJ,0,n.toNat,n.toNat,none⟩,[]⟩,0,0,false⟩)) (i:=i) oM;refine ak rfl (aY (s:=⟨false,gK,0,b.toNat,b.toNat,none⟩) (xs:=(zs.set i ⟨⟨⟨false,eJ,0,n.toNat,n.toNat,none⟩,[]⟩,0,0,false⟩)) rfl rfl i rfl oM) (ak rfl (aK rfl rfl) (ak rfl (Ry.to (v':=(⟨false,eJ,0,n.toNat,n.toNat,none⟩:Sv).val) (bB (s:=⟨false,gK,0,b.toNat,b.toNat,none⟩) (j:=0) rfl i Qj rfl (by decide)) rfl) (ak rfl (ba rfl) (ak rfl (ba rfl) (cC rfl (K9 (enc:=aL) (n:=s.toNat) (cap:=s.toNat) 0 rfl rfl rfl oM oM oM oM oM fun nt=>⟨fun _ hw=>ag.mem hw,?_⟩))))));obtain⟨e46,alU⟩:=get_some (xs:=qs) (i:=j) oM;refine ak rfl (mC (s:=⟨false,eJ,0,n.toNat,n.toNat,none⟩) (i:=j) rfl rfl rfl abC (by simp only;omega)) (cC rfl (TS (s:=⟨false,eJ,0,n.toNat,n.toNat,none⟩) (xs:=qs) (k:=j) (a:=y) (⟨⟨false,nt,0,s.toNat,s.toNat,none⟩,gT s⟩:Sl UInt8) oK rfl rfl oM hy ⟨fun _ hw=>ag.mem hw,?_⟩));refine an ?_;obtain⟨e50,alV⟩:=get_some (xs:=(zs.set i ⟨⟨⟨false,eJ,0,n.toNat,n.toNat,none⟩,[]⟩,0,0,false⟩)) (i:=i) oM;refine ae (aY (s:=⟨false,gK,0,b.toNat,b.toNat,none⟩) (xs:=(zs.set i ⟨⟨⟨false,eJ,0,n.toNat,n.toNat,none⟩,[]⟩,0,0,false⟩)) rfl rfl i rfl oM) (ae (aK rfl rfl) (ae (Ry.to (v':=(⟨false,eJ,0,n.toNat,n.toNat,none⟩:Sv).val) (bB (s:=⟨false,gK,0,b.toNat,b.toNat,none⟩) (j:=0) rfl i Qj rfl (by decide)) rfl) (Gs ?_)));refine ae (aY rfl rfl j rfl (by rw[anb];omega)) (ae (Ry.to (v':= .slice (some ⟨(⟨false,nt,0,s.toNat,s.toNat,none⟩:Sv).b,(⟨false,nt,0,s.toNat,s.toNat,none⟩:Sv).o+0,none⟩) s.toNat s.toNat) (bB (s:=⟨false,eJ,0,n.toNat,n.toNat,none⟩) (xs:=qs.set j (⟨⟨false,nt,0,s.toNat,s.toNat,none⟩,gT s⟩:Sl UInt8)) (j:=0) rfl j (amP oM) rfl (by decide)) rfl) ?_);refine aW (hc:=Zl (rm:=⟨false,nt,0,s.toNat,s.toNat,none⟩) (k:=0) (n:=s.toNat) (cap:=s.toNat) (xs:=List.replicate s.toNat 0)) rfl ⟨by simp,by omega⟩ fun DH HP=>aj ?_;refine Gi ?_;exact bg (x:=(j,qs)) (j+1,qs.set j (⟨⟨false,nt,0,s.toNat,s.toNat,none⟩,gT s⟩:Sl UInt8)) ⟨oF,by rw[anb];exact dk,by rw[aM,C9 hy,←aM,fN,List.replicate_succ']⟩ (by simp only;omega) sb (fun w hw=>by
    have h1:=GL (a:=(⟨⟨false,nt,0,s.toNat,s.toNat,none⟩,gT s⟩:Sl UInt8)) (by
     simp only[amL,am6,amX,List.drop_replicate,anZ,List.replicate_zero,am4]at hw;exact(ag.mem hw:Mem _ (own aL 1 ⟨false,nt,0,s.toNat,s.toNat,none⟩ (List.replicate s.toNat 255)::[own (bX (τ:=UInt8)) 1 ⟨false,eJ,0,n.toNat,n.toNat,none⟩ (qs.set j (⟨⟨false,nt,0,s.toNat,s.toNat,none⟩,gT s⟩:Sl UInt8)),ah.all ((qs.take j).map fun b:Sl UInt8=>fz b),own bU 4 ⟨false,gK,0,b.toNat,b.toNat,none⟩ (zs.set i ⟨⟨⟨false,eJ,0,n.toNat,n.toNat,none⟩,[]⟩,0,0,false⟩),ah.all ((zs.take i).map fun b:Bk=>fz b.ab),al b8 (aS (⟨n,s,⟨⟨false,gK,0,b.toNat,b.toNat,none⟩,[]⟩,0,false,⟨Sv.none,[]⟩⟩:Cp)) 59,al b6 (aS fL) 59]) _))
    have h3:=Mem.xV (ag.mem h1:Mem _ (fz (⟨⟨false,nt,0,s.toNat,s.toNat,none⟩,gT s⟩:Sl UInt8)::ah.all ((qs.take j).map fun b:Sl UInt8=>fz b)::[own (bX (τ:=UInt8)) 1 ⟨false,eJ,0,n.toNat,n.toNat,none⟩ (qs.set j (⟨⟨false,nt,0,s.toNat,s.toNat,none⟩,gT s⟩:Sl UInt8)),own bU 4 ⟨false,gK,0,b.toNat,b.toNat,none⟩ (zs.set i ⟨⟨⟨false,eJ,0,n.toNat,n.toNat,none⟩,[]⟩,0,0,false⟩),ah.all ((zs.take i).map fun b:Bk=>fz b.ab),al b8 (aS (⟨n,s,⟨⟨false,gK,0,b.toNat,b.toNat,none⟩,[]⟩,0,false,⟨Sv.none,[]⟩⟩:Cp)) 59,al b6 (aS fL) 59]) _);rw[GV (z':=(⟨⟨false,nt,0,s.toNat,s.toNat,none⟩,gT s⟩:Sl UInt8)) hy]at h3;exact ag.mem h3)
  have zk:j=n.toNat:=by omega
  have jT:j=qs.length:=by omega
  rw[amr oM]at fN;refine aj ?_;refine Gi ?_;exact bg (x:=(i,zs)) (i+1,zs.set i (⟨⟨⟨false,eJ,0,n.toNat,n.toNat,none⟩,qs⟩,0,0,false⟩:Bk)) ⟨oF,by rw[anb];exact aF,by rw[C9 hz,bo,List.replicate_succ',show bv (⟨⟨⟨false,eJ,0,n.toNat,n.toNat,none⟩,qs⟩,0,0,false⟩:Bk)=(⟨List.replicate n.toNat (gT s),0,0,false⟩:BV) by rw[bv,fN,zk]],fun k hk qa=>by rw[aog oF];exact cI k oF qa⟩ (by simp only;omega) sb (fun w hw=>by
   rw[amr oM]at hw;have h1:=GU (ag.mem hw:Mem _ (own (bX (τ:=UInt8)) 1 ⟨false,eJ,0,n.toNat,n.toNat,none⟩ qs::ah.all (qs.map fun b:Sl UInt8=>fz b)::[own bU 4 ⟨false,gK,0,b.toNat,b.toNat,none⟩ (zs.set i ⟨⟨⟨false,eJ,0,n.toNat,n.toNat,none⟩,[]⟩,0,0,false⟩),ah.all ((zs.take i).map fun b:Bk=>fz b.ab),al b8 (aS (⟨n,s,⟨⟨false,gK,0,b.toNat,b.toNat,none⟩,[]⟩,0,false,⟨Sv.none,[]⟩⟩:Cp)) 59,al b6 (aS fL) 59]) _);have h2:=GM (ys:=zs.set i (⟨⟨⟨false,eJ,0,n.toNat,n.toNat,none⟩,qs⟩,0,0,false⟩:Bk)) (by rw[aoh,aoh];rfl) (ag.mem h1:Mem _ (own bU 4 ⟨false,gK,0,b.toNat,b.toNat,none⟩ (zs.set i ⟨⟨⟨false,eJ,0,n.toNat,n.toNat,none⟩,[]⟩,0,0,false⟩)::[fz (⟨⟨false,eJ,0,n.toNat,n.toNat,none⟩,qs⟩:Sl (Sl UInt8)),ah.all ((zs.take i).map fun b:Bk=>fz b.ab),al b8 (aS (⟨n,s,⟨⟨false,gK,0,b.toNat,b.toNat,none⟩,[]⟩,0,false,⟨Sv.none,[]⟩⟩:Cp)) 59,al b6 (aS fL) 59]) _);have h3:=Mem.xV (ag.mem h2:Mem _ (fz (⟨⟨false,eJ,0,n.toNat,n.toNat,none⟩,qs⟩:Sl (Sl UInt8))::ah.all ((zs.take i).map fun b:Bk=>fz b.ab)::[own bU 4 ⟨false,gK,0,b.toNat,b.toNat,none⟩ (zs.set i (⟨⟨⟨false,eJ,0,n.toNat,n.toNat,none⟩,qs⟩,0,0,false⟩:Bk)),al b8 (aS (⟨n,s,⟨⟨false,gK,0,b.toNat,b.toNat,none⟩,[]⟩,0,false,⟨Sv.none,[]⟩⟩:Cp)) 59,al b6 (aS fL) 59]) _);rw[MP (z':=(⟨⟨⟨false,eJ,0,n.toNat,n.toNat,none⟩,qs⟩,0,0,false⟩:Bk)) hz]at h3;exact ag.mem h3)
 obtain rfl:i=zs.length:=by omega
 rw[amN]at bo;refine aG ?_;refine Gr fun w1 hw=>?_;exact⟨⟨n,s,⟨⟨false,gK,0,b.toNat,b.toNat,none⟩,zs⟩,0,false,⟨Sv.none,[]⟩⟩,by rw[hN];rfl,by rw[hN];simp only[cv,hU];rw[bo,aF],MO rfl (by rw[amN]at hw;exact ag.mem hw)⟩)⟩
instance alW{x:gM}[tb:gS w0][hx:aU w0 L x]:bD Tryz.prog 36 w0 L [.agg (eV x)] (.tuple #[.string ⟨(tD (eW x)).toArray⟩, .int .i64 (tE (eW x))]) (AQ (eW x)=true/\((jj x.b x.p x.s).2=0->bl (jj x.b x.p x.s).1=true)):=⟨fun aw w hw=>by
 have tb:=tb.at hw;have hx:=hx.h w hw;have va:cw w x:=⟨hx⟩;obtain⟨fY,I4⟩:=aw;have qB:rY (eW x)=(decide (x.l.xs.length<=300)&&AP x.l.xs&&decide ((jj x.b x.p x.s).2=0)&&decide ((jv (eW x)).2=0)):=rfl;refine bQ Tryz.func36 rfl Tryz.ntmps36 rfl ?_;refine Gc ?_;refine bJ rfl fun b1=>dV ?_;refine Gb ?_ ?_<;>intro h0
 ·
  have hG:rY (eW x)=false:=by rw[qB,decide_eq_false (by omega: ¬x.l.xs.length<=300)];rfl
  refine an ?_;refine Gr fun w1 hw=>?_;exact⟨(by rw[tD,tE,hG];rfl),ag.mem hw⟩
 refine aQ ?_;refine bI (X:=Nat) (fun U=>[(20, .int .i64 (U:Nat)),(1, .pointer (some ⟨b1,0,none⟩)),(18,x.l.sv.val),(19, .int .i64 (x.l.xs.length:Nat))]) (fun U=>[al b1 (eV x) 76]) (fun U=>U<=x.l.xs.length/\ ∀j y,j<U->x.l.xs[j]? =Option.some y->et y=true) (fun U=>x.l.xs.length -U) 0 ⟨Nat.zero_le _,fun j y h=>by first|omega|(simp only[];omega)⟩ sb (fun w hw=>ag.mem hw) ?_;rintro i ⟨bf,aF⟩;refine aj ?_;refine Gb ?_ ?_<;>intro h1
 ·
  refine kp ?_;obtain⟨y,hy⟩:=get_some (xs:=x.l.xs) (i:=i) oM;refine ae (aY rfl rfl i rfl oM) (ae (gq rfl i hy rfl) (bc fun b5=>aG ?_));refine ae (ax (v:= .string ⟨(ru y).toArray⟩) rfl rfl) (ae (ax (v:= .int .i64 (ov y)) rfl rfl) (aQ ?_));refine Gb ?_ ?_<;>intro h2
  ·
   have cd:et y=false:=by
    cases hq:et y with
    |false=>rfl
    |true=>exact absurd (show ov y=0 by rw[ov,hq];rfl) h2
   have hM:AP x.l.xs=false:=by
    rw[←Bool.not_eq_true,AP,amt];intro hq;rw[hq y (amm hy)]at cd;cases cd
   have hG:rY (eW x)=false:=by rw[qB,hM,an2];rfl
   refine an ?_;refine Gr fun w1 hw=>?_;exact⟨(by rw[tD,tE,hG];rfl),ag.mem hw⟩
  have cd:et y=true:=by
   cases hq:et y with
   |true=>rfl
   |false=>rw[ov,hq]at h2;exact absurd h2 (by decide)
  refine aj ?_;refine Gi ?_;exact bg (x:=(i)) (i+1) ⟨oF,fun j z hj hz=>if e:j=i then(by subst e;rw[hy]at hz;cases hz;exact cd)else aF j z oF hz⟩ oF sb (fun w hw=>ag.mem hw)
 obtain rfl:i=x.l.xs.length:=by omega
 have hM:AP x.l.xs=true:=amt.2 fun y hy=>by
  obtain⟨j,hj⟩:=List.mem_iff_getElem?.1 hy;exact aF j y (zz.1 hj).1 hj
 refine ct ?_;refine aW rfl trivial fun D2 Bi=>Gs ?_;refine ae (ax (v:= .agg (aS D2)) rfl rfl) (ae (ax (v:= .int .i64 ((jj x.b x.p x.s).2)) rfl rfl) (bc fun b8=>aQ ?_));refine Gb ?_ ?_<;>intro h3
 ·
  have hG:rY (eW x)=false:=by rw[qB,decide_eq_false h3,an2];rfl
  refine an ?_;refine Gr fun w1 hw=>?_;exact⟨(by rw[tD,tE,hG];rfl),ag.mem hw⟩
 have Qk:(jj x.b x.p x.s).2=0:=by simpa using h3
 have FW:=I4 Qk;have P7:fe D2:=rC (by rw[Bi];exact FW);refine Gc ?_;refine bc fun qL=>ao ?_;refine aW rfl P7 fun y2 abD=>Gs ?_;refine ae (ax (v:= .agg (cV y2)) rfl rfl) (ae (ax (v:= .int .i64 ((pG (cv D2)).2)) rfl rfl) (Gs ?_));refine lL (cs':=bR (⟨y2,⟨Sv.none,[]⟩,none,⟨Sv.none,[]⟩⟩:bP)) rfl rfl (by show 0+10<=13;decide) rfl (aG ?_);refine Gb ?_ ?_<;>intro h4
 ·
  have I5: ¬(jv (eW x)).2=0:=by rw[jv];show ¬(pG (jj x.b x.p x.s).1).2=0;rw[←Bi];exact h4
  have hG:rY (eW x)=false:=by rw[qB,decide_eq_false I5,an2]
  refine an ?_;refine Gr fun w1 hw=>?_;exact⟨(by rw[tD,tE,hG];rfl),ag.mem hw⟩
 have I5:(jv (eW x)).2=0:=by rw[jv];show(pG (jj x.b x.p x.s).1).2=0;rw[←Bi];simpa using h4
 have hG:rY (eW x)=true:=by rw[qB,hM,decide_eq_true (by omega:x.l.xs.length<=300),decide_eq_true Qk,decide_eq_true I5];rfl
 have hsa:rZ (kE (jv (eW x)).1) x.l.xs=true:=by
  have:=fY;rw[AQ,hG]at this;exact this
 have kN:aJ y2=(jv (eW x)).1:=by rw[abD,Bi];rfl
 refine aQ ?_;refine bI (X:=Nat×bM×Sl Ch×Option Nat×Sv) (fun U=>[(55, .int .i64 (U.1:Nat)),(10, .pointer (some ⟨qL,0,none⟩)),(53,x.l.sv.val),(54, .int .i64 (x.l.xs.length:Nat))]) (fun U=>al qL (bR (⟨U.2.1,U.2.2.1,U.2.2.2.1,⟨U.2.2.2.2,(mo (kE (jv (eW x)).1) (x.l.xs.take U.1)).told⟩⟩:bP)) 174::fz U.2.1::own dt 20 U.2.2.1.sv U.2.2.1.xs::c8 5 U.2.2.2.2 ((mo (kE (jv (eW x)).1) (x.l.xs.take U.1)).told)::[]) (fun U=>U.1<=x.l.xs.length/\aJ U.2.1=(mo (kE (jv (eW x)).1) (x.l.xs.take U.1)).f/\U.2.2.1.xs=(mo (kE (jv (eW x)).1) (x.l.xs.take U.1)).batch/\(U.2.2.2.1=none\/U.2.2.2.1=Option.some qL)) (fun U=>x.l.xs.length -U.1) (0,y2,⟨Sv.none,[]⟩,none,Sv.none) ⟨Nat.zero_le _,kN,rfl, .inl rfl⟩ sb (fun w hw=>(show Mem _ (al qL (bR (⟨y2,⟨Sv.none,[]⟩,none,⟨Sv.none,[]⟩⟩:bP)) 174::fz y2::own dt 20 Sv.none []::c8 5 Sv.none []::[]) _ from ag.mem (Mem.Ui 5 (Mem.cJ dt 20 hw)))) ?_;rintro⟨i,f,b,a,u⟩ ⟨jc,dk,fN,iL⟩;dsimp only;simp only at jc dk fN iL;have Ee:(⟨aJ f,b.xs,(mo (kE (jv (eW x)).1) (x.l.xs.take i)).told⟩:bq)=(mo (kE (jv (eW x)).1) (x.l.xs.take i)):=by rw[dk,fN]
 refine aj ?_;refine Gb ?_ ?_<;>intro h5
 ·
  refine kp ?_;obtain⟨y,hy⟩:=get_some (xs:=x.l.xs) (i:=i) oM;refine ae (aY rfl rfl i rfl oM) (ae (gq rfl i hy rfl) (bc fun tG=>Gs ?_));refine fb ?_;have cE:(mo (kE (jv (eW x)).1) (x.l.xs.take (i+1)))=dx (⟨aJ f,b.xs,(mo (kE (jv (eW x)).1) (x.l.xs.take i)).told⟩:bq) y:=by rw[YD hy,Ee]
  have hoy:et y=true:=amt.1 hM y (amm hy);have hsy:qF (⟨aJ f,b.xs,(mo (kE (jv (eW x)).1) (x.l.xs.take i)).told⟩:bq)=true:=by rw[Ee];exact sm_at i hsa oM
  refine Gi ?_;refine Gs ?_;refine aW rfl ⟨hsy,hoy,iL⟩ fun tT Bv=>aj ?_;refine Gi ?_;exact bg (x:=(i,f,b,a,u)) (i+1,tT.1,tT.2.1,tT.2.2.1,tT.2.2.2) ⟨by simp only;omega,by simp only;rw[cE];exact Bv.1,by simp only;rw[cE];exact Bv.2.1,Bv.2.2⟩ (by simp only;omega) sb (fun w hw=>by simp only[cE];exact ag.mem hw)
 obtain rfl:i=x.l.xs.length:=by omega
 refine ao ?_;refine aW rfl trivial fun PS PT=>aj ?_;refine Gr fun w1 hw=>?_;exact⟨(by rw[tD,tE,hG,amN];rfl),ag.mem hw⟩⟩
instance alX{t:List UInt8}[tb:gS w0]:bK Tryz.prog 30 w0 L [.string ⟨t.toArray⟩] (gM) (fun U=> .tuple #[.agg (eV U), .int .i64 ((ez t).2.1), .int .i64 ((ez t).2.2)]) (fun U=>own aZ 38 U.l.sv U.l.xs::L) (fun U=>eW U=(ez t).1) (t.length<=1000000000):=⟨fun aw w hw=>Gk (fun U:gM=>[own aZ 38 U.l.sv U.l.xs]) hw (by
 have tb:=tb.at hw;have wx:=anf.2 (vG (c:=10) t);have Bw:dq t=(aE 10 t).length -1:=rfl;have nK:=zS 10 t;have y5:((aE 10 t).drop 1).take (dq t -1)=fA t:=by rw[fA,dq];rfl
 have Ii:=Md t;have hmv:(((aE 10 t).drop 1).take (dq t -1)).length=dq t -1:=by rw[y5,Ii]
 refine bQ Tryz.func30 rfl Tryz.ntmps30 rfl ?_;refine Gc ?_;refine bc fun b2=>an ?_;refine ae (hH (s:=t) Tryz.underlying9 rfl) (ao ?_);refine Gb ?_ ?_<;>intro h0
 ·
  have hE:=L7 (t:=t) oM;refine Gc ?_;refine ae (cX rfl) (an ?_);refine Gr fun w1 hw=>?_;exact⟨kG,by rw[hE],by rw[hE];rfl,Mem.cJ aZ 38 (ag.mem hw:Mem w [] _)⟩
 have mJ: ¬16384<t.length:=by omega
 refine ao ?_;refine aW rfl oM fun bY si=>an ?_;refine ae (Ry.to (v':= .int .i64 ((dq t:Nat):Int)) (vr rfl rfl oM) (by rw[Bw];congr 1;omega)) (ct ?_);refine aV rfl rfl rfl (fun hg=>(Ry.yl (aY (au hg rfl) (au hg rfl) (dq t) rfl (by simp only[Z0,Z1,Z2,Z3,Z4,Z5,Z6,Z7,Z8,Z9]at hg;omega)))) (aV rfl rfl rfl (fun hg=>(Ry.yl (bB (j:=0) (au hg rfl) (dq t) (jZ (xs:=(aE 10 t)) (i:=(dq t)) (d:=([]:aB)) (by simp only[Z0,Z1,Z2,Z3,Z4,Z5,Z6,Z7,Z8,Z9]at hg;omega)) rfl (by decide)))) (aV rfl rfl rfl (fun hg=>(Ry.yl (xu (au hg rfl) rfl))) (ao ?_)));refine Gb ?_ ?_<;>intro h1
 ·
  have hE:=L8 (t:=t) mJ (by rcases h1 with g|g;exact .inl oM;exact .inr g)
  refine Gc ?_;refine ae (cX rfl) (aQ ?_);refine Gr fun w1 hw=>?_;exact⟨kG,by rw[hE],by rw[hE];rfl,Mem.cJ aZ 38 (ag.mem hw:Mem w [] _)⟩
 have w3: ¬(dq t=0\/(aE 10 t).getD (dq t) []≠[]):=by rintro(g|g);exact h1.1 oM;exact g h1.2
 obtain⟨l0,ta⟩:=get_some (xs:=(aE 10 t)) (i:=0) wx;have hle:(aE 10 t).getD 0 []=l0:=by simp[List.getD,ta]
 have mW:l0.length<=t.length:=ri t (amm ta);refine ao ?_;refine ae (aY rfl rfl 0 rfl oM) (ae (bB (j:=0) rfl 0 ta rfl (by decide)) (ck (br rfl oM) (Gs ?_)));refine ae (ax (v:= .agg (eV (wZ l0))) rfl rfl) (ae (ax (v:= .bool ((jH l0).isSome)) rfl rfl) (bc fun b7=>aQ ?_));refine Gb ?_ ?_<;>intro h2
 ·
  have hE:=L9 mJ w3 (by rw[hle];cases hq:jH l0 with|none=>rfl|some q=>rw[hq]at h2;cases h2)
  refine Gc ?_;refine ae (cX rfl) (an ?_);refine Gr fun w1 hw=>?_;exact⟨kG,by rw[hE],by rw[hE];rfl,Mem.cJ aZ 38 (ag.mem hw:Mem w [] _)⟩
 obtain⟨q,hq⟩:=amH.1 h2;have pH:jH ((aE 10 t).getD 0 [])=some q:=by rw[hle];exact hq
 have hsc:wZ l0=(⟨(q.1:Nat),(q.2.1:Nat),(q.2.2:Nat),⟨Sv.none,[]⟩⟩:gM):=Qi hq;refine aj ?_;have Ql:Rg 1 (dq t) (aE 10 t).length:=⟨by omega⟩;refine ae (zJ rfl rfl rfl 1 (dq t) rfl rfl Ql.h.1 Ql.h.2) (aj ?_);refine bI (X:=Nat×Sv×List aO) (fun U=>[(48, .int .i64 (U.1:Nat)),(7, .pointer (some ⟨b7,0,none⟩)),(2, .pointer (some ⟨b2,0,none⟩)),(46,((⟨false,bY,0,(aE 10 t).length,(aE 10 t).length,none⟩:Sv).sub 1 1 (dq t)).val),(47, .int .i64 ((((aE 10 t).drop 1).take ((dq t) -1)).length:Nat))]) (fun U=>[own aZ 38 U.2.1 U.2.2,al b7 (eV (⟨(q.1:Nat),(q.2.1:Nat),(q.2.2:Nat),⟨U.2.1,U.2.2⟩⟩:gM)) 76,own gu 1 ⟨false,bY,0,(aE 10 t).length,(aE 10 t).length,none⟩ (aE 10 t),al b2 (eV kG) 76]) (fun U=>U.1<=dq t -1/\(∀j,j<U.1->eu ((fA t).getD j [])=0)/\U.2.2=((fA t).take U.1).map dm) (fun U=>dq t -1 -U.1) (0,Sv.none,[]) ⟨Nat.zero_le _,fun j h=>by first|omega|(simp only[];omega),rfl⟩ sb (fun w hw=>(by rw[hsc]at hw;exact ag.mem (Mem.cJ aZ 38 hw))) ?_;rintro⟨i,s1,xs⟩ ⟨bf,aF,bo⟩;dsimp only;simp only at bf aF bo;have xW:xs.length<=i:=by rw[bo,List.length_map,List.length_take];omega
 refine aj ?_;refine Gb ?_ ?_<;>intro h3
 ·
  refine ao ?_;obtain⟨ln,hx⟩:=get_some (xs:=(((aE 10 t).drop 1).take ((dq t) -1))) (i:=i) (by rw[y5];omega);refine ae (aY rfl rfl i rfl (by rw[y5];omega)) (ae (bB (j:=0) rfl i hx rfl (by decide)) (ao ?_));refine iY ?_;have tj:(fA t)[i]? =some ln:=by rw[←y5];exact hx
  have pS:(fA t).getD i []=ln:=by simp[List.getD,tj]
  have alY:ln.length<=t.length:=UU (amm tj);refine Gi ?_;refine Gs ?_;refine ck (br rfl oM) (Gs ?_);refine ae (ax (v:= .agg (aZ (dm ln))) rfl rfl) (ae (ax (v:= .int .i64 (eu ln)) rfl rfl) (bc fun mu=>aQ ?_));refine Gb ?_ ?_<;>intro h4
  ·
   have hE:=Ma mJ w3 pH aF oM (by rw[pS];exact h4);refine Gc ?_;refine ae (cX rfl) (ct ?_);refine Gr fun w1 hw=>?_;exact⟨kG,by rw[hE,pS],by rw[hE];rfl,Mem.cJ aZ 38 (ag.mem hw:Mem w [] _)⟩
  have yY:eu ln=0:=h4;refine an ?_;refine kO (enc:=aZ) (vals:=[_]) [(dm ln)] rfl rfl rfl (by decide) (by decide) fun Qm=>?_;refine jY (s:=s1) (ys:=[(dm ln)]) rfl rfl (by decide) (fun w hw=>gP (s:=⟨false,Qm,0,1,1,none⟩) Tryz.underlying74 (by decide) ((inferInstance:Hd _ _ ⟨false,Qm,0,1,1,none⟩ aZ 38 [(dm ln)]).h w hw)) (by simp only[adr,ad2,af0];omega) (by simp only[adr,ad2,af0];omega) fun Qn alZ al0=>?_;refine Gs ?_;refine cR (cs':=eV (⟨(q.1:Nat),(q.2.1:Nat),(q.2.2:Nat),⟨Qn,xs++[dm ln]⟩⟩:gM)) rfl rfl (by show 3<4;decide) (by first|rfl|exact Sv.one _) rfl (aj ?_);refine Gi ?_;exact bg (x:=(i,s1,xs)) (i+1,Qn,xs++[dm ln]) ⟨oF,fun j hj=>if e:j=i then(by subst e;rw[pS];exact yY)else aF j oF,by simp only;rw[bo,amq,tj,am0];rfl⟩ (by simp only;omega) sb (fun w hw=>ag.mem hw)
 obtain rfl:i=dq t -1:=by omega
 have hE:=Mc mJ w3 pH fun j hj=>aF j oM;have sW:xs=(fA t).map dm:=by rw[bo,amr oM]
 refine aQ ?_;refine Gb ?_ ?_<;>intro h5
 ·
  rw[if_pos (by rw[←amF (f:=dm),←sW];omega)]at hE;refine Gc ?_;refine ae (cX rfl) (an ?_);refine Gr fun w1 hw=>?_;exact⟨kG,by rw[hE],by rw[hE];rfl,Mem.cJ aZ 38 (ag.mem hw:Mem w [] _)⟩
 rw[if_neg (by rw[←amF (f:=dm),←sW];omega)]at hE;refine aQ ?_;refine Gr fun w1 hw=>?_;exact⟨(⟨(q.1:Nat),(q.2.1:Nat),(q.2.2:Nat),⟨s1,xs⟩⟩:gM),by rw[hE],by rw[hE];simp only[eW,sW],ag.mem hw⟩)⟩
instance{x:gM}{i:Nat}[q:eS L x.l.sv aZ 38 x.l.xs i]:aU w0 L x:=⟨fun w hw=>⟨q.holds w hw,fun _ _=>trivial⟩⟩
instance al1{t:List UInt8}[tb:gS w0]:bD Tryz.prog 44 w0 L [.string ⟨t.toArray⟩] (.tuple #[.string ⟨(wK t).toArray⟩, .int .i64 (wL t), .int .i64 (wM t)]) (t.length<=1000000000/\AQ (ez t).1=true/\((jj (ez t).1.b (ez t).1.p (ez t).1.s).2=0->bl (jj (ez t).1.b (ez t).1.p (ez t).1.s).1=true)):=⟨fun aw w hw=>by
 have tb:=tb.at hw;obtain⟨wJ,fY,I4⟩:=aw;refine bQ Tryz.func44 rfl Tryz.ntmps44 rfl ?_;refine aQ ?_;refine aW rfl oM fun cB pO=>Gs ?_;refine ae (ax (v:= .agg (eV cB)) rfl rfl) (ae (ax (v:= .int .i64 ((ez t).2.1)) rfl rfl) (ae (ax (v:= .int .i64 ((ez t).2.2)) rfl rfl) (bc fun b5=>ct ?_)));refine Gb ?_ ?_<;>intro h0
 ·
  refine ct ?_;refine Gr fun w1 hw=>?_;exact⟨(by rw[wK,wL,wM,if_pos h0,if_pos h0,if_pos h0]),ag.mem hw⟩
 have mv:(ez t).2.1=0:=by simpa using h0
 refine ao ?_;refine ck (br rfl ⟨by rw[pO];exact fY,by show(jj (eW cB).b (eW cB).p (eW cB).s).2=0->bl (jj (eW cB).b (eW cB).p (eW cB).s).1=true;rw[pO];exact I4⟩) (Gs ?_);refine ae (ax (v:= .string ⟨(tD (eW cB)).toArray⟩) rfl rfl) (ae (ax (v:= .int .i64 (tE (eW cB))) rfl rfl) (fS ?_));refine Gr fun w1 hw=>?_;exact⟨(by rw[wK,wL,wM,if_neg (fun g=>g mv),if_neg (fun g=>g mv),if_neg (fun g=>g mv),pO]),ag.mem hw⟩⟩
end Go.Proofs.YtkggjjnhnjjokaaGreatDoor
namespace Go.Kb
open Go.ay
def abE:Key:=nD fun i=>if i=0 then 10 else 0
def lg(h:UInt16):Rt:=⟨⟨32,8,abE⟩,h⟩
def Qo:CV×Int:=jj 6 2 64
def Bx:FV×Int:=pG Qo.1
def vg:FV×Int:=gJ Bx.1 [⟨lg 7,false⟩]
theorem abF:vg.2=0:=by decide+kernel
def tU:Key:=nD fun i=>if i=0 then 10 else if i<4 then 1 else 0
def Ef:aB:=[99,104,105,112,32,54,32,50,32,54,52,10,112,117,116,32,49,48,46,48,46,48,46,48,47,56,32,55,10,100,111,110,101,10,102,105,110,100,32,49,48,46,49,46,49,46,49,10,100,117,109,112,10]
def By:aB:=[111,107,10,49,48,46,48,46,48,46,48,47,56,32,55,10,114,111,117,116,101,115,32,49,10,49,48,46,48,46,48,46,48,47,56,32,55,10]
def n8:ox:=⟨6,2,64,[⟨1,lg 7,0#128,0,0⟩,⟨3,bp,0#128,0,0⟩,⟨4,bp,tU,32,0⟩,⟨8,bp,0#128,0,0⟩]⟩
theorem Eg:ez Ef=(n8,0,0):=by decide+kernel
theorem Qp:rY n8=true:=by decide+kernel
theorem I6:vg.1.table=[lg 7]/\qz vg.1 tU 32=0/\oV vg.1 tU 32=lg 7:=by decide+kernel
theorem Qq:yF Bx.1=true/\yF vg.1=true:=by decide+kernel
theorem Eh:bO (lg 7).p=true/\j7 [49,48,46,48,46,48,46,48,47,56,32,55]=lg 7/\kP [49,48,46,48,46,48,46,48,47,56,32,55]=0:=by decide+kernel
theorem Qr:iG (lg 7)=[49,48,46,48,46,48,46,48,47,56,32,55]:=by
 have:=(LS Eh.2.2).2;rwa [Eh.2.1]at this
theorem abG{f g:FV}(hg:gJ f [⟨lg 7,false⟩]=(g,0))(ht:g.table=[lg 7])(hE:qz g tU 32=0)(hR:oV g tU 32=lg 7)(sf:yF f=true)(sg:yF g=true):
  (mo (kE f) n8.l).told=By/\rZ (kE f) n8.l=true:=by
 have h1:dec 1=[49]:=oh (by decide);have p1:dx (kE f) ⟨1,lg 7,0#128,0,0⟩=⟨f,[⟨lg 7,false⟩],[]⟩:=rfl;have p2:dx ⟨f,[⟨lg 7,false⟩],[]⟩ ⟨3,bp,0#128,0,0⟩=⟨g,[],[111,107,10]⟩:=by
  show mj {f:=(gJ f [⟨lg 7,false⟩]).1,batch:=[],told:=[]} tC (gJ f [⟨lg 7,false⟩]).2=_;rw[hg];rfl
 have p3:dx ⟨g,[],[111,107,10]⟩ ⟨4,bp,tU,32,0⟩=⟨g,[],[111,107,10]++[49,48,46,48,46,48,46,48,47,56,32,55]++[10]⟩:=by
  show mn ⟨g,[],[111,107,10]⟩ ⟨4,bp,tU,32,0⟩=_;rw[mn,if_neg (fun k=>k hE)];simp only[hR,Qr,Eh.1,mj,nT,kb,eo,if_true];rfl
 have p4:dx ⟨g,[],[111,107,10]++[49,48,46,48,46,48,46,48,47,56,32,55]++[10]⟩ ⟨8,bp,0#128,0,0⟩=⟨g,[],By⟩:=by
  show pK ⟨g,[],[111,107,10]++[49,48,46,48,46,48,46,48,47,56,32,55]++[10]⟩=_;rw[pK];simp only[ht,nT,ad2,af0,amX,h1,aoq,List.foldl_nil,nU,mj,kb,eo,Eh.1,Qr,if_true];rfl
 have s1: ∀(b:List Ch) (t:aB),b.length<=1000->t.length<=100000000->qF ⟨f,b,t⟩=true:=fun b t hb ht=>by
  simp only[qF,sf,an9,alM,decide_eq_true_eq];exact⟨hb,ht⟩
 have s2: ∀(b:List Ch) (t:aB),b.length<=1000->t.length<=100000000->qF ⟨g,b,t⟩=true:=fun b t hb ht=>by
  simp only[qF,sg,an9,alM,decide_eq_true_eq];exact⟨hb,ht⟩
 refine⟨?_,?_⟩
 ·
  show(dx (dx (dx (dx (kE f) ⟨1,lg 7,0#128,0,0⟩) ⟨3,bp,0#128,0,0⟩) ⟨4,bp,tU,32,0⟩) ⟨8,bp,0#128,0,0⟩).told=By;rw[p1,p2,p3,p4]
 ·
  show rZ (kE f) [⟨1,lg 7,0#128,0,0⟩,⟨3,bp,0#128,0,0⟩,⟨4,bp,tU,32,0⟩,⟨8,bp,0#128,0,0⟩]=true;simp only[rZ,p1,p2,p3,p4,alM];exact⟨s1 _ _ (by decide) (by decide),s1 _ _ (by decide) (by decide),s2 _ _ (by decide) (by decide),s2 _ _ (by decide) (by decide),s2 _ _ (by decide) (by decide)⟩
theorem abH:jv n8=Bx:=by
 show pG (jj 6 2 64).1=_;rw[Bx,Qo]
theorem Qs:(mo (kE (jv n8).1) n8.l).told=By/\rZ (kE (jv n8).1) n8.l=true:=by
 rw[abH];refine abG (g:=vg.1) ?_ I6.1 I6.2.1 I6.2.2 Qq.1 Qq.2;have e:gJ Bx.1 [⟨lg 7,false⟩]=vg:=by rw[vg]
 have pe: ∀q:FV×Int,q.2=0->q=(q.1,0):=fun q h=>Prod.ext rfl h;exact e.trans (pe _ abF)
theorem abI:AQ n8=true:=by rw[AQ,Qs.2,Bool.or_true]
theorem I7:wK Ef=By/\wL Ef=0/\wM Ef=0:=by
 refine⟨?_,?_,?_⟩
 ·
  rw[wK,Eg,if_neg (fun g=>g rfl),tD,if_pos Qp];exact Qs.1
 ·
  rw[wL,Eg,if_neg (fun g=>g rfl),tE,Qp];rfl
 rw[wM,Eg,if_neg (fun g=>g rfl)]
end Go.Kb
namespace Go.Proofs.YtkggjjnhnjjokaaGreatDoor
open Go.ay Go.Kb Go.RowKit
variable {w0:World}{L:List ah}
instance al2[tb:gS w0]:bD Tryz.prog 29 w0 L [] (.bool true) (True):=⟨fun aw w hw=>by
 have tb:=tb.at hw;have k1:wL [99,104,105,112,32,54,32,50,32,54,52,10,112,117,116,32,49,48,46,48,46,48,46,48,47,56,32,55,10,100,111,110,101,10,102,105,110,100,32,49,48,46,49,46,49,46,49,10,100,117,109,112,10]=0:=I7.2.1;have k2:wM [99,104,105,112,32,54,32,50,32,54,52,10,112,117,116,32,49,48,46,48,46,48,46,48,47,56,32,55,10,100,111,110,101,10,102,105,110,100,32,49,48,46,49,46,49,46,49,10,100,117,109,112,10]=0:=I7.2.2;have k3:wK [99,104,105,112,32,54,32,50,32,54,52,10,112,117,116,32,49,48,46,48,46,48,46,48,47,56,32,55,10,100,111,110,101,10,102,105,110,100,32,49,48,46,49,46,49,46,49,10,100,117,109,112,10]=[111,107,10,49,48,46,48,46,48,46,48,47,56,32,55,10,114,111,117,116,101,115,32,49,10,49,48,46,48,46,48,46,48,47,56,32,55,10]:=I7.1;have k4:ez [99,104,105,112,32,54,32,50,32,54,52,10,112,117,116,32,49,48,46,48,46,48,46,48,47,56,32,55,10,100,111,110,101,10,102,105,110,100,32,49,48,46,49,46,49,46,49,10,100,117,109,112,10]=(n8,0,0):=Eg;have k5:bl (jj n8.b n8.p n8.s).1=true:=by decide+kernel
 refine Ua Tryz.func29 rfl Tryz.ntmps29 rfl ?_;refine aj ?_;refine ck (br rfl ⟨by decide,by rw[k4];exact abI,by rw[k4];exact fun _=>k5⟩) (Gs ?_);refine ae (ax (v:= .string ⟨(wK [99,104,105,112,32,54,32,50,32,54,52,10,112,117,116,32,49,48,46,48,46,48,46,48,47,56,32,55,10,100,111,110,101,10,102,105,110,100,32,49,48,46,49,46,49,46,49,10,100,117,109,112,10]).toArray⟩) rfl rfl) (ae (ax (v:= .int .i64 (wL [99,104,105,112,32,54,32,50,32,54,52,10,112,117,116,32,49,48,46,48,46,48,46,48,47,56,32,55,10,100,111,110,101,10,102,105,110,100,32,49,48,46,49,46,49,46,49,10,100,117,109,112,10])) rfl rfl) (ae (ax (v:= .int .i64 (wM [99,104,105,112,32,54,32,50,32,54,52,10,112,117,116,32,49,48,46,48,46,48,46,48,47,56,32,55,10,100,111,110,101,10,102,105,110,100,32,49,48,46,49,46,49,46,49,10,100,117,109,112,10])) rfl rfl) (ct ?_)));refine lO rfl rfl rfl (by simp[k1,k2,k3]) (Ry.yl (ba rfl)) (lO rfl rfl rfl (by simp[k1,k2,k3]) (Ry.yl (da rfl rfl rfl)) (ae (xw rfl (by simp[k1,k2,k3]) rfl rfl) (Gs ?_)));refine lO rfl rfl rfl (by simp[k1,k2,k3]) (Ry.yl (ba rfl)) (lO rfl rfl rfl (by simp[k1,k2,k3]) (Ry.yl (nC rfl rfl)) (ae (xw rfl (by simp[k1,k2,k3]) rfl rfl) (ao ?_)));refine Gr fun w1 hw=>?_;exact⟨congrArg (fun b=>Ending.returned (Value.bool b)) ((by simp[k3])),ag.mem hw⟩⟩
instance al3{x:gM}{y:gM}[hx:aU w0 L x][hy:aU w0 L y]:bD Tryz.prog 34 w0 L [.agg (eV x), .agg (eV y)] (.bool (decide (x.b=y.b/\x.p=y.p/\x.s=y.s/\x.l.xs=y.l.xs))) (True):=⟨fun aw w hw=>by
 have hx:=hx.h w hw;have hy:=hy.h w hw;have va:cw w x:=⟨hx⟩;have Ir:cw w y:=⟨hy⟩;have dR:=hx.1.bd;refine cD Tryz.func34 rfl Tryz.ntmps34 rfl ?_;refine Gc ?_;refine bJ rfl fun b2=>bJ rfl fun b3=>Lj ?_;refine Gb ?_ ?_<;>intro h0
 ·
  refine aj ?_;refine Gr fun w1 hw=>?_;exact Ge ((by rw[decide_eq_false (fun g:x.b=y.b/\x.p=y.p/\x.s=y.s/\x.l.xs=y.l.xs=>by have:=congrArg List.length g.2.2.2;have:=g.1;have:=g.2.1;have:=g.2.2.1;omega)])) hw
 have e1:x.b=y.b:=by omega
 have e2:x.p=y.p:=by omega
 have e3:x.s=y.s:=by omega
 have e4:x.l.xs.length=y.l.xs.length:=by omega
 refine aj ?_;refine bI (X:=Nat) (fun U=>[(5, .int .i64 (U:Nat)),(2, .pointer (some ⟨b2,0,none⟩)),(3, .pointer (some ⟨b3,0,none⟩))]) (fun U=>[al b2 (eV x) 76,al b3 (eV y) 76]) (fun U=>U<=x.l.xs.length/\ ∀j,j<U->x.l.xs[j]? =y.l.xs[j]?) (fun U=>x.l.xs.length -U) 0 ⟨Nat.zero_le _,fun j h=>by first|omega|(simp only[];omega)⟩ sb (fun w hw=>ag.mem hw) ?_;rintro i ⟨bf,aF⟩;refine ct ?_;refine Gb ?_ ?_<;>intro h1
 ·
  refine FZ ?_;obtain⟨u,hu⟩:=get_some (xs:=x.l.xs) (i:=i) oM;obtain⟨v,hv⟩:=get_some (xs:=y.l.xs) (i:=i) oM;refine gO oK oK (aj ?_);refine bm (aY rfl rfl i rfl oM) (bm (gq rfl i hu rfl) (aj ?_));refine bm (aY rfl rfl i rfl oM) (bm (gq rfl i hv rfl) (bm (sF rfl rfl) (Gc ?_)));refine Gb ?_ ?_<;>intro h2
  ·
   have I8: ¬u=v:=by simpa using h2
   refine aj ?_;refine Gr fun w1 hw=>?_;exact Ge ((by rw[decide_eq_false (fun g:x.b=y.b/\x.p=y.p/\x.s=y.s/\x.l.xs=y.l.xs=>I8 (by have:=hu;rw[g.2.2.2,hv]at this;exact(amn this).symm))])) hw
  have I8:u=v:=by simpa using h2
  refine an ?_;refine Gi ?_;exact bg (x:=(i)) (i+1) ⟨oF,fun j hj=>if e:j=i then(by subst e;rw[hu,hv,I8])else aF j oF⟩ oF sb (fun w hw=>ag.mem hw)
 obtain rfl:i=x.l.xs.length:=by omega
 have e5:x.l.xs=y.l.xs:=anq fun j=>by
  rcases amv j x.l.xs.length with hj|hj
  ·
   exact aF j hj
  rw[amD hj,amD oM]
 refine aj ?_;refine Gr fun w1 hw=>?_;exact⟨congrArg (fun b=>Ending.returned (Value.bool b)) ((by rw[decide_eq_true (⟨e1,e2,e3,e5⟩:x.b=y.b/\x.p=y.p/\x.s=y.s/\x.l.xs=y.l.xs)])),ag.mem hw⟩⟩
theorem abJ{s:aB}(h:s.length=0\/3<s.length\/(1<s.length/\(s.getD 0 0).toNat=48)):bj s 999=none:=by
 rcases h with h|h|h
 ·
  exact Fk (by decide) (.inl h)
 ·
  cases e:bj s 999 with
  |none=>rfl
  |some n=>
   obtain⟨rfl,hn⟩:=gZ.1 e;have:=iV 3 n oM (by decide);omega
 exact Fk (by decide) (.inr (.inr h))
theorem abK{s:aB}(h0:0<s.length)(h3:s.length<=3)(h1: ¬(1<s.length/\(s.getD 0 0).toNat=48))(h2:s.all jg=true):bj s 999=some (val s):=by
 have h4:=KE _ s rfl h2;have h5:10^s.length<=10^3:=ank (by decide) h3;exact Fm (anf.1 h0) h1 h2 oM
instance al4{s:List UInt8}:bD Tryz.prog 82 w0 L [.string ⟨s.toArray⟩] (.int .i64 (fg s 999)) (True):=⟨fun aw w hw=>by
 refine bQ Tryz.func82 rfl Tryz.ntmps82 rfl ?_;refine an ?_;refine ae (hH (s:=s) Tryz.underlying9 rfl) (aj ?_);refine aV rfl rfl rfl (fun hg=>(Ry.yl (hH (s:=s) Tryz.underlying9 (au hg rfl)))) (an ?_);refine aV rfl rfl rfl (fun hg=>(Ry.yl (hH (s:=s) Tryz.underlying9 (au hg rfl)))) (Gg ?_);refine aV rfl rfl rfl (fun hg=>(Ry.yl (ba (au hg rfl)))) (iB rfl rfl rfl (fun hg=>(Ry.yl (ba rfl))) (iB rfl rfl rfl (fun hg=>(Ry.yl (lr (s:=s) 0 Tryz.underlying9 (au hg rfl) rfl rfl (by simp only[Z0,Z1,Z2,Z3,Z4,Z5,Z6,Z7,Z8,Z9]at hg;omega)))) (iB rfl rfl rfl (fun hg=>(Ry.yl (da (au hg rfl) rfl rfl))) (aV rfl rfl rfl (fun hg=>(Ry.yl (sD (au hg rfl) (qV hg rfl) rfl))) (ao ?_)))));refine Gb ?_ ?_<;>intro h0
 ·
  refine aj ?_;refine Gr fun w1 hw=>?_;exact Gf ((by rw[fg,abJ oM])) hw
 have hx:s.length<=3/\0<s.length:=by omega
 refine aG ?_;refine bI (X:=Nat) (fun U=>[(4, .int .i64 (U:Nat)),(3, .int .i64 ((val (s.take U)):Nat)),(0, .string ⟨s.toArray⟩)]) (fun U=>[]) (fun U=>U<=s.length/\(s.take U).all jg=true) (fun U=>s.length -U) 0 ⟨Nat.zero_le _,rfl⟩ (Sub.cons rfl (Sub.cons (look_eq rfl rfl) sb)) (fun w hw=>ag.mem hw) ?_;rintro i ⟨hi,hd⟩;have hv:=KF (s:=s) (i:=i) oM hi hd;refine aj ?_;refine ae (hH (s:=s) Tryz.underlying9 rfl) (ao ?_);refine Gb ?_ ?_<;>intro h1
 ·
  refine aj ?_;refine ae (lr (s:=s) i Tryz.underlying9 rfl rfl rfl oM) (an ?_);refine aV rfl rfl rfl (fun hg=>(Ry.yl (lr (s:=s) i Tryz.underlying9 (au hg rfl) (au hg rfl) rfl (by simp only[Z0,Z1,Z2,Z3,Z4,Z5,Z6,Z7,Z8,Z9]at hg;omega)))) (aj ?_);refine Gb ?_ ?_<;>intro h2
  ·
   refine aj ?_;refine Gr fun w1 hw=>?_;exact Gf ((by rw[fg,Fl (i:=i) oM oM])) hw
  refine ao ?_;refine ae (jX rfl rfl oM) (ao ?_);refine ae (lr (s:=s) i Tryz.underlying9 rfl rfl rfl oM) (ae (zT (p:=(s.getD i 0).toNat) (q:=48) rfl rfl rfl rfl oM) (ae (iS rfl (by simp only[nb];omega)) (aQ ?_)));refine Gi ?_;exact bg (x:=(i)) (i+1) ⟨oF,Fi oF hd oF⟩ oF (Sub.cons rfl (Sub.cons (look_eq rfl (by rw[zY oM,anv 10];rfl)) sb)) (fun w hw=>ag.mem hw)
 refine an ?_;refine Gr fun w1 hw=>?_;exact⟨congrArg (fun b=>Ending.returned (Value.int .i64 b)) ((by have e:s.take i=s:=amr oM;rw[e]at hd;rw[fg,abK hx.2 hx.1 oM hd,e])),ag.mem hw⟩⟩
instance al5{x:aO}[tb:oo w0]:bD Tryz.prog 33 w0 L [.agg (aZ x)] (.tuple #[.string ⟨(ru x).toArray⟩, .int .i64 (ov x)]) (True):=⟨fun aw w hw=>by
 have tb:=tb.at hw;refine bQ Tryz.func33 rfl Tryz.ntmps33 rfl ?_;refine Gc ?_;refine bJ rfl fun b1=>aG ?_;refine ae (cX rfl) (bc fun b4=>dV ?_);refine Gb ?_ ?_<;>intro h0
 ·
  have kB:hQ x=(⟨x.kind,x.r,0#128,0,0⟩:aO):=by rw[hQ,if_pos h0]
  have lH:gD x=bO x.r.p:=by rw[gD,if_pos (.inl h0)]
  have k7:iH x=iG x.r:=by rw[iH,if_pos h0]
  refine ao ?_;refine ae (dy rfl) (ao ?_);refine ae (ax (v:= .string ⟨(iG x.r).toArray⟩) rfl rfl) (ae (ax (v:= .int .i64 (eo (bO x.r.p))) rfl rfl) (an ?_));refine ae (dy rfl) (Gs ?_);refine lL (cs':=aZ (⟨x.kind,x.r,0#128,0,0⟩:aO)) rfl rfl (by rw[iK];decide) (HZ (⟨x.kind,bp,0#128,0,0⟩:aO) x.r) (an ?_);refine aV rfl rfl rfl (fun hg=>(Ry.yl (fu rfl))) (aV rfl rfl rfl (fun hg=>(Ry.yl (fu rfl))) (aV rfl rfl rfl (fun hg=>(Ry.yl (sF (au hg rfl) (au hg rfl)))) (ao ?_)));refine Gb ?_ ?_<;>intro h1
  ·
   have cF:et x=false:=by
    rw[et,kB,lH];rcases h1 with g|g
    ·
     cases hq:bO x.r.p with
     |false=>rfl
     |true=>rw[hq]at g;exact absurd rfl g
    rw[decide_eq_false g,an2]
   refine an ?_;refine Gr fun w1 hw=>?_;exact⟨(by rw[(nQ cF).1,(nQ cF).2]),ag.mem hw⟩
  have cW:et x=true:=lW.2 ⟨lH.trans (xP.1 h1.1),kB.trans h1.2⟩;have lI:=Ak cW;rw[k7]at lI;refine ao ?_;refine ae (jC rfl rfl (by simp only[ad2,af0];omega)) (aj ?_);refine Gr fun w1 hw=>?_;exact⟨(by rw[(jG cW).1,(jG cW).2,jF,if_neg oM,k7,h0];rfl),ag.mem hw⟩
 refine an ?_;refine Gb ?_ ?_<;>intro h2
 ·
  have kB:hQ x=(⟨x.kind,⟨x.r.p,0⟩,0#128,0,0⟩:aO):=by rw[hQ,if_neg h0,if_pos h2]
  have lH:gD x=bO x.r.p:=by rw[gD,if_pos (.inr h2)]
  have k7:iH x=iX x.r.p:=by rw[iH,if_neg h0,if_pos h2]
  refine aj ?_;refine ae (dy rfl) (ao ?_);refine ae (ax (v:= .string ⟨(iX x.r.p).toArray⟩) rfl rfl) (ae (ax (v:= .int .i64 (eo (bO x.r.p))) rfl rfl) (aG ?_));refine ae (dy rfl) (ao ?_);refine lL (cs':=aZ (⟨x.kind,⟨x.r.p,0⟩,0#128,0,0⟩:aO)) rfl rfl (by rw[iK];decide) (H2 (⟨x.kind,bp,0#128,0,0⟩:aO) x.r.p) (an ?_);refine aV rfl rfl rfl (fun hg=>(Ry.yl (fu rfl))) (aV rfl rfl rfl (fun hg=>(Ry.yl (fu rfl))) (aV rfl rfl rfl (fun hg=>(Ry.yl (sF (au hg rfl) (au hg rfl)))) (ao ?_)));refine Gb ?_ ?_<;>intro h3
  ·
   have cF:et x=false:=by
    rw[et,kB,lH];rcases h3 with g|g
    ·
     cases hq:bO x.r.p with
     |false=>rfl
     |true=>rw[hq]at g;exact absurd rfl g
    rw[decide_eq_false g,an2]
   refine an ?_;refine Gr fun w1 hw=>?_;exact⟨(by rw[(nQ cF).1,(nQ cF).2]),ag.mem hw⟩
  have cW:et x=true:=lW.2 ⟨lH.trans (xP.1 h3.1),kB.trans h3.2⟩;have lI:=Ak cW;rw[k7]at lI;refine ao ?_;refine ae (jC rfl rfl (by simp only[ad2,af0];omega)) (aj ?_);refine Gr fun w1 hw=>?_;exact⟨(by rw[(jG cW).1,(jG cW).2,jF,if_neg oM,k7,h2];rfl),ag.mem hw⟩
 refine an ?_;refine Gb ?_ ?_<;>intro h4
 ·
  have kB:hQ x=(⟨x.kind,bp,x.key,x.bits,0⟩:aO):=by rw[hQ,if_neg h0,if_neg h2,if_pos h4]
  have lH:gD x=iF x.key x.bits:=by rw[gD,if_neg (fun g=>g.elim h0 h2),if_pos h4]
  have k7:iH x=ik x.key x.bits:=by rw[iH,if_neg h0,if_neg h2,if_pos h4]
  refine ao ?_;refine ae (dy rfl) (an ?_);refine ae (ax (v:= .string ⟨(ik x.key x.bits).toArray⟩) rfl rfl) (ae (ax (v:= .int .i64 (eo (iF x.key x.bits))) rfl rfl) (an ?_));refine ae (dy rfl) (Gs ?_);refine lL (cs':=aZ (⟨x.kind,bp,x.key,0,0⟩:aO)) rfl rfl (by rw[iK];decide) (H3 (⟨x.kind,bp,0#128,0,0⟩:aO) x.key) (an ?_);refine cR (cs':=aZ (⟨x.kind,bp,x.key,x.bits,0⟩:aO)) rfl rfl (by rw[iK];decide) rfl (H4 (⟨x.kind,bp,x.key,0,0⟩:aO) x.bits) (an ?_);refine aV rfl rfl rfl (fun hg=>(Ry.yl (fu rfl))) (aV rfl rfl rfl (fun hg=>(Ry.yl (fu rfl))) (aV rfl rfl rfl (fun hg=>(Ry.yl (sF (au hg rfl) (au hg rfl)))) (ao ?_)));refine Gb ?_ ?_<;>intro h5
  ·
   have cF:et x=false:=by
    rw[et,kB,lH];rcases h5 with g|g
    ·
     cases hq:iF x.key x.bits with
     |false=>rfl
     |true=>rw[hq]at g;exact absurd rfl g
    rw[decide_eq_false g,an2]
   refine an ?_;refine Gr fun w1 hw=>?_;exact⟨(by rw[(nQ cF).1,(nQ cF).2]),ag.mem hw⟩
  have cW:et x=true:=lW.2 ⟨lH.trans (xP.1 h5.1),kB.trans h5.2⟩;have lI:=Ak cW;rw[k7]at lI;refine ao ?_;refine ae (jC rfl rfl (by simp only[ad2,af0];omega)) (aj ?_);refine Gr fun w1 hw=>?_;exact⟨(by rw[(jG cW).1,(jG cW).2,jF,if_neg oM,k7,h4];rfl),ag.mem hw⟩
 have oW:gD x=if x.kind=5\/x.kind=6 then decide (0<=x.n.toInt/\x.n.toInt<=999)else decide (x.kind=3\/x.kind=7\/x.kind=8):=by rw[gD,if_neg (fun g=>g.elim h0 h2),if_neg h4]
 have nW:hQ x=if x.kind=5\/x.kind=6 then(⟨x.kind,bp,0#128,0,x.n⟩:aO)else(⟨x.kind,bp,0#128,0,0⟩:aO):=by rw[hQ,if_neg h0,if_neg h2,if_neg h4]
 have k7:iH x=dec x.n.toInt.toNat:=by rw[iH,if_neg h0,if_neg h2,if_neg h4]
 refine mB (X:=Bool) (fun U=>[(84, .bool U),(1, .pointer (some ⟨b1,0,none⟩)),(4, .pointer (some ⟨b4,0,none⟩))]) (fun U=>[al b4 (aZ (⟨x.kind,bp,0#128,0,0⟩:aO)) 73,al b1 (aZ x) 73]) (fun U=>U=decide (x.kind=5\/x.kind=6)) ?_ ?_
 ·
  refine an ?_;refine Gb ?_ ?_<;>intro h6
  ·
   refine Gi ?_;exact eD (decide (x.kind=5)) (by simp[h6]) sb (fun w hw=>ag.mem hw)
  refine Gi ?_;refine ao ?_;refine Gi ?_;exact eD (decide (x.kind=6)) (by simp[h6]) sb (fun w hw=>ag.mem hw)
 rintro z hz;refine Gb ?_ ?_<;>intro h7
 ·
  have nX:x.kind=5\/x.kind=6:=of_decide_eq_true (hz.symm.trans h7);rw[if_pos nX]at oW nW;refine an ?_;refine cR (cs':=aZ (⟨x.kind,bp,0#128,0,x.n⟩:aO)) rfl rfl (by rw[iK];decide) rfl (H5 (⟨x.kind,bp,0#128,0,0⟩:aO) x.n) (nO ?_);refine aV rfl rfl rfl (fun hg=>(Ry.yl (fu rfl))) (aV rfl rfl rfl (fun hg=>(Ry.yl (fu rfl))) (aV rfl rfl rfl (fun hg=>(Ry.yl (sF (au hg rfl) (au hg rfl)))) (ao ?_)));refine Gb ?_ ?_<;>intro h8
  ·
   have cF:et x=false:=by
    rw[et,nW,oW]
    by_cases g:(⟨x.kind,bp,0#128,0,x.n⟩:aO)=x
    ·
     rw[decide_eq_false (by rintro⟨g1,g2⟩;rcases h8 with q|q
                            ·rcases q with q|q<;>omega
                            ·exact q g)];rfl
    rw[decide_eq_false g,an2]
   refine an ?_;refine Gr fun w1 hw=>?_;exact⟨(by rw[(nQ cF).1,(nQ cF).2]),ag.mem hw⟩
  have cW:et x=true:=lW.2 ⟨by rw[oW];exact decide_eq_true oM,nW.trans h8.2⟩;have lI:=Ak cW;rw[k7]at lI;refine aG ?_;refine Gb ?_ ?_<;>intro h9
  ·
   refine aj ?_;refine ck (br rfl ⟨by omega,by omega⟩) (ae (jC rfl rfl (by simp only[ad2,af0];omega)) (aj ?_));refine Gr fun w1 hw=>?_;exact⟨(by rw[(jG cW).1,(jG cW).2,jF,if_neg oM,k7,h9];rfl),ag.mem hw⟩
  have h6:x.kind=6:=by omega
  refine aj ?_;refine ck (br rfl ⟨by omega,by omega⟩) (ae (jC rfl rfl (by simp only[ad2,af0];omega)) (aj ?_));refine Gr fun w1 hw=>?_;exact⟨(by rw[(jG cW).1,(jG cW).2,jF,if_neg oM,k7,h6];rfl),ag.mem hw⟩
 have nX: ¬(x.kind=5\/x.kind=6):=of_decide_eq_false (hz.symm.trans h7);rw[if_neg nX]at oW nW;refine aj ?_;refine ae (sF rfl rfl) (an ?_);refine aV rfl rfl rfl (fun hg=>(Ry.yl (ba (au hg rfl)))) (iB rfl rfl rfl (fun hg=>(Ry.yl (aK (o':=0) rfl rfl))) (iB rfl rfl rfl (fun hg=>(Ry.yl (bA (au hg rfl)))) (iB rfl rfl rfl (fun hg=>(Ry.yl (da (au hg rfl) rfl rfl))) (aV rfl rfl rfl (fun hg=>(Ry.yl (sD (au hg rfl) (qV hg rfl) rfl))) (aV rfl rfl rfl (fun hg=>(Ry.yl (ba (au hg rfl)))) (iB rfl rfl rfl (fun hg=>(Ry.yl (aK (o':=0) rfl rfl))) (iB rfl rfl rfl (fun hg=>(Ry.yl (bA (au hg rfl)))) (iB rfl rfl rfl (fun hg=>(Ry.yl (da (au hg rfl) rfl rfl))) (aV rfl rfl rfl (fun hg=>(Ry.yl (sD (au hg rfl) (qV hg rfl) rfl))) (ao ?_))))))))));refine Gb (fun iw=>?_) fun iw=>?_
 ·
  have cF:et x=false:=by
   rw[et,nW,oW];rcases iw with g|g
   ·
    rw[decide_eq_false g,an2]
   rw[decide_eq_false oM,aoK]
  refine an ?_;refine Gr fun w1 hw=>?_;exact⟨(by rw[(nQ cF).1,(nQ cF).2]),ag.mem hw⟩
 have r9:x.kind=3\/x.kind=7\/x.kind=8:=by omega
 have cW:et x=true:=lW.2 ⟨by rw[oW];exact decide_eq_true r9,nW.trans iw.1⟩;refine aG ?_;refine Gb (fun y7=>?_) fun y7=>?_
 ·
  refine an ?_;refine Gr fun w1 hw=>?_;exact⟨(by rw[(jG cW).1,(jG cW).2,jF,if_pos r9,y7];rfl),ag.mem hw⟩
 refine aG ?_;refine Gb (fun y8=>?_) fun y8=>?_
 ·
  refine an ?_;refine Gr fun w1 hw=>?_;exact⟨(by rw[(jG cW).1,(jG cW).2,jF,if_pos r9,y8];rfl),ag.mem hw⟩
 have h8:x.kind=8:=by omega
 refine an ?_;refine Gr fun w1 hw=>?_;exact⟨(by rw[(jG cW).1,(jG cW).2,jF,if_pos r9,h8];rfl),ag.mem hw⟩⟩
end Go.Proofs.YtkggjjnhnjjokaaGreatDoor
namespace Go.Kb
open Go.ay
section
variable {s wd re:aB} {fo:Bool} (hC:aD 32 s=(wd,re,fo))
include hC
theorem y9{k:Nat}(h1:1<=k)(h8:k<=8)(h:gR (k:Int)=wd):bh (aD 32 s).1=k:=by rw[hC];exact LV h1 h8 h
theorem abL(h:wd=[112,117,116]):(kP re=0->dm s=⟨1,j7 re,0#128,0,0⟩/\eu s=0)/\(¬kP re=0->dm s=gC/\eu s=2):=by
 have k1:bh (aD 32 s).1=1:=y9 hC (by decide) (by decide) (by rw[h];rfl);have k0:bh (aD 32 s).1≠0:=by omega
 have hr:=Gm k1;rw[k1,hC]at hr;exact⟨fun g=>(ow k0).1 _ (hr.trans (if_pos g)),fun g=>(ow k0).2 (hr.trans (if_neg g))⟩
theorem abM(h:wd=[103,111,110,101]):(hO re=0->dm s=⟨2,⟨gQ re,0⟩,0#128,0,0⟩/\eu s=0)/\(¬hO re=0->dm s=gC/\eu s=2):=by
 have k1:bh (aD 32 s).1=2:=y9 hC (by decide) (by decide) (by rw[h];rfl);have k0:bh (aD 32 s).1≠0:=by omega
 have hr:=Gn k1;rw[k1,hC]at hr;exact⟨fun g=>(ow k0).1 _ (hr.trans (if_pos g)),fun g=>(ow k0).2 (hr.trans (if_neg g))⟩
theorem abN(h:wd=[102,105,110,100]):(fy re=0->dm s=⟨4,bp,eM re,(dF re:Nat),0⟩/\eu s=0)/\(¬fy re=0->dm s=gC/\eu s=2):=by
 have k1:bh (aD 32 s).1=4:=y9 hC (by decide) (by decide) (by rw[h];rfl);have k0:bh (aD 32 s).1≠0:=by omega
 have hr:=Gp k1;rw[k1,hC]at hr;exact⟨fun g=>(ow k0).1 _ (hr.trans (if_pos g)),fun g=>(ow k0).2 (hr.trans (if_neg g))⟩
theorem abO(h:wd=[99,117,116]\/wd=[102,97,105,108]):(¬fg re 999<0-> ∃n5:Int64,n5.toInt=fg re 999/\eu s=0/\(wd=[99,117,116]->dm s=⟨5,bp,0#128,0,n5⟩)/\(¬wd=[99,117,116]->dm s=⟨6,bp,0#128,0,n5⟩))/\(fg re 999<0->dm s=gC/\eu s=2):=by
 have k5:wd=[99,117,116]->bh (aD 32 s).1=5:=fun g=>y9 hC (by decide) (by decide) (by rw[g];rfl);have k6:wd=[102,97,105,108]->bh (aD 32 s).1=6:=fun g=>y9 hC (by decide) (by decide) (by rw[g];rfl);have k1:bh (aD 32 s).1=5\/bh (aD 32 s).1=6:=h.imp k5 k6;have k0:bh (aD 32 s).1≠0:=by omega
 have hr:=Gt k1;refine⟨fun g=>?_,fun g=>(ow k0).2 (by rw[hr,hC];show(bj re 999).map _=none;rw[xO g];rfl)⟩;obtain⟨g1,g2⟩:=sY g;obtain⟨n,hn⟩:=amH.1 g2;have h9:=(gZ.1 hn).2;rw[hn,aok]at g1;have wF:ji s=some ⟨(bh (aD 32 s).1:Nat),bp,0#128,0,Int64.ofInt (n:Nat)⟩:=by
  rw[hr];have:(aD 32 s).2.1=re:=by rw[hC]
  rw[this,hn];rfl
 obtain⟨e1,e2⟩:=(ow k0).1 _ wF;refine⟨Int64.ofInt (n:Nat),(Gd h9).trans g1.symm,e2,fun q=>?_,fun q=>?_⟩
 ·
  rw[e1,k5 q];rfl
 rw[e1,k6 (h.resolve_left q)];rfl
theorem I9{k:Nat}(hk:k=3\/k=7\/k=8)(h:gR (k:Int)=wd):(fo=false->dm s=⟨(k:Nat),bp,0#128,0,0⟩/\eu s=0)/\(fo=true->dm s=gC/\eu s=2):=by
 have k1:bh (aD 32 s).1=k:=y9 hC (by omega) (by omega) h;have k0:bh (aD 32 s).1≠0:=by omega
 have hr:=LZ k0 (by omega) (by omega) (by omega) (by omega);rw[k1,hC]at hr;exact⟨fun g=>(ow k0).1 _ (hr.trans (if_neg (by rw[show((wd,re,fo):aB×aB×Bool).2.2=fo from rfl,g];decide))),fun g=>(ow k0).2 (hr.trans (if_pos g))⟩
theorem abP(h: ∀j:Nat,1<=j->j<=8-> ¬gR (j:Int)=wd):dm s=gC/\eu s=8:=Gu (by rw[hC];exact LW h)
end
theorem abQ{s:aB}{i:Nat}(hi:i<s.length)(h:s.getD i 0=32)(hn: ∀j,j<i->s.getD j 0≠32):aD 32 s=(s.take i,s.drop (i+1),true):=by
 have hs:s=s.take i++32::s.drop (i+1):=by
  have h2:s[i]=32:=by simpa[List.getD,hi]using h
  rw[←h2,List.getElem_cons_drop,amO]
 have hm:(32:UInt8)∉s.take i:=by
  intro hm;obtain⟨j,hj,e⟩:=an6 hm;rw[amo]at hj;have cq:j<i:=by omega
  refine hn j cq ?_;rw[List.getElem_take]at e;simpa[List.getD,show j<s.length by omega]using e
 conv=>lhs;rw[hs]
 exact Kh hm
theorem abR{s:aB}(hn: ∀j,j<s.length->s.getD j 0≠32):aD 32 s=(s,[],false):=Kg fun hm=>by
 obtain⟨j,hj,e⟩:=an6 hm;refine hn j hj ?_;simpa[List.getD,hj]using e
end Go.Kb
namespace Go.Proofs.YtkggjjnhnjjokaaGreatDoor
open Go.ay Go.Kb
variable {w0:World}{L:List ah}
instance al6{s:List UInt8}:bD Tryz.prog 152 w0 L [.string ⟨s.toArray⟩] (.tuple #[.agg (bw (eM s)), .int .i64 ((dF s):Nat), .int .i64 (fy s)]) (s.length<=1000000000):=⟨fun aw w hw=>by
 refine bQ Tryz.func152 rfl Tryz.ntmps152 rfl ?_;refine Gc ?_;refine bc fun b2=>an ?_;refine ae (hH (s:=s) Tryz.underlying9 rfl) (ao ?_);refine Gb ?_ ?_<;>intro h0
 ·
  refine Gc ?_;refine ae (cX rfl) (an ?_);refine Gr fun w1 hw=>?_;exact⟨(by obtain⟨e1,e2,e3⟩:=F5 (s:=s) oM;rw[e1,e2,e3];rfl),ag.mem hw⟩
 refine Gc ?_;refine bc fun b5=>ao ?_;refine aW (vs:=[_, .int .u8 ((46:UInt8).toNat:Int)]) rfl oM fun fZ D1=>aQ ?_;refine Gb ?_ ?_<;>intro h1
 ·
  refine aj ?_;refine bI (X:=Nat×Key) (fun U=>[(7, .int .i64 (U.1:Nat)),(5, .pointer (some ⟨b5,0,none⟩)),(2, .pointer (some ⟨b2,0,none⟩)),(6,fZ.val)]) (fun U=>[own gu 1 fZ (aE 46 s),al b5 (bw U.2) 25,al b2 (bw 0#128) 25]) (fun U=>U.1<=4/\vZ (aE 46 s) U.1 U.2) (fun U=>4 -U.1) (0,0#128) ⟨Nat.zero_le _,Lu _⟩ sb (fun w hw=>ag.mem hw) ?_;rintro⟨i,kk⟩ ⟨hi,hp⟩;dsimp only;simp only at hi hp;refine an ?_;refine Gb ?_ ?_<;>intro h2
  ·
   refine aj ?_;obtain⟨x,hx⟩:=get_some (xs:=(aE (46:UInt8) s)) (i:=i) oM;refine ae (aY rfl rfl i rfl oM) (ae (bB (j:=0) rfl i hx rfl (by decide)) (ck (br (vs:=[_, .int .i64 ((255:Nat):Int)]) rfl oM) (aG ?_)));refine Gb ?_ ?_<;>intro h3
   ·
    refine Gc ?_;refine ae (cX rfl) (an ?_);refine Gr fun w1 hw=>?_;exact⟨(by obtain⟨e1,e2,e3⟩:=UI (s:=s) oM oM (Ly oM hx (by rw[xO h3];rfl));rw[e1,e2,e3];rfl),ag.mem hw⟩
   obtain⟨hz,fO⟩:=sY h3;refine aj ?_;refine ae (Ry.as (v':= .int .u8 (((bj x 255).getD 0:Nat):Int)) (xi rfl oM (by have:=Ag x;simp only[nb];omega)) (by rw[hz])) (ae (iR rfl rfl oM oM) (cR (cs':=bw (nP kk i ((bj x 255).getD 0))) rfl rfl (by rw[du];omega) rfl (CE kk i oM (Ag x)) (an ?_)));refine Gi ?_;exact bg (x:=(i,kk)) (i+1,nP kk i ((bj x 255).getD 0)) ⟨oF,hp.step hx fO oF⟩ (by simp only;omega) sb (fun w hw=>ag.mem hw)
  refine aQ ?_;refine Gr fun w1 hw=>?_;exact⟨(by obtain⟨e1,e2,e3⟩:=LD (s:=s) oM (Lz oM (by rw[show i=4 by omega]at hp;exact hp));rw[e1,e2,e3];rfl),ag.mem hw⟩
 have oZ:iW s=none:=Lw oM;refine ao ?_;refine ae (hH (s:=s) Tryz.underlying9 rfl) (ao ?_);refine Gb ?_ ?_<;>intro h4
 ·
  refine Gc ?_;refine ae (cX rfl) (an ?_);refine Gr fun w1 hw=>?_;exact⟨(by obtain⟨e1,e2,e3⟩:=CF (s:=s) oM oZ (LB oM);rw[e1,e2,e3];rfl),ag.mem hw⟩
 refine aj ?_;refine bI (X:=Nat×Key) (fun U=>[(9, .int .i64 (U.1:Nat)),(5, .pointer (some ⟨b5,0,none⟩)),(0, .string ⟨s.toArray⟩),(2, .pointer (some ⟨b2,0,none⟩))]) (fun U=>[al b5 (bw U.2) 25,al b2 (bw 0#128) 25]) (fun U=>U.1<=16/\xL s U.1 U.2) (fun U=>16 -U.1) (0,0#128) ⟨Nat.zero_le _,Uw s⟩ sb (fun w hw=>ag.mem hw) ?_;rintro⟨i,kk⟩ ⟨hi,hp⟩;dsimp only;simp only at hi hp;refine an ?_;refine Gb ?_ ?_<;>intro h5
 ·
  refine Gc ?_;refine gO oK oK (ao ?_);refine bm (jX rfl rfl oM) (bm (lr (s:=s) (2*i) Tryz.underlying9 rfl rfl rfl oM) (kM (br rfl trivial) (ao ?_)));refine bm (jX rfl rfl oM) (Gq ?_);refine bm (lr (s:=s) ((2*i)+1) Tryz.underlying9 rfl rfl rfl oM) (kM (br rfl trivial) (nO ?_));refine Gb ?_ ?_<;>intro h6
  ·
   refine Gc ?_;refine ae (cX rfl) (an ?_);refine Gr fun w1 hw=>?_;exact⟨(by obtain⟨e1,e2,e3⟩:=CF (s:=s) oM oZ (h6.elim (fun q=>F4 q oM) (fun q=>F4 q oM));rw[e1,e2,e3];rfl),ag.mem hw⟩
  obtain⟨he1,qq,Hv⟩:=F3 (s:=s) (i:=2*i) oM;obtain⟨vW,pz,DO⟩:=F3 (s:=s) (i:=2*i+1) oM;refine aj ?_;refine ae (jX rfl rfl oM) (ao ?_);refine ae (Ry.as (v':= .int .u8 (((16*fR s (2*i)+fR s (2*i+1)):Nat):Int)) (xi rfl oM (by simp only[nb];omega)) (by rw[he1,vW];rfl)) (ae (iR rfl rfl oM oM) (cR (cs':=bw (nP kk i (16*fR s (2*i)+fR s (2*i+1)))) rfl rfl (by rw[du];omega) rfl (CE kk i oM oM) (an ?_)));refine Gi ?_;exact bg (x:=(i,kk)) (i+1,nP kk i (16*fR s (2*i)+fR s (2*i+1))) ⟨oF,hp.step oF Hv DO⟩ (by simp only;omega) sb (fun w hw=>ag.mem hw)
 refine aQ ?_;refine Gr fun w1 hw=>?_;exact⟨(by obtain⟨e1,e2,e3⟩:=LF (s:=s) oM oZ (Ux oM (by rw[show i=16 by omega]at hp;exact hp));rw[e1,e2,e3];rfl),ag.mem hw⟩⟩
instance al7{s:List UInt8}:bD Tryz.prog 151 w0 L [.string ⟨s.toArray⟩] (.tuple #[.agg (cl (gQ s)), .int .i64 (hO s)]) (s.length<=1000000000):=⟨fun aw w hw=>by
 refine bQ Tryz.func151 rfl Tryz.ntmps151 rfl ?_;refine Gc ?_;refine bc fun b2=>aj ?_;refine ae (hH (s:=s) Tryz.underlying9 rfl) (ao ?_);refine Gb ?_ ?_<;>intro h0
 ·
  refine Gc ?_;refine ae (cX rfl) (aj ?_);refine Gr fun w1 hw=>?_;exact⟨(by obtain⟨e1,e2⟩:=LH (s:=s) oM;rw[e1,e2]),ag.mem hw⟩
 refine ao ?_;refine aW (vs:=[_, .int .u8 ((47:UInt8).toNat:Int)]) rfl oM fun kD wI=>aQ ?_;refine Gb ?_ ?_<;>intro h1
 ·
  refine Gc ?_;refine ae (cX rfl) (aj ?_);refine Gr fun w1 hw=>?_;exact⟨(by obtain⟨e1,e2⟩:=xM (s:=s) oM (UG oM);rw[e1,e2]),ag.mem hw⟩
 refine iY ?_;obtain⟨a,b,mw⟩:=CI (show(aE 47 s).length=2 by omega);have Bw:a.length<=s.length:=ri s (by rw[mw];simp);have qB:b.length<=s.length:=ri s (by rw[mw];simp);rw[mw];refine Gi ?_;refine Gs ?_;refine ae (aY rfl rfl 0 rfl (by simp)) (ae (bB (j:=0) rfl 0 (rfl:[a,b][0]? =some a) rfl (by decide)) (ck (br rfl oM) (Gs ?_)));refine ae (ax (v:= .agg (bw (eM a))) rfl rfl) (ae (ax (v:= .int .i64 ((dF a):Nat)) rfl rfl) (ae (ax (v:= .int .i64 (fy a)) rfl rfl) (bc fun b5=>an ?_)));refine gB [7,8] [[],[],[],[],[],[],[],[],[7]] [0,1,2,3,4,5,6,7,8] [own gu 1 kD [a,b],al b5 (bw (eM a)) 25] (fun _ hw=>ag.mem hw) oK oK (ak rfl (ba rfl) (ak rfl (ba rfl) (ak rfl (aY rfl rfl 1 rfl (by simp)) (ak rfl (bB (j:=0) rfl 1 (rfl:[a,b][1]? =some b) rfl (by decide)) (qi rfl (br (vs:=[_, .int .i64 ((128:Nat):Int)]) rfl oM) (ak rfl (fu rfl) (ak rfl (cX rfl) (cC rfl (Cz fun b8=>⟨fun _ hw=>ag.mem hw,?_⟩)))))))));refine cC rfl (lV rfl rfl ⟨fun _ hw=>ag.mem hw,?_⟩);refine an ?_;refine aV rfl rfl rfl (fun hg=>(Ry.yl (fu rfl))) (aV rfl rfl rfl (fun hg=>br (dB (au hg rfl) gk) trivial) (aV rfl rfl rfl (fun hg=>(Ry.yl (kg (au hg rfl)))) (ao ?_)));refine Gb ?_ ?_<;>intro h2
 ·
  refine Gc ?_;refine ae (cX rfl) (aj ?_);refine Gr fun w1 hw=>?_;exact⟨(by obtain⟨e1,e2⟩:=xM (s:=s) oM (by rw[F6 mw,LN oM,if_neg];rintro⟨q1,q2⟩;rcases h2 with h|h;exact h q1;rw[h]at q2;cases q2);rw[e1,e2]),ag.mem hw⟩
 refine aG ?_;refine Gr fun w1 hw=>?_;exact⟨(by obtain⟨e1,e2⟩:=LK (s:=s) (p:=(⟨((dF a:Nat):Int),fg b 128,eM a⟩:cz)) oM (by rw[F6 mw,LN oM,if_pos ⟨h2.1,h2.2⟩]);rw[e1,e2]),ag.mem hw⟩⟩
instance al8{s:List UInt8}:bD Tryz.prog 150 w0 L [.string ⟨s.toArray⟩] (.tuple #[.agg (av (j7 s)), .int .i64 (kP s)]) (s.length<=1000000000):=⟨fun aw w hw=>by
 refine bQ Tryz.func150 rfl Tryz.ntmps150 rfl ?_;refine Gc ?_;refine bc fun b2=>aj ?_;refine ae (hH (s:=s) Tryz.underlying9 rfl) (ao ?_);refine Gb ?_ ?_<;>intro h0
 ·
  refine Gc ?_;refine ae (cX rfl) (aj ?_);refine Gr fun w1 hw=>?_;exact⟨(by obtain⟨e1,e2⟩:=F9 (s:=s) oM;rw[e1,e2]),ag.mem hw⟩
 refine ao ?_;refine aW (vs:=[_, .int .u8 ((32:UInt8).toNat:Int)]) rfl oM fun uZ HY=>aQ ?_;refine Gb ?_ ?_<;>intro h1
 ·
  refine Gc ?_;refine ae (cX rfl) (aj ?_);refine Gr fun w1 hw=>?_;exact⟨(by obtain⟨e1,e2⟩:=xN (s:=s) oM (UH oM);rw[e1,e2]),ag.mem hw⟩
 refine iY ?_;obtain⟨a,b,mw⟩:=CI (show(aE 32 s).length=2 by omega);have Bw:a.length<=s.length:=ri s (by rw[mw];simp);have qB:b.length<=s.length:=ri s (by rw[mw];simp);rw[mw];refine Gi ?_;refine Gs ?_;refine ae (aY rfl rfl 0 rfl (by simp)) (ae (bB (j:=0) rfl 0 (rfl:[a,b][0]? =some a) rfl (by decide)) (ck (br rfl oM) (Gs ?_)));refine ae (ax (v:= .agg (cl (gQ a))) rfl rfl) (ae (ax (v:= .int .i64 (hO a)) rfl rfl) (bc fun b5=>an ?_));refine ae (aY rfl rfl 1 rfl (by simp)) (ae (bB (j:=0) rfl 1 (rfl:[a,b][1]? =some b) rfl (by decide)) (ck (br (vs:=[_, .int .i64 ((65535:Nat):Int)]) rfl oM) (fS ?_)));refine Gb ?_ ?_<;>intro h2
 ·
  refine Gc ?_;refine ae (cX rfl) (aj ?_);refine Gr fun w1 hw=>?_;exact⟨(by obtain⟨e1,e2⟩:=xN (s:=s) oM (by rw[F7 mw];rcases h2 with h|h;exact LO oM h;exact LP (xO h));rw[e1,e2]),ag.mem hw⟩
 obtain⟨hz,fO⟩:=sY (s:=b) (top:=65535) oM;obtain⟨m,hm⟩:=amH.1 fO;refine aj ?_;refine ae (Ry.as (v':= .int .u16 (((UInt16.ofNat ((bj b 65535).getD 0)).toNat:Nat):Int)) (xi rfl oM (by have:=Ai b 65535;simp only[nb];omega)) (by rw[hz];exact LR (Ai b 65535))) (ae (cX rfl) (aj ?_));refine Gr fun w1 hw=>?_;exact⟨(by obtain⟨e1,e2⟩:=Ga (s:=s) oM ((F7 mw).trans (LQ oM oM hm));rw[e1,e2,hm];rfl),ag.mem hw⟩⟩
open Go.RowKit
theorem abS{P:Program}{N:cc}{w0:World}{env:Env}{L:List ah}{d:Option Tmp}{ty t:TypeId}{ps:String}{af:Array Edge}{gd:Option (Nat×Bool)}{x lo:Operand}{k:IntKind}{s:aB}{q:Int}(l:Nat)(ht:P.underlying t=some .string)(hx:ev env x=some (.string ⟨s.toArray⟩))(hl:ev env lo=some (.int k q))(el:q=(l:Int))(h2:l<=s.length):
  Ry P N w0 env L ⟨d, .slice t x (some lo) none none,ty,ps,af,gd⟩ (.string ⟨(s.drop l).toArray⟩):=fun aa w ha _=>by
 subst el;have hr:=run_slice_string_l (P:=P) (w:=w) t ⟨s.toArray⟩ ht k l oM (by rw[mI];omega);rw[am1,mI,E8,amr (by rw[amu];omega)]at hr;simp only[execOp,ha.ev hx,ha.ev hl,am3,aoo,run_sliceAt_string (h:=ht),hr,Sem.run_bind,Result.andThen,Sem.run_pure]
instance al9{s:List UInt8}[tb:oo w0]:bD Tryz.prog 83 w0 L [.string ⟨s.toArray⟩] (.tuple #[.agg (aZ (dm s)), .int .i64 (eu s)]) (s.length<=1000000000):=⟨fun aw w hw=>by
 have tb:=tb.at hw;refine bQ Tryz.func83 rfl Tryz.ntmps83 rfl ?_;refine Gc ?_;refine bc fun b2=>ao ?_;refine ae (cX rfl) (bc fun b4=>nO ?_);refine bI (X:=Nat×aB×aB×Bool) (fun U=>[(8, .int .i64 (U.1:Nat)),(5, .string ⟨U.2.1.toArray⟩),(6, .string ⟨U.2.2.1.toArray⟩),(7, .bool U.2.2.2),(0, .string ⟨s.toArray⟩),(2, .pointer (some ⟨b2,0,none⟩)),(4, .pointer (some ⟨b4,0,none⟩))]) (fun U=>[al b4 (aZ gC) 73,al b2 (aZ gC) 73]) (fun U=>U.1<=s.length/\((U.2.2.2=false/\U.2.1=s/\U.2.2.1=[]/\ ∀j,j<U.1->s.getD j 0≠32)\/(U.2.2.2=true/\aD 32 s=(U.2.1,U.2.2.1,true)))) (fun U=>s.length -U.1) (0,s,[],false) ⟨Nat.zero_le _, .inl ⟨rfl,rfl,rfl,fun j h=>by first|omega|(simp only[];omega)⟩⟩ sb (fun w hw=>ag.mem hw) ?_;rintro⟨i,wd,re,fo⟩ ⟨bf,aF⟩;dsimp only;simp only at bf aF;refine aj ?_;refine ae (hH (s:=s) Tryz.underlying9 rfl) (aj ?_);refine gm rfl rfl rfl (fun hg=>(Ry.yl (kg (au hg rfl)))) (ao ?_);refine Gb ?_ ?_<;>intro h0
 ·
  have hf:fo=false:=h0.2;have bo:fo=false/\wd=s/\re=[]/\ ∀j,j<i->s.getD j 0≠32:=aF.resolve_right (fun g=>by rw[hf]at g;cases g.1);refine aj ?_;refine ae (lr (s:=s) i Tryz.underlying9 rfl rfl rfl oM) (ao ?_);refine Gb ?_ ?_<;>intro h1
  ·
   have mA:s.getD i 0=32:=by first|exact h1|exact an5.1 (show(s.getD i 0).toNat=32 by omega)
   have Ee:=abQ oM mA bo.2.2.2;refine aj ?_;refine ae (Se i Tryz.underlying9 rfl rfl rfl oM) (aG ?_);refine ae (abS (i+1) Tryz.underlying9 rfl rfl oM oM) (ct ?_);refine Gi ?_;exact bg (x:=(i,wd,re,fo)) (i+1,s.take i,s.drop (i+1),true) ⟨by simp only;omega, .inr ⟨rfl,Ee⟩⟩ (by simp only;omega) sb (fun w hw=>ag.mem hw)
  have mA:s.getD i 0≠32:=by first|exact h1|(intro g;rw[g]at h1;exact h1 rfl)
  refine an ?_;refine Gi ?_;exact bg (x:=(i,wd,re,fo)) (i+1,wd,re,fo) ⟨by simp only;omega, .inl ⟨hf,bo.2.1,bo.2.2.1,fun j hj=>if e:j=i then(by subst e;exact mA)else bo.2.2.2 j oF⟩⟩ (by simp only;omega) sb (fun w hw=>ag.mem hw)
 have hC:aD 32 s=(wd,re,fo):=by
  rcases aF with⟨g1,g2,g3,g4⟩|⟨g1,g2⟩
  ·
   have hl:i=s.length:=by rcases h0 with g|g;exact oM;exact absurd (g1.symm.trans g) (by decide)
   subst hl;rw[g1,g2,g3];exact abR g4
  rw[g2,g1]
 have Zc:wd.length<=s.length/\re.length<=s.length:=by have:=CG 32 s;rw[hC]at this;exact this
 refine aj ?_;refine ae (nC rfl rfl) (ao ?_);refine Gb ?_ ?_<;>intro h2
 ·
  have hS:=abL hC h2;refine ao ?_;refine ck (br rfl oM) (Gs ?_);refine ae (ax (v:= .agg (av (j7 re))) rfl rfl) (ae (ax (v:= .int .i64 (kP re)) rfl rfl) (bc fun b9=>aQ ?_));refine Gb ?_ ?_<;>intro h3
  ·
   have cF:=hS.2 h3;refine aG ?_;refine Gr fun w1 hw=>?_;exact⟨(by rw[cF.1,cF.2]),ag.mem hw⟩
  have cW:=hS.1 (by simpa using h3);refine ao ?_;refine ae (cr (v:= .agg (aZ (⟨1,j7 re,0#128,0,0⟩:aO))) rfl (fun w=>by kernel_rfl)) (aj ?_);refine Gr fun w1 hw=>?_;exact⟨(by rw[cW.1,cW.2]),ag.mem hw⟩
 refine Gc ?_;refine ae (nC rfl rfl) (ao ?_);refine Gb ?_ ?_<;>intro h4
 ·
  have hS:=abM hC h4;refine ao ?_;refine ck (br rfl oM) (Gs ?_);refine ae (ax (v:= .agg (cl (gQ re))) rfl rfl) (ae (ax (v:= .int .i64 (hO re)) rfl rfl) (bc fun mu=>aQ ?_));refine Gb ?_ ?_<;>intro h5
  ·
   have cF:=hS.2 h5;refine aG ?_;refine Gr fun w1 hw=>?_;exact⟨(by rw[cF.1,cF.2]),ag.mem hw⟩
  have cW:=hS.1 (by simpa using h5);refine ao ?_;refine ae (cr (v:= .agg (av (⟨gQ re,0⟩:Rt))) rfl (fun w=>by kernel_rfl)) (ae (cr (v:= .agg (aZ (⟨2,(⟨gQ re,0⟩:Rt),0#128,0,0⟩:aO))) rfl (fun w=>by kernel_rfl)) (aj ?_));refine Gr fun w1 hw=>?_;exact⟨(by rw[cW.1,cW.2]),ag.mem hw⟩
 refine Gc ?_;refine ae (nC rfl rfl) (ao ?_);refine Gb ?_ ?_<;>intro h6
 ·
  have hS:=abN hC h6;refine ao ?_;refine ck (br rfl oM) (Gs ?_);refine ae (ax (v:= .agg (bw (eM re))) rfl rfl) (ae (ax (v:= .int .i64 ((dF re):Nat)) rfl rfl) (ae (ax (v:= .int .i64 (fy re)) rfl rfl) (bc fun gX=>ct ?_)));refine Gb ?_ ?_<;>intro h7
  ·
   have cF:=hS.2 h7;refine aG ?_;refine Gr fun w1 hw=>?_;exact⟨(by rw[cF.1,cF.2]),ag.mem hw⟩
  have cW:=hS.1 (by simpa using h7);refine aj ?_;refine ae (cr (v:= .agg (aZ (⟨4,bp,eM re,((dF re:Nat):Int),0⟩:aO))) rfl (fun w=>by kernel_rfl)) (aj ?_);refine Gr fun w1 hw=>?_;exact⟨(by rw[cW.1,cW.2]),ag.mem hw⟩
 refine mB (X:=Bool) (fun U=>[(81, .bool U),(2, .pointer (some ⟨b2,0,none⟩)),(4, .pointer (some ⟨b4,0,none⟩)),(5, .string ⟨wd.toArray⟩),(6, .string ⟨re.toArray⟩),(7, .bool fo)]) (fun U=>[al b4 (aZ gC) 73,al b2 (aZ gC) 73]) (fun U=>U=decide (wd=[99,117,116]\/wd=[102,97,105,108])) ?_ ?_
 ·
  refine Gc ?_;refine ae (nC rfl rfl) (ao ?_);refine Gb ?_ ?_<;>intro h8
  ·
   refine Gi ?_;exact eD (decide (wd=[99,117,116])) (by simp[h8]) sb (fun w hw=>ag.mem hw)
  refine Gi ?_;refine ae (nC rfl rfl) (Gs ?_);refine Gi ?_;exact eD (decide (wd=[102,97,105,108])) (by simp[h8]) sb (fun w hw=>ag.mem hw)
 rintro z hz;refine Gb ?_ ?_<;>intro h9
 ·
  have hS:=abO hC (of_decide_eq_true (hz.symm.trans h9));refine dV ?_;refine Gb (fun iw=>?_) fun iw=>?_
  ·
   have cF:=hS.2 iw;refine aG ?_;refine Gr fun w1 hw=>?_;exact⟨(by rw[cF.1,cF.2]),ag.mem hw⟩
  obtain⟨n5,I3,hE,hX5,hX6⟩:=hS.1 iw;refine vY ?_;rw[←I3];refine Gi ?_;refine Gs ?_;refine ae (nC rfl rfl) (Gc ?_);refine Gb (fun y7=>?_) fun y7=>?_
  ·
   have cW:=hX5 y7;refine ao ?_;refine ae (cr (v:= .agg (aZ (⟨5,bp,0#128,0,n5⟩:aO))) rfl (fun w=>by kernel_rfl)) (aj ?_);refine Gr fun w1 hw=>?_;exact⟨(by rw[cW,hE]),ag.mem hw⟩
  have cW:=hX6 y7;refine ao ?_;refine ae (cr (v:= .agg (aZ (⟨6,bp,0#128,0,n5⟩:aO))) rfl (fun w=>by kernel_rfl)) (aj ?_);refine Gr fun w1 hw=>?_;exact⟨(by rw[cW,hE]),ag.mem hw⟩
 have Qu: ¬(wd=[99,117,116]\/wd=[102,97,105,108]):=of_decide_eq_false (hz.symm.trans h9);refine ao ?_;refine fb ?_;refine mB (X:=Int) (fun U=>[(17, .int .i64 U),(2, .pointer (some ⟨b2,0,none⟩)),(4, .pointer (some ⟨b4,0,none⟩)),(5, .string ⟨wd.toArray⟩),(7, .bool fo)]) (fun U=>[al b4 (aZ gC) 73,al b2 (aZ gC) 73]) (fun U=>(U=3/\wd=[100,111,110,101])\/(U=0/\ ¬wd=[100,111,110,101])) ?_ ?_
 ·
  refine ao ?_;refine ae (nC rfl rfl) (Gc ?_);refine Gb (fun y8=>?_) fun y8=>?_
  ·
   refine Gi ?_;refine Gs ?_;refine Gi ?_;exact eD 3 (.inl ⟨rfl,y8⟩) sb (fun w hw=>ag.mem hw)
  refine Gi ?_;exact eD 0 (.inr ⟨rfl,y8⟩) sb (fun w hw=>ag.mem hw)
 rintro t ht;refine mB (X:=Int) (fun U=>[(17, .int .i64 U),(2, .pointer (some ⟨b2,0,none⟩)),(4, .pointer (some ⟨b4,0,none⟩)),(5, .string ⟨wd.toArray⟩),(7, .bool fo)]) (fun U=>[al b4 (aZ gC) 73,al b2 (aZ gC) 73]) (fun U=>(U=3/\wd=[100,111,110,101])\/(U=7/\wd=[111,110])\/(U=0/\ ¬wd=[100,111,110,101]/\ ¬wd=[111,110])) ?_ ?_
 ·
  refine ao ?_;refine ae (nC rfl rfl) (Gc ?_);refine Gb (fun Ja=>?_) fun Ja=>?_
  ·
   refine Gi ?_;refine Gs ?_;refine Gi ?_;exact eD 7 (.inr (.inl ⟨rfl,Ja⟩)) sb (fun w hw=>ag.mem hw)
  refine Gi ?_;exact eD t (ht.elim .inl fun g=> .inr (.inr ⟨g.1,g.2,Ja⟩)) sb (fun w hw=>ag.mem hw)
 rintro t ht;refine mB (X:=Int) (fun U=>[(17, .int .i64 U),(2, .pointer (some ⟨b2,0,none⟩)),(4, .pointer (some ⟨b4,0,none⟩)),(7, .bool fo)]) (fun U=>[al b4 (aZ gC) 73,al b2 (aZ gC) 73]) (fun U=>(U=3/\wd=[100,111,110,101])\/(U=7/\wd=[111,110])\/(U=8/\wd=[100,117,109,112])\/(U=0/\ ¬wd=[100,111,110,101]/\ ¬wd=[111,110]/\ ¬wd=[100,117,109,112])) ?_ ?_
 ·
  refine ao ?_;refine ae (nC rfl rfl) (Gc ?_);refine Gb (fun Jb=>?_) fun Jb=>?_
  ·
   refine Gi ?_;refine Gs ?_;refine Gi ?_;exact eD 8 (.inr (.inr (.inl ⟨rfl,Jb⟩))) sb (fun w hw=>ag.mem hw)
  refine Gi ?_;exact eD t (ht.elim .inl fun g=>g.elim (fun q=> .inr (.inl q)) fun q=> .inr (.inr (.inr ⟨q.1,q.2.1,q.2.2,Jb⟩))) sb (fun w hw=>ag.mem hw)
 rintro t ht;refine an ?_;refine Gb (fun Qv=>?_) fun Qv=>?_
 ·
  have cF:dm s=gC/\eu s=8:=abP hC fun j g1 g8 hj=>by
   rcases ht with⟨g,_⟩|⟨g,_⟩|⟨g,_⟩|⟨_,d1,d2,d3⟩
   ·
    omega
   ·
    omega
   ·
    omega
   rcases LU g1 g8 with rfl|rfl|rfl|rfl|rfl|rfl|rfl|rfl
   ·
    exact h2 hj.symm
   ·
    exact h4 hj.symm
   ·
    exact d1 hj.symm
   ·
    exact h6 hj.symm
   ·
    exact Qu (.inl hj.symm)
   ·
    exact Qu (.inr hj.symm)
   ·
    exact d2 hj.symm
   exact d3 hj.symm
  refine aG ?_;refine Gr fun w1 hw=>?_;exact⟨(by rw[cF.1,cF.2]),ag.mem hw⟩
 have hS:(fo=false->dm s=(⟨t,bp,0#128,0,0⟩:aO)/\eu s=0)/\(fo=true->dm s=gC/\eu s=2):=by
  rcases ht with⟨rfl,g⟩|⟨rfl,g⟩|⟨rfl,g⟩|⟨g,_⟩
  ·
   exact I9 hC (k:=3) (.inl rfl) g.symm
  ·
   exact I9 hC (k:=7) (.inr (.inl rfl)) g.symm
  ·
   exact I9 hC (k:=8) (.inr (.inr rfl)) g.symm
  exact absurd g Qv
 refine aj ?_;refine Gb (fun mJ=>?_) fun mJ=>?_
 ·
  have cF:=hS.2 mJ;refine aG ?_;refine Gr fun w1 hw=>?_;exact⟨(by rw[cF.1,cF.2]),ag.mem hw⟩
 have cW:=hS.1 (by simpa using mJ);refine ao ?_;refine ae (cr (v:= .agg (aZ (⟨t,bp,0#128,0,0⟩:aO))) rfl (fun w=>by kernel_rfl)) (aj ?_);refine Gr fun w1 hw=>?_;exact⟨(by rw[cW.1,cW.2]),ag.mem hw⟩⟩
theorem abT(b p s:Int)(w:World):(Instr.build 76 #[(0, .int .i64 b),(1, .int .i64 p),(2, .int .i64 s)]).run Tryz.prog w= .ok (.agg (eV ⟨b,p,s,⟨Sv.none,[]⟩⟩)) w:=by kernel_rfl
instance ama{t:List UInt8}[tb:oo w0]:bK Tryz.prog 31 w0 L [.string ⟨t.toArray⟩] (gM) (fun U=> .tuple #[.agg (eV U), .int .i64 ((ez t).2.1), .int .i64 ((ez t).2.2)]) (fun U=>own aZ 38 U.l.sv U.l.xs::L) (fun U=>eW U=(ez t).1) (t.length<=1000000000):=⟨fun aw w hw=>Gk (fun U:gM=>[own aZ 38 U.l.sv U.l.xs]) hw (by
 have tb:=tb.at hw;have wx:=anf.2 (vG (c:=10) t);have Bw:dq t=(aE 10 t).length -1:=rfl;have nK:=zS 10 t;have y5:((aE 10 t).drop 1).take (dq t -1)=fA t:=by rw[fA,dq];rfl
 have Ii:=Md t;refine bQ Tryz.func31 rfl Tryz.ntmps31 rfl ?_;refine Gc ?_;refine bc fun b2=>aj ?_;refine ae (cX rfl) (bc fun b5=>aj ?_);refine ae (hH (s:=t) Tryz.underlying9 rfl) (ao ?_);refine Gb ?_ ?_<;>intro h0
 ·
  have hE:=L7 (t:=t) oM;refine aQ ?_;refine Gr fun w1 hw=>?_;exact⟨kG,by rw[hE],by rw[hE];rfl,Mem.cJ aZ 38 (ag.mem hw:Mem w [] _)⟩
 have mJ: ¬16384<t.length:=by omega
 refine ao ?_;refine aW (vs:=[_, .int .u8 ((10:UInt8).toNat:Int)]) rfl oM fun yZ P8=>an ?_;refine ae (Ry.to (v':= .int .i64 ((dq t:Nat):Int)) (vr rfl rfl oM) (by rw[Bw];congr 1;omega)) (ct ?_);refine aV rfl rfl rfl (fun hg=>(Ry.yl (aY (au hg rfl) (au hg rfl) (dq t) rfl (by simp only[Z0,Z1,Z2,Z3,Z4,Z5,Z6,Z7,Z8,Z9]at hg;omega)))) (aV rfl rfl rfl (fun hg=>(Ry.yl (bB (j:=0) (au hg rfl) (dq t) (jZ (xs:=(aE 10 t)) (i:=(dq t)) (d:=([]:aB)) (by simp only[Z0,Z1,Z2,Z3,Z4,Z5,Z6,Z7,Z8,Z9]at hg;omega)) rfl (by decide)))) (aV rfl rfl rfl (fun hg=>(Ry.yl (xu (au hg rfl) rfl))) (ao ?_)));refine Gb ?_ ?_<;>intro h1
 ·
  have hE:=L8 (t:=t) mJ (by rcases h1 with g|g;exact .inl oM;exact .inr g)
  refine dV ?_;refine Gr fun w1 hw=>?_;exact⟨kG,by rw[hE],by rw[hE];rfl,Mem.cJ aZ 38 (ag.mem hw:Mem w [] _)⟩
 have w3: ¬(dq t=0\/(aE 10 t).getD (dq t) []≠[]):=by rintro(g|g);exact h1.1 oM;exact g h1.2
 obtain⟨l0,ta⟩:=get_some (xs:=(aE 10 t)) (i:=0) wx;have hle:(aE 10 t).getD 0 []=l0:=by simp[List.getD,ta]
 have mW:l0.length<=t.length:=ri t (amm ta);have amb:=zS 32 l0;have amc:=anf.2 (vG (c:=32) l0);refine ao ?_;refine ae (aY rfl rfl 0 rfl oM) (ae (bB (j:=0) rfl 0 ta rfl (by decide)) (aW (vs:=[_, .int .u8 ((32:UInt8).toNat:Int)]) rfl oM fun ke tL=>ct ?_));refine aV rfl rfl rfl (fun hg=>(Ry.yl (aY (au hg rfl) rfl 0 rfl (by simp only[Z0,Z1,Z2,Z3,Z4,Z5,Z6,Z7,Z8,Z9]at hg;omega)))) (aV rfl rfl rfl (fun hg=>(Ry.yl (bB (j:=0) (au hg rfl) 0 (jZ (xs:=(aE 32 l0)) (i:=0) (d:=([]:aB)) (by simp only[Z0,Z1,Z2,Z3,Z4,Z5,Z6,Z7,Z8,Z9]at hg;omega)) rfl (by decide)))) (aV rfl rfl rfl (fun hg=>(Ry.yl (xu (au hg rfl) rfl))) (aj ?_)));refine aV rfl rfl rfl (fun hg=>(Ry.yl (aY (au hg rfl) rfl 1 rfl (by simp only[Z0,Z1,Z2,Z3,Z4,Z5,Z6,Z7,Z8,Z9]at hg;omega)))) (aV rfl rfl rfl (fun hg=>(Ry.yl (bB (j:=0) (au hg rfl) 1 (jZ (xs:=(aE 32 l0)) (i:=1) (d:=([]:aB)) (by simp only[Z0,Z1,Z2,Z3,Z4,Z5,Z6,Z7,Z8,Z9]at hg;omega)) rfl (by decide)))) (aV rfl rfl rfl (fun hg=>br (dB (au hg rfl) gk) trivial) (an ?_)));refine aV rfl rfl rfl (fun hg=>(Ry.yl (aY (au hg rfl) rfl 2 rfl (by simp only[Z0,Z1,Z2,Z3,Z4,Z5,Z6,Z7,Z8,Z9]at hg;omega)))) (aV rfl rfl rfl (fun hg=>(Ry.yl (bB (j:=0) (au hg rfl) 2 (jZ (xs:=(aE 32 l0)) (i:=2) (d:=([]:aB)) (by simp only[Z0,Z1,Z2,Z3,Z4,Z5,Z6,Z7,Z8,Z9]at hg;omega)) rfl (by decide)))) (aV rfl rfl rfl (fun hg=>br (dB (au hg rfl) gk) trivial) (an ?_)));refine aV rfl rfl rfl (fun hg=>(Ry.yl (aY (au hg rfl) rfl 3 rfl (by simp only[Z0,Z1,Z2,Z3,Z4,Z5,Z6,Z7,Z8,Z9]at hg;omega)))) (aV rfl rfl rfl (fun hg=>(Ry.yl (bB (j:=0) (au hg rfl) 3 (jZ (xs:=(aE 32 l0)) (i:=3) (d:=([]:aB)) (by simp only[Z0,Z1,Z2,Z3,Z4,Z5,Z6,Z7,Z8,Z9]at hg;omega)) rfl (by decide)))) (aV rfl rfl rfl (fun hg=>br (dB (au hg rfl) gk) trivial) (aj ?_)));refine Gb ?_ ?_<;>intro h2
 ·
  have cF:jH l0=none:=by
   by_cases q:(aE 32 l0).length=4
   ·
    by_cases c:(aE 32 l0).getD 0 []=ux
    ·
     by_cases n0:fg ((aE 32 l0).getD 1 []) 999<0
     ·
      exact CL (i:=0) q (by decide) (xO n0)
     by_cases n1:fg ((aE 32 l0).getD 2 []) 999<0
     ·
      exact CL (i:=1) q (by decide) (xO n1)
     have n2:fg ((aE 32 l0).getD 3 []) 999<0:=by rcases h2 with(((g|g)|g)|g)|g<;>first|exact g|exact absurd c g|omega
     exact CL (i:=2) q (by decide) (xO n2)
    exact L4 q c
   exact L3 q
  have hE:=L9 mJ w3 (by rw[hle];exact cF);refine aQ ?_;refine Gr fun w1 hw=>?_;exact⟨kG,by rw[hE],by rw[hE];rfl,Mem.cJ aZ 38 (ag.mem hw:Mem w [] _)⟩
 have h4:(aE 32 l0).length=4:=by omega
 have mA:(aE 32 l0).getD 0 []=ux:=by rcases h2 with⟨⟨⟨⟨_,g⟩,_⟩,_⟩,_⟩;exact g
 have m0: ¬fg ((aE 32 l0).getD 1 []) 999<0:=by omega
 have m1: ¬fg ((aE 32 l0).getD 2 []) 999<0:=by omega
 have m2: ¬fg ((aE 32 l0).getD 3 []) 999<0:=by omega
 have hq:=L5 h4 mA (fun j hj=>by
  rcases(show j=0\/j=1\/j=2 by omega)with rfl|rfl|rfl
  ·
   exact(sY m0).2
  ·
   exact(sY m1).2
  exact(sY m2).2)
 have e0:fg ((aE 32 l0).getD 1 []) 999=((gE (aE 32 l0) 0:Nat):Int):=(sY m0).1;have e1:fg ((aE 32 l0).getD 2 []) 999=((gE (aE 32 l0) 1:Nat):Int):=(sY m1).1;have e2:fg ((aE 32 l0).getD 3 []) 999=((gE (aE 32 l0) 2:Nat):Int):=(sY m2).1;have pH:=hq;rw[←hle]at pH;refine Gc ?_;refine gB [13,14] [[],[],[],[],[],[],[],[],[],[],[],[],[],[],[13]] [0,1,2,3,4,5,6,7,8,9,10,11,12,13,14] [own gu 1 ke (aE 32 l0)] (fun _ hw=>ag.mem hw) oK oK (ak rfl (ba rfl) ?_);obtain⟨Qw,Qx⟩:=get_some (xs:=(aE 32 l0)) (i:=1) oM;refine ak rfl (aY rfl rfl 1 rfl oM) (ak rfl (bB (j:=0) rfl 1 Qx rfl (by decide)) (qi rfl (br rfl trivial) (ak rfl (ba rfl) ?_)));obtain⟨Qy,Qz⟩:=get_some (xs:=(aE 32 l0)) (i:=2) oM;refine ak rfl (aY rfl rfl 2 rfl oM) (ak rfl (bB (j:=0) rfl 2 Qz rfl (by decide)) (qi rfl (br rfl trivial) (ak rfl (ba rfl) ?_)));obtain⟨QA,QB⟩:=get_some (xs:=(aE 32 l0)) (i:=3) oM;refine ak rfl (aY rfl rfl 3 rfl oM) (ak rfl (bB (j:=0) rfl 3 QB rfl (by decide)) (qi rfl (br rfl trivial) (ak rfl (cr (v:= .agg (eV (⟨fg Qw 999,fg Qy 999,fg QA 999,⟨Sv.none,[]⟩⟩:gM))) rfl (abT _ _ _)) (cC rfl (Cz fun b9=>⟨fun _ hw=>ag.mem hw,?_⟩)))));refine cC rfl (lV rfl rfl ⟨fun _ hw=>ag.mem hw,?_⟩);refine vY ?_;have g0:(aE 32 l0).getD 1 []=Qw:=by simp[List.getD,Qx]
 have g1:(aE 32 l0).getD 2 []=Qy:=by simp[List.getD,Qz]
 have g2:(aE 32 l0).getD 3 []=QA:=by simp[List.getD,QB]
 rw[g0]at e0;rw[g1]at e1;rw[g2]at e2;rw[e0,e1,e2];refine Gi ?_;refine ao ?_;refine bI (X:=Nat×Sv×List aO) (fun U=>[(10, .int .i64 ((U.1+1):Nat)),(9, .pointer (some ⟨b9,0,none⟩)),(2, .pointer (some ⟨b2,0,none⟩)),(5, .pointer (some ⟨b5,0,none⟩)),(6,yZ.val),(7, .int .i64 ((dq t):Nat))]) (fun U=>[own aZ 38 U.2.1 U.2.2,al b9 (eV (⟨(gE (aE 32 l0) 0:Nat),(gE (aE 32 l0) 1:Nat),(gE (aE 32 l0) 2:Nat),⟨U.2.1,U.2.2⟩⟩:gM)) 76,own gu 1 yZ (aE 10 t),al b5 (eV kG) 76,al b2 (eV kG) 76]) (fun U=>U.1<=dq t -1/\(∀j,j<U.1->eu ((fA t).getD j [])=0)/\U.2.2=((fA t).take U.1).map dm) (fun U=>dq t -1 -U.1) (0,Sv.none,[]) ⟨Nat.zero_le _,fun j h=>by first|omega|(simp only[];omega),rfl⟩ (Sub.cons (look_eq rfl rfl) sb) (fun w hw=>ag.mem (Mem.cJ aZ 38 hw)) ?_;rintro⟨i,s1,xs⟩ ⟨bf,aF,bo⟩;dsimp only;simp only at bf aF bo;have xW:xs.length<=i:=by rw[bo,List.length_map,List.length_take];omega
 refine aG ?_;refine Gb ?_ ?_<;>intro h3
 ·
  refine aj ?_;obtain⟨ln,hx⟩:=get_some (xs:=(aE 10 t)) (i:=(i+1)) oM;refine ae (aY rfl rfl (i+1) rfl oM) (ae (bB (j:=0) rfl (i+1) hx rfl (by decide)) (ck (br rfl (by have:=ri t (amm hx);omega)) (Gs ?_)));refine ae (ax (v:= .agg (aZ (dm ln))) rfl rfl) (ae (ax (v:= .int .i64 (eu ln)) rfl rfl) (bc fun mu=>ao ?_));refine vY ?_;have tj:(fA t)[i]? =some ln:=by rw[←y5,anO,if_pos oM,ang,aoy];exact hx
  have pS:(fA t).getD i []=ln:=by simp[List.getD,tj]
  refine Gi ?_;refine aj ?_;refine Gb ?_ ?_<;>intro h4
  ·
   have hE:=Ma mJ w3 pH aF oM (by rw[pS];exact h4);refine fS ?_;refine Gr fun w1 hw=>?_;exact⟨kG,by rw[hE,pS,show(((i+1:Nat)):Int)+1=(i:Int)+2 by omega],by rw[hE];rfl,Mem.cJ aZ 38 (ag.mem hw:Mem w [] _)⟩
  have yY:eu ln=0:=by simpa using h4
  refine an ?_;refine kO (enc:=aZ) (vals:=[_]) [(dm ln)] rfl rfl rfl (by decide) (by decide) fun QC=>?_;refine jY (s:=s1) (ys:=[(dm ln)]) rfl rfl (by decide) (fun w hw=>gP (s:=⟨false,QC,0,1,1,none⟩) Tryz.underlying74 (by decide) ((inferInstance:Hd _ _ ⟨false,QC,0,1,1,none⟩ aZ 38 [(dm ln)]).h w hw)) (by simp only[adr,ad2,af0];omega) (by simp only[adr,ad2,af0];omega) fun QD amd ame=>?_;refine Gs ?_;refine cR (cs':=eV (⟨(gE (aE 32 l0) 0:Nat),(gE (aE 32 l0) 1:Nat),(gE (aE 32 l0) 2:Nat),⟨QD,xs++[dm ln]⟩⟩:gM)) rfl rfl (by show 3<4;decide) (by first|rfl|exact Sv.one _) rfl (an ?_);refine Gi ?_;exact bg (x:=(i,s1,xs)) (i+1,QD,xs++[dm ln]) ⟨oF,fun j hj=>if e:j=i then(by subst e;rw[pS];exact yY)else aF j oF,by simp only;rw[bo,amq,tj,am0];rfl⟩ (by simp only;omega) (Sub.cons (look_eq rfl rfl) sb) (fun w hw=>ag.mem hw)
 obtain rfl:i=dq t -1:=by omega
 have hE:=Mc mJ w3 pH fun j hj=>aF j oM;rw[hle]at hE;have sW:xs=(fA t).map dm:=by rw[bo,amr oM]
 refine aQ ?_;refine Gb ?_ ?_<;>intro h5
 ·
  rw[if_pos (by rw[←amF (f:=dm),←sW];omega)]at hE;refine aQ ?_;refine Gr fun w1 hw=>?_;exact⟨kG,by rw[hE],by rw[hE];rfl,Mem.cJ aZ 38 (ag.mem hw:Mem w [] _)⟩
 rw[if_neg (by rw[←amF (f:=dm),←sW];omega)]at hE;refine aQ ?_;refine Gr fun w1 hw=>?_;exact⟨(⟨(gE (aE 32 l0) 0:Nat),(gE (aE 32 l0) 1:Nat),(gE (aE 32 l0) 2:Nat),⟨s1,xs⟩⟩:gM),by rw[hE],by rw[hE];simp only[eW,sW],ag.mem hw⟩)⟩
theorem abU(w:World)[tb:gS w](t:List UInt8)(x:aO):Calls Tryz.prog 6 #[.string ⟨t.toArray⟩, .agg (aZ x)] w fun e w'=>e= .returned (.bool true)/\Mem w [] w':=by
 refine cD Tryz.func6 rfl Tryz.ntmps6 rfl ?_;refine Gc ?_;refine bJ rfl fun b3=>aG ?_;refine ig rfl (fun h0=>?_) (fun h0=>?_)
 ·
  exfalso;simp at h0
 replace h0:=bz h0;refine ao ?_;refine ae (hH (s:=t) Tryz.underlying9 rfl) (ao ?_);refine Gb ?_ ?_<;>intro h1
 ·
  refine aj ?_;refine Gr fun w1 hw=>?_;exact⟨rfl,ag.mem hw⟩
 refine ao ?_;refine aW rfl oM fun Bz abV=>Gs ?_;refine ae (ax (v:= .agg (eV Bz)) rfl rfl) (ae (ax (v:= .int .i64 ((ez t).2.1)) rfl rfl) (ae (ax (v:= .int .i64 ((ez t).2.2)) rfl rfl) (bc fun b5=>aG ?_)));refine aW rfl oM fun cQ lf=>?_;have kS:Bz.b=cQ.b/\Bz.p=cQ.p/\Bz.s=cQ.s/\Bz.l.xs=cQ.l.xs:=by
  have h1:=abV.trans lf.symm;exact⟨congrArg ox.b h1,congrArg ox.p h1,congrArg ox.s h1,congrArg ox.l h1⟩
 refine Gs ?_;refine ae (ax (v:= .agg (eV cQ)) rfl rfl) (ae (ax (v:= .int .i64 ((ez t).2.1)) rfl rfl) (ae (ax (v:= .int .i64 ((ez t).2.2)) rfl rfl) (bc fun b8=>ct ?_)));refine ae (ax (v:= .string ⟨(ru x).toArray⟩) rfl rfl) (ae (ax (v:= .int .i64 (ov x)) rfl rfl) (aQ ?_));refine ae (ax (v:= .string ⟨(ru x).toArray⟩) rfl rfl) (ae (ax (v:= .int .i64 (ov x)) rfl rfl) (ct ?_));refine lO rfl rfl rfl (by simp[kS]) (Ry.yl (ba rfl)) (lO rfl rfl rfl (by simp[kS]) (Ry.yl (ba rfl)) (lO rfl rfl rfl (by simp[kS]) (Ry.yl (da rfl rfl rfl)) (ae (xw rfl (by simp[kS]) rfl rfl) (Gs ?_))));refine lO rfl rfl rfl (by simp[kS]) (Ry.yl (ba rfl)) (lO rfl rfl rfl (by simp[kS]) (Ry.yl (ba rfl)) (lO rfl rfl rfl (by simp[kS]) (Ry.yl (da rfl rfl rfl)) (ae (xw rfl (by simp[kS]) rfl rfl) (Gs ?_))));refine lO rfl rfl rfl (by simp[kS]) (Ry.yl (ba rfl)) (lO rfl rfl rfl (by simp[kS]) (Ry.yl (ba rfl)) (lO rfl rfl rfl (by simp[kS]) (Ry.yl (nC rfl rfl)) (ae (xw rfl (by simp[kS]) rfl rfl) (Gs ?_))));refine lO rfl rfl rfl (by simp[kS]) (Ry.yl (ba rfl)) (lO rfl rfl rfl (by simp[kS]) (Ry.yl (ba rfl)) (lO rfl rfl rfl (by simp[kS]) (Ry.yl (da rfl rfl rfl)) (ae (xw rfl (by simp[kS]) rfl rfl) (ao ?_))));refine Gr fun w1 hw=>?_;exact Ge ((by simp[kS])) hw
end Go.Proofs.YtkggjjnhnjjokaaGreatDoor
namespace Go.ay
open Go.ChangeShapes Go.WideShapes Go.ChangeAt Go.RowKit Go.Kb
variable {H:Type} {enc:TypeId×Value->H} {P:Program}
theorem QE(hl:laidOutB P=true){W W':World}{sp:Nat->Bool}: ∀{ts:List TypeId} {vs:List Value} {ds:List (DataW H)} {ps:List MemPlace},
  (∀t∈ts,P.readableRec t=true/\t<P.types.size)->DataW.TrodAll enc P W 0 (fun _=>true) true ts vs ds ps->(∀p∈ps,W.sameAt W' p)->(∀p∈ps,sp p.block=true)->
  DataW.TrodAll enc P W' 0 sp true ts vs ds ps
 |[],_,_,_,_,h,_,_=>by
  obtain⟨rfl,rfl,rfl⟩:=trodAll_nil h;exact rfl
 |t::_,_,_,_,ht,h,hs,hp=>by
  obtain⟨v,QF,d,QG,a,b,rfl,rfl,rfl,h1,h2⟩:=trodAll_cons h;exact⟨a,b,WideElems.Trod_stays hl (ht t (by simp)).1 (ht t (by simp)).2 h1 (fun p h=>hs p (by simp[h])) (fun p h=>hp p (by simp[h])),
   QE hl (fun t h=>ht t (by simp[h])) h2 (fun p h=>hs p (by simp[h])) (fun p h=>hp p (by simp[h])),rfl⟩
theorem Jc{W:World}{b:Nat}{sp:Nat->Bool}{hd:Bool}: ∀{ts:List TypeId} {vs:List Value} {ds:List (DataW H)} {ps:List MemPlace},
  DataW.TrodAll enc P W b sp hd ts vs ds ps->vs.length=ts.length/\ds.length=ts.length
 |[],_,_,_,h=>by
  obtain⟨rfl,rfl,rfl⟩:=trodAll_nil h;exact⟨rfl,rfl⟩
 |_::_,_,_,_,h=>by
  obtain⟨v,QF,d,QG,a,b,rfl,rfl,rfl,h1,h2⟩:=trodAll_cons h;have:=Jc h2;simp[this.1,this.2]
theorem abW(hl:laidOutB P=true){f:Func}{s:ChangeSpec}{apart fresh handsOn:Bool}{W W':World}{args:Array Value}{ds gs:List (DataW H)}{before:List MemPlace}{tb:TypeId}
  (hp:f.params.toList.all (fun t=>P.readableRec t&&decide (t<P.types.size))=true) (hr:f.resultTypes= #[tb]) (hb:P.underlying tb=some .bool) (hv:s.vars=[])
  (BA: ∀ds:List (DataW H),ds.length=f.params.size->s.fn H ds={results:=[.lit (.bool true)],args:=ds})
  (hW:DataW.Whole enc P f.params.toList s.vars apart W args.toList ds gs before) (QH:Below W.heap.size W W'):
  s.post enc P f apart fresh handsOn false W args (.bool true) W':=by
 have bx:=hW.lt;have hW0:=hW;obtain⟨p,q,hA,hV,rfl,lp,cn⟩:=hW;rw[hv]at hV;obtain⟨rfl,rfl⟩:=trodVars_none hV;have hlen:=Jc hA;have e1:s.fn H (ds++[])={results:=[.lit (.bool true)],args:=ds}:=by rw[am4];exact BA ds (by rw[hlen.2];simp)
 have kW: ∀t∈f.params.toList,P.readableRec t=true/\t<P.types.size:=fun t ht=>by
  simpa using amt.1 hp t ht
 refine⟨ds,[],p++[],[],p,[],hW0,?_,?_,?_,QH.frame _,fun h=>by cases h⟩
 ·
  rw[e1,hr];exact trodAll_mk1 (shut_bool hb true)
 ·
  rw[e1];exact QE hl kW hA (fun x hx=>QH.same (bx x (by simp[hx]))) (fun x hx=>by simpa using bx x (by simp[hx]))
 ·
  rw[e1,hv];exact rfl
theorem QI{α:Type}{l:List α}(h:l.length=2): ∃a b,l=[a,b]:=match l,h with|[a,b],_=>⟨a,b,rfl⟩
theorem CK{α:Type}{l:List α}(h:l.length=4): ∃a b c d,l=[a,b,c,d]:=match l,h with|[a,b,c,d],_=>⟨a,b,c,d,rfl⟩
variable {P:Program}
theorem QJ{α:Type}{p:Nat->α->Prop}: ∀{n:Nat},(∀i,i<n-> ∃x,p i x)-> ∃l:List α,l.length=n/\ ∀i x,l[i]? =some x->p i x
 |0,_=>⟨[],rfl,fun i x h=>by simp at h⟩
 |n+1,h=>by
  obtain⟨l,hl,hp⟩:=QJ (n:=n) fun i hi=>h i (by omega);obtain⟨x,hx⟩:=h n (by omega);refine⟨l++[x],by simp[hl],fun i y hy=>?_⟩
  by_cases hi:i<n
  ·
   rw[amC (by omega)]at hy;exact hp i y hy
  have:i=n:=by
   have:=(zz.1 hy).1;rw[adr,hl]at this;simp at this;omega
  subst this;rw[amw (by omega),hl]at hy;have:x=y:=by simpa using hy
  exact this▸hx
class lh(P:Program)(t:TypeId)(τ:Type)[Deep τ]:Prop where
 sz:P.cellsOf t=Deep.c τ
 h: ∀{H:Type} {enc:TypeId×Value->H} {w:World} {fuel:Nat} {cs:List Value} {d:DataW H} {ps:List MemPlace},DataW.trod enc P w 0 (fun _=>true) true fuel t cs=some (d,ps)->(∀n∈d.weights P t,n<=reachBytes)->
  ∃x:τ,(Deep.cells x).toList=cs/\Deep.dD (hp w) x
theorem QK{H:Type}{e:TypeId}{n:Nat}: ∀{l:List (DataW H)} {d:DataW H},d∈l->n∈d.weights P e->n∈DataW.weightsAll P e l
 |x::l,d,hd,hn=>by
  rw[DataW.weightsAll];rcases amA.1 hd with rfl|hd
  ·
   exact am8 _ hn
  exact List.mem_append_right _ (QK hd hn)
theorem Jd{H:Type}{n:Nat}: ∀{ts:List TypeId} {l:List (DataW H)} {i:Nat} {t:TypeId} {d:DataW H},ts[i]? =some t->l[i]? =some d->n∈d.weights P t->n∈DataW.weightsEach P ts l
 |[],_,i,_,_,h,_,_=>by simp at h
 |_::_,[],i,_,_,_,h,_=>by simp at h
 |t0::ts,d0::l,0,t,d,ht,hd,hn=>by
  obtain rfl:t0=t:=by simpa using ht
  obtain rfl:d0=d:=by simpa using hd
  rw[DataW.weightsEach];exact am8 _ hn
 |t0::ts,d0::l,i+1,t,d,ht,hd,hn=>by
  rw[DataW.weightsEach];exact List.mem_append_right _ (Jd (i:=i) (by simpa using ht) (by simpa using hd) hn)
theorem sq{H:Type}{enc:TypeId×Value->H}{w:World}{fuel:Nat}{t:TypeId}{cs:List Value}{d:DataW H}{ps:List MemPlace}{fs:Array Field}(hu:P.underlying t=some (.struct fs))(h:DataW.trod enc P w 0 (fun _=>true) true fuel t cs=some (d,ps))(hw: ∀n∈d.weights P t,n<=reachBytes)
  {i tf off:Nat} (kN:(fs[i]?).map (fun f=>(f.type,f.offset))=some (tf,off)) (τ:Type) [Deep τ] [o:lh P tf τ]:cs.length=P.cellsOf t/\ ∃x:τ,(Deep.cells x).toList=(cs.drop off).take (Deep.c τ)/\Deep.dD (hp w) x:=by
 obtain⟨f,hf,e⟩:=anH.1 kN;obtain⟨rfl,rfl⟩:=Prod.mk.inj e;obtain⟨xs,n,_,hx,hl,hlen,hg⟩:=DataW.trod_struct hu h;have h1:=hg i f hf;have hi:i<xs.length:=by rw[hlen];exact(anE.1 hf).1
 rw[amG hi,o.sz]at h1;have hd:d= .agg (xs.map (·.1)):=congrArg Prod.fst hx;subst hd;obtain⟨x,qq,pz⟩:=o.h (d:=xs[i].1) (ps:=xs[i].2) h1 (fun k hk=>hw k (by
  simp only[DataW.weights,hu];exact Jd (i:=i) (t:=f.type) (d:=xs[i].1) (by
   have:fs.toList[i]? =some f:=by simpa using hf
   rw[amx,this];rfl) (by simp[hi]) hk))
 exact⟨hl,x,qq,pz⟩
theorem abX{H:Type}{enc:TypeId×Value->H}{w:World}{fuel:Nat}{t e:TypeId}{m:Nat}{cs:List Value}{d:DataW H}{ps:List MemPlace}(hu:P.underlying t=some (.array m e))(h:DataW.trod enc P w 0 (fun _=>true) true fuel t cs=some (d,ps))(hw: ∀n∈d.weights P t,n<=reachBytes)
  (τ:Type) [Deep τ] [o:lh P e τ]:cs.length=P.cellsOf t/\ ∀i,i<m-> ∃x:τ,(Deep.cells x).toList=(cs.drop (i*Deep.c τ)).take (Deep.c τ)/\Deep.dD (hp w) x:=by
 cases fuel with
 |zero=>simp[DataW.trod]at h
 |succ n=>
  unfold DataW.trod at h;rw[hu]at h;split at h<;>simp_all
  rename_i m' e' heq;obtain⟨hl,xs,gY,hd⟩:=h;obtain⟨rfl,rfl⟩:=heq;intro i hi;have hlen:=mapM_some_length gY;have pd:i<xs.length:=by simpa[hlen]using hi
  have h1:=mapM_some_get gY i i (by simp[hi]);rw[amG pd,o.sz]at h1;obtain⟨rfl,-⟩:=hd;exact o.h (d:=xs[i].1) (ps:=xs[i].2) h1 (fun k hk=>hw k (by
   simp only[DataW.weights,hu];exact QK (am5 (aoN pd)) hk))
theorem Je{α:Type}{cs:List α}{a b:Nat}(h:cs.length=a+b):(cs.drop 0).take a++(cs.drop a).take b=cs:=by
 rw[anh,amr (l:=cs.drop a) (by rw[amu];omega),amO]
theorem abY{α:Type}{cs:List α}{a b c:Nat}(h:cs.length=a+b+c):(cs.drop 0).take a++(cs.drop a).take b++(cs.drop (a+b)).take c=cs:=by
 have h1:=Je (cs:=cs) (a:=a+b) (b:=c) (by omega)
 conv=>rhs;rw[←h1]
 congr 1;rw[anh,List.take_add]
def Jf(n:Int):Array Value:= #[.int .i64 n]
instance:bn Jf 1:=⟨fun _=>rfl,fun _=>by simp[Jf,Value.oneCell']⟩
instance:Deep Int:=Deep.flat Jf 1
def BB(n:UInt16):Array Value:= #[.int .u16 n.toNat]
instance:bn BB 1:=⟨fun _=>rfl,fun _=>by simp[BB,Value.oneCell']⟩
instance:Deep UInt16:=Deep.flat BB 1
theorem abZ{t:TypeId}(hu:P.underlying t=some (.int .i64))(hs:P.cellsOf t=1):lh P t Int:=⟨hs,fun h _=>by
 obtain⟨n,rfl,_,_⟩:=DataW.trod_int hu h;exact⟨n,rfl,trivial⟩⟩
theorem ab0{t:TypeId}(hu:P.underlying t=some (.int .u8))(hs:P.cellsOf t=1):lh P t UInt8:=⟨hs,fun h _=>by
 obtain⟨n,rfl,_,hw⟩:=DataW.trod_int hu h;simp only[Lit.wf,alM,decide_eq_true_eq]at hw;have h1:(0:Int)<=n:=hw.1;have h2:n<=(255:Int):=hw.2;refine⟨UInt8.ofNat n.toNat,?_,trivial⟩;have:((UInt8.ofNat n.toNat).toNat:Int)=n:=by simp;omega
 show(aL (UInt8.ofNat n.toNat)).toList=_;simp only[aL,this]⟩
theorem ab1{t:TypeId}(hu:P.underlying t=some (.int .u16))(hs:P.cellsOf t=1):lh P t UInt16:=⟨hs,fun h _=>by
 obtain⟨n,rfl,_,hw⟩:=DataW.trod_int hu h;simp only[Lit.wf,alM,decide_eq_true_eq]at hw;have h1:(0:Int)<=n:=hw.1;have h2:n<=(65535:Int):=hw.2;refine⟨UInt16.ofNat n.toNat,?_,trivial⟩;have:((UInt16.ofNat n.toNat).toNat:Int)=n:=by simp;omega
 show(BB (UInt16.ofNat n.toNat)).toList=_;simp only[BB,this]⟩
theorem ab2{H:Type}{enc:TypeId×Value->H}{w:World}{b:Nat}{t e:TypeId}{τ:Type}[Deep τ][o:lh P t (Sl τ)](hu:P.underlying t=some (.slice e)){v:Value}{d:DataW H}{ps:List MemPlace}(hv:Value.okWide P w .any b t v)(h:DataW.Trod enc P w 0 (fun _=>true) true t v d ps)(hw: ∀n∈d.weights P t,n<=reachBytes):
  ∃x:Sl τ,v=x.sv.val/\Deep.dD (hp w) x:=by
 obtain⟨fuel,h⟩:=h;obtain⟨x,h1,h2⟩:=o.h h hw;refine⟨x,?_,h2⟩;have hc:v.cells= #[v]:=by
  unfold Value.okWide at hv;rw[hu]at hv;unfold Cell.okWide at hv;rw[hu]at hv
  cases v<;>simp_all[Cell.ok,Value.cells]
 rw[hc]at h1;have:[x.sv.val]=[v]:=h1;simpa using this.symm
theorem ab3{H:Type}{enc:TypeId×Value->H}{w:World}{b:Nat}{t:TypeId}{τ:Type}[Deep τ][o:lh P t τ](hu: ∃d,P.underlying t=some d/\tZ d=true){v:Value}{d:DataW H}{ps:List MemPlace}(hv:Value.okWide P w .any b t v)(h:DataW.Trod enc P w 0 (fun _=>true) true t v d ps)(hw: ∀n∈d.weights P t,n<=reachBytes):
  ∃x:τ,v= .agg (Deep.cells x)/\Deep.dD (hp w) x:=by
 obtain⟨fuel,h⟩:=h;obtain⟨x,h1,h2⟩:=o.h h hw;refine⟨x,?_,h2⟩;obtain⟨dd,PK,Hi⟩:=hu;have hc: ∃cs,v= .agg cs:=by
  unfold Value.okWide at hv;rw[PK]at hv
  cases dd<;>simp[tZ]at Hi
  ·
   obtain⟨cs,rfl,_⟩:=hv;exact⟨cs,rfl⟩
  ·
   obtain⟨cs,rfl,_⟩:=hv;exact⟨cs,rfl⟩
 obtain⟨cs,rfl⟩:=hc;have:(Deep.cells x).toList=cs.toList:=h1;rw[Array.toList_inj.1 this]
structure Arg(H:Type)(enc:TypeId×Value->H)(P:Program)(W:World)(b:Nat)(t:TypeId)(v:Value):Prop where
 ok:Value.okWide P W .any b t v
 trod: ∃d ps,DataW.Trod enc P W 0 (fun _=>true) true t v d ps/\ ∀n∈d.weights P t,n<=reachBytes
theorem Arg.sl{H:Type}{enc:TypeId×Value->H}{W:World}{b:Nat}{t e:TypeId}{v:Value}(h:Arg H enc P W b t v)(hu:P.underlying t=some (.slice e))(τ:Type)[Deep τ][o:lh P t (Sl τ)]: ∃x:Sl τ,v=x.sv.val/\Deep.dD (hp W) x:=by
 obtain⟨d,ps,h1,h2⟩:=h.trod;exact ab2 hu h.ok h1 h2
theorem Arg.agg{H:Type}{enc:TypeId×Value->H}{W:World}{b:Nat}{t:TypeId}{v:Value}(h:Arg H enc P W b t v){n:Nat}(hu:eX P t n)(τ:Type)[Deep τ][o:lh P t τ]: ∃x:τ,v= .agg (Deep.cells x)/\Deep.dD (hp W) x:=by
 obtain⟨d,ps,h1,h2⟩:=h.trod;exact ab3 hu.row h.ok h1 h2
theorem QL{H:Type}{enc:TypeId×Value->H}{W:World}{sp:Nat->Bool}{hd:Bool}: ∀{ts:List TypeId} {vs:List Value} {ds:List (DataW H)} {ps:List MemPlace},DataW.TrodAll enc P W 0 sp hd ts vs ds ps-> ∀(j:Nat) (t:TypeId) (v:Value),ts[j]? =some t->vs[j]? =some v->
  ∃d p,ds[j]? =some d/\DataW.Trod enc P W 0 sp hd t v d p
 |[],_,_,_,h,j,_,_,ht,_=>by simp at ht
 |t0::ts,vs,ds,ps,h,j,t,v,ht,hv=>by
  obtain⟨v0,QF,d0,QG,a,b,rfl,rfl,rfl,h1,h2⟩:=trodAll_cons h
  cases j with
  |zero=>
   obtain rfl:t0=t:=by simpa using ht
   obtain rfl:v0=v:=by simpa using hv
   exact⟨d0,a,rfl,h1⟩
  |succ j=>exact QL h2 j t v (by simpa using ht) (by simpa using hv)
variable {P:Program}
theorem Arg.str{H:Type}{enc:TypeId×Value->H}{W:World}{b:Nat}{t:TypeId}{v:Value}(h:Arg H enc P W b t v)(hu:P.underlying t=some .string): ∃s:aB,v= .string ⟨s.toArray⟩/\True:=by
 have h:=h.ok;unfold Value.okWide at h;rw[hu]at h
 cases v with
 |string s=>exact⟨s.data.toList,congrArg Value.string (Kd s),trivial⟩
 |_=>simp[Cell.okWide,hu,Cell.ok]at h
theorem ab4{H:Type}{enc:TypeId×Value->H}{C:Checked}{os:Os}{f:FuncId}{fn:Func}{s:ChangeSpec}{conds:List PathCond}{apart fresh handsOn:Bool}{tb:TypeId}{laid:List (String×DataW Unit)}
  (own:ownKnob C.prog.godebug=none) (started:os.Started) (ab5:C.prog.inits.idxOf? f=none) (ab6:C.prog.funcs[f]? =some fn)
  (wit: ∃(w:World) (tape:Tape) (i:Input),w.os=os/\(w.forCall tape i).Shaped C.prog/\i.vars=[]/\Input.okWide C.prog (w.forCall tape i) .any w.heap.size f i/\
   ((s.pre enc C.prog fn conds apart (w.forCall tape i).memory i.args/\laidMetH C.prog laid (w.forCall tape i).memory)/\sizedMet enc C.prog fn (OpenSpec.ofChange s) apart (w.forCall tape i).memory i.args)/\({}:Assume).holds C.prog (lone (Frame.enter C.prog f i.args .normal) [] (w.forCall tape i)))
  (hl:laidOutB C.prog=true) (hp:fn.params.toList.all (fun t=>C.prog.readableRec t&&decide (t<C.prog.types.size))=true) (hr:fn.resultTypes= #[tb]) (hb:C.prog.underlying tb=some .bool)
  (hv:s.vars=[]) (BA: ∀ds:List (DataW H),ds.length=fn.params.size->s.fn H ds={results:=[.lit (.bool true)],args:=ds})
  (ab7: ∀(W:World) (base:Nat) (vs:List Value),W.ShapedOpen C.prog->laidMetH C.prog laid W->vs.length=fn.params.size->(∀(j:Nat) t v,fn.params[j]? =some t->vs[j]? =some v->Arg H enc C.prog W base t v)->
   Calls C.prog f vs.toArray W fun e W'=>e= .returned (.bool true)/\Mem W [] W'):
  ReturnsInHanded {} C os f .any (fun w args=>(s.pre enc C.prog fn conds apart w args/\laidMetH C.prog laid w)/\sizedMet enc C.prog fn (OpenSpec.ofChange s) apart w args) (s.post enc C.prog fn apart fresh handsOn false):=by
 refine returnsInHanded_of_calls own started ab5 wit ?_;intro w tape i _ hsh _ cd aw amf;obtain⟨_,_,_,QM,ab8,_,_,_,_,ab9⟩:=cd;have e:QM=fn:=amn (ab8.symm.trans ab6);subst e;obtain⟨⟨⟨ds,gs,before,hw,hc⟩,hx⟩,hz⟩:=aw;have hW:=DataW.Whole.of_heap (w':=w.forCall tape i) (by rfl) hw;have pf:=hz.weights hw;have hlen:i.args.toList.length=QM.params.size:=by
  obtain⟨p,q,hA,_⟩:=hW;rw[(Jc hA).1];simp
 have h:=ab7 (w.forCall tape i) w.heap.size i.args.toList hsh (laidMetH.of_heap (by rfl) hx) hlen (fun j t v h1 h2=>⟨ab9 j t v h1 (by simpa using h2),by
  obtain⟨p,q,hA,_⟩:=hW;obtain⟨d,pp,hd,ht⟩:=QL hA j t v (by simpa using h1) h2;refine⟨d,pp,ht,fun n hn=>?_⟩;have hh:=amt.1 pf n (Jd (i:=j) (t:=t) (d:=d) (by rw[amC (by have:=(anE.1 h1).1;simpa using this)];simpa using h1)
   (by rw[amC (zz.1 hd).1];exact hd) hn)
  simpa using hh⟩)
 rw[Array.toArray_toList]at h;refine h.mono fun e W' hh=>?_;obtain⟨he,hm⟩:=hh;subst he;exact ChangeSpec.post_blind (abW hl hp hr hb hv BA hW hm.below)
variable {P:Program}
def Jg(n:Int64):Array Value:= #[.int .i64 n.toInt]
instance:bn Jg 1:=⟨fun _=>rfl,fun _=>by simp[Jg,Value.oneCell']⟩
instance:Deep Int64:=Deep.flat Jg 1
theorem aca{t:TypeId}(hu:P.underlying t=some (.int .i64))(hs:P.cellsOf t=1):lh P t Int64:=⟨hs,fun h _=>by
 obtain⟨n,rfl,_,hw⟩:=DataW.trod_int hu h;simp only[Lit.wf,alM,decide_eq_true_eq]at hw;have h1:(-9223372036854775808:Int)<=n:=hw.1;have h2:n<=(9223372036854775807:Int):=hw.2;refine⟨Int64.ofInt n,?_,trivial⟩;show(#[Value.int .i64 (Int64.ofInt n).toInt]).toList=_;rw[Int64.toInt_ofInt_of_le (by omega) (by omega)]⟩
theorem acb{α:Type}{cs:List α}{a b c d e:Nat}(h:cs.length=a+b+c+d+e):(cs.drop 0).take a++(cs.drop a).take b++(cs.drop (a+b)).take c++(cs.drop (a+b+c)).take d++(cs.drop (a+b+c+d)).take e=cs:=by
 have h1:=Je (cs:=cs) (a:=a+b+c+d) (b:=e) (by omega)
 conv=>rhs;rw[←h1]
 congr 1;rw[anh,List.take_add,List.take_add,List.take_add]
end Go.ay
namespace Go.Proofs.YtkggjjnhnjjokaaGreatDoor
open Go.ay Go.Kb
instance op3:lh Tryz.prog 3 Int:=abZ Tryz.underlying3 (by kernel_rfl)
instance op5:lh Tryz.prog 5 UInt8:=ab0 Tryz.underlying5 (by kernel_rfl)
instance amg:lh Tryz.prog 27 UInt16:=ab1 Tryz.underlying27 (by kernel_rfl)
instance:bn bw 16:=⟨du,fun k=>(inferInstance:eY (bw k) 16).one⟩
instance:Deep Key:=Deep.flat bw 16
instance:bn cl 18:=⟨lQ,fun k=>(inferInstance:eY (cl k) 18).one⟩
instance:Deep cz:=Deep.flat cl 18
instance amh:lh Tryz.prog 25 Key:=⟨by kernel_rfl,fun h hw=>by
 obtain⟨hl,he⟩:=abX Tryz.underlying25 h hw UInt8;rw[show Tryz.prog.cellsOf 25=16 from by kernel_rfl]at hl;obtain⟨l,mW,hlp⟩:=QJ (p:=fun i (x:UInt8)=>_) he;refine⟨nD fun i=>(l.getD i 0).toNat,?_,trivial⟩;refine anq fun i=>?_;rw[Array.getElem?_toList];rcases amv i 16 with hi|hi
 ·
  have hx:l[i]? =some (l.getD i 0):=jZ (by omega);have h1:=congrArg (·[0]?) (hlp i _ hx).1;simp only[anO,ang]at h1;rw[if_pos (by decide),show i*Deep.c UInt8+0=i from an0 i]at h1;have h3:some (Value.int .u8 (l.getD i 0).toNat)=_:=h1;have e8:(l.getD i 0).toNat%2^8=(l.getD i 0).toNat:=amY (l.getD i 0).toNat_lt;show(bw _)[i]? =_;rw[fK _ _ hi,rb _ _ hi,e8,←h3]
 show(bw _)[i]? =_;rw[Kl _ _ hi,amD (by omega)]⟩
instance ami:lh Tryz.prog 32 cz:=⟨by kernel_rfl,fun h hw=>by
 obtain⟨hl,x0,h0,-⟩:=sq Tryz.underlying32 h hw (i:=0) (tf:=3) (off:=0) rfl Int;obtain⟨-,x1,h1,-⟩:=sq Tryz.underlying32 h hw (i:=1) (tf:=3) (off:=1) rfl Int;obtain⟨-,x2,h2,-⟩:=sq Tryz.underlying32 h hw (i:=2) (tf:=25) (off:=2) rfl Key;refine⟨⟨x0,x1,x2⟩,?_,trivial⟩;refine Eq.trans ?_ (abY (a:=1) (b:=1) (c:=16) (hl.trans (by kernel_rfl)));rw[show(Deep.cells (⟨x0,x1,x2⟩:cz)).toList=(Deep.cells x0).toList++(Deep.cells x1).toList++(Deep.cells x2).toList from by show(cl _).toList=_;unfold cl;rw[aoC];rfl,h0,h1,h2];rfl⟩
instance amj:lh Tryz.prog 34 Rt:=⟨by kernel_rfl,fun h hw=>by
 obtain⟨hl,x0,h0,-⟩:=sq Tryz.underlying34 h hw (i:=0) (tf:=32) (off:=0) rfl cz;obtain⟨-,x1,h1,-⟩:=sq Tryz.underlying34 h hw (i:=1) (tf:=27) (off:=18) rfl UInt16;refine⟨⟨x0,x1⟩,?_,trivial⟩;refine Eq.trans ?_ (Je (a:=18) (b:=1) (hl.trans (by kernel_rfl)));rw[show(Deep.cells (⟨x0,x1⟩:Rt)).toList=(Deep.cells x0).toList++(Deep.cells x1).toList from by show(av _).toList=_;unfold av;rw[aoC];rfl,h0,h1];rfl⟩
open Go.RowKit Go.ChangeShapes Go.WideShapes Go.ChangeAt
instance amk:lh Tryz.prog 3 Int64:=aca Tryz.underlying3 (by kernel_rfl)
instance aml:lh Tryz.prog 73 aO:=⟨by kernel_rfl,fun h hw=>by
 obtain⟨hl,x0,h0,-⟩:=sq Tryz.underlying73 h hw (i:=0) (tf:=3) (off:=0) rfl Int;obtain⟨-,x1,h1,-⟩:=sq Tryz.underlying73 h hw (i:=1) (tf:=34) (off:=1) rfl Rt;obtain⟨-,x2,h2,-⟩:=sq Tryz.underlying73 h hw (i:=2) (tf:=25) (off:=20) rfl Key;obtain⟨-,x3,h3,-⟩:=sq Tryz.underlying73 h hw (i:=3) (tf:=3) (off:=36) rfl Int;obtain⟨-,x4,h4,-⟩:=sq Tryz.underlying73 h hw (i:=4) (tf:=3) (off:=37) rfl Int64;refine⟨⟨x0,x1,x2,x3,x4⟩,?_,trivial⟩;refine Eq.trans ?_ (acb (a:=1) (b:=19) (c:=16) (d:=1) (e:=1) (hl.trans (by kernel_rfl)));rw[show(Deep.cells (⟨x0,x1,x2,x3,x4⟩:aO)).toList=(Deep.cells x0).toList++(Deep.cells x1).toList++(Deep.cells x2).toList++(Deep.cells x3).toList++(Deep.cells x4).toList from by
  show(aZ _).toList=_;rw[Y8,aoC,aoC,aoC];exact(ams _ [_] [_]).symm,h0,h1,h2,h3,h4]
 rfl⟩
end Go.Proofs.YtkggjjnhnjjokaaGreatDoor
