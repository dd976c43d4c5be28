/- Laws and walks by which the law LabWhole is proved, each with its own conditions. -/
import Derived.Test.YtkggjjnhnjjokaaGreatDoorG6
set_option maxRecDepth 20000
set_option linter.unusedSimpArgs false
set_option linter.unusedVariables false
namespace Go.Proofs.YtkggjjnhnjjokaaGreatDoor
open Go.ax Go.Kb Go.RowKit
structure mj where
 b:Int
 p:Int
 s:Int
 l:Sl aS
def kT(x:mj):Array Value:= #[.int .i64 x.b, .int .i64 x.p, .int .i64 x.s,x.l.sv.val]
instance:bp kT 4:=⟨fun _=>rfl,fun x=>by
 simp only[kT,avc,avl,avw,Sv.one,uu,uv,au4]⟩
instance (x:mj):gn (kT x) 4:=⟨rfl,bp.one x⟩
instance (x:mj):bQ (kT x) 0 (.int .i64 x.b):=⟨rfl⟩
instance (x:mj):bQ (kT x) 1 (.int .i64 x.p):=⟨rfl⟩
instance (x:mj):bQ (kT x) 2 (.int .i64 x.s):=⟨rfl⟩
instance (x:mj):bQ (kT x) 3 (x.l.sv.val):=⟨rfl⟩
instance:Deep mj where
 c:=4
 cells:=kT
 size:=bp.size
 one:=bp.one
 cK h x:=Deep.cK h x.l
 cz x:=Deep.cz x.l
 jA h x hs:=Deep.jA h x.l hs
 mono w w' x hg hb:=Deep.mono w w' x.l hg hb
variable {w0:World}{L:List ai}
instance{x:mj}[q:aX w0 L x]:aX w0 L x.l:=⟨fun w hw=>(q.h w hw)⟩
def sh:mj:=⟨0,0,0,⟨Sv.none,[]⟩⟩
def gJ(x:mj):sV:=⟨x.b,x.p,x.s,x.l.xs⟩
instance:su Tryz.prog 76 [] (.agg (kT sh)):=⟨fun w=>by kernel_rfl⟩
instance:eP Tryz.prog 76 (.agg (kT sh)):=⟨by kernel_rfl⟩
instance:eP Tryz.prog 242 (.agg (Bc [] 0)):=⟨by kernel_rfl⟩
def zD(s:aH):mj:=match kH s with
 |some q=>⟨(q.1:Nat),(q.2.1:Nat),(q.2.2:Nat),⟨Sv.none,[]⟩⟩
 |none=>sh
theorem ahi{α:Type}{l:List α}{i:Nat}{d:α}(h:i<l.length):l.getD i d∈l:=by simp[List.getD,h]
theorem Vm{s:aH}(h:kH s=none):zD s=sh:=by rw[zD,h]
theorem Vn{s:aH}{a b c:Nat}(h:kH s=some (a,b,c)):zD s=⟨(a:Nat),(b:Nat),(c:Nat),⟨Sv.none,[]⟩⟩:=by rw[zD,h]
instance asV{s:List UInt8}[tb:iC w0]:bU Tryz.prog 79 w0 L [.string ⟨s.toArray⟩] (.tuple #[.agg (kT (zD s)), .bool ((kH s).isSome)]) (s.length<=1000000000):=⟨fun aA w hw=>by
 have tb:=tb.at hw;refine ct Tryz.func79 rfl Tryz.ntmps79 rfl ?_;refine Gc ?_;refine bt fun b2=>al ?_;refine bb rfl oM fun cZ r9=>di ?_;refine bJ rfl rfl rfl (fun hg=>(Ry.yl (bh (aF hg rfl) rfl 0 rfl (by simp only[Z0,Z1,Z2,Z3,Z4,Z5,Z6,Z7,Z8,Z9]at hg;omega)))) (bJ rfl rfl rfl (fun hg=>(Ry.yl (bT (j:=0) (aF hg rfl) 0 (po (xs:=(ba 32 s)) (i:=0) (d:=([]:aH)) (by simp only[Z0,Z1,Z2,Z3,Z4,Z5,Z6,Z7,Z8,Z9]at hg;omega)) rfl (by decide)))) (bJ rfl rfl rfl (fun hg=>(Ry.yl (E9 (aF hg rfl) rfl))) (av ?_)));refine Gb ?_ ?_<;>intro h0
 ·
  have eY:kH s=none:=by
   by_cases q:(ba 32 s).length=4
   ·
    refine abC q fun g=>?_;rcases h0 with r|r
    ·
     omega
    exact r g
   exact abB q
  refine Gc ?_;refine ag (fP rfl) (al ?_);refine Gr fun w1 hw=>?_;exact⟨(by rw[Vm eY,eY];rfl),ah.mem hw⟩
 have h4:(ba 32 s).length=4:=by omega
 have pa:(ba 32 s).getD 0 []=sW:=h0.2;have Ur:(((ba 32 s).drop 1).take ((ba 32 s).length -1)).length=3:=by rw[atq,atD];omega
 refine Gc ?_;refine bt fun b5=>av ?_;have MG:Rg 1 ((ba 32 s).length) (ba 32 s).length:=⟨by omega⟩;refine ag (Cm rfl rfl 1 rfl MG.h.1) (al ?_);refine ck (X:=Nat) (fun U=>[(25, .int .i64 (U:Nat)),(2, .pointer (some ⟨b2,0,none⟩)),(5, .pointer (some ⟨b5,0,none⟩)),(23,((⟨false,cZ,0,(ba 32 s).length,(ba 32 s).length,none⟩:Sv).sub 1 1 ((ba 32 s).length)).val),(24, .int .i64 ((((ba 32 s).drop 1).take ((ba 32 s).length -1)).length:Nat))]) (fun U=>[aq b5 (Bc (ba 32 s) U) 242,own mw 1 ⟨false,cZ,0,(ba 32 s).length,(ba 32 s).length,none⟩ (ba 32 s),aq b2 (kT sh) 76]) (fun U=>U<=3/\ ∀j,j<U->(bD ((ba 32 s).getD (j+1) []) 999).isSome=true) (fun U=>3 -U) 0 ⟨Nat.zero_le _,fun j h=>by first|omega|(simp only[];omega)⟩ sb (fun w hw=>ah.mem (show Mem _ [aq b5 (Bc (ba 32 s) 0) 242,own mw 1 ⟨false,cZ,0,(ba 32 s).length,(ba 32 s).length,none⟩ (ba 32 s),aq b2 (kT sh) 76] _ from hw)) ?_;rintro i ⟨hi,aL⟩;refine al ?_;refine Gb ?_ ?_<;>intro h1
 ·
  refine av ?_;obtain⟨x,hx⟩:=get_some (xs:=(((ba 32 s).drop 1).take ((ba 32 s).length -1))) (i:=i) oM;refine ag (bh rfl rfl i rfl oM) (ag (bT (j:=0) rfl i hx rfl (by decide)) (av ?_));refine kD ?_;have ye:(ba 32 s).getD (i+1) []=x:=by
   rw[avj,if_pos oM,auC,avT]at hx;simp[List.getD,hx]
  have AF:x.length<=s.length:=Fx s (by rw[←ye];exact ahi oM);have HT:oz (ba 32 s) i=(bD x 999).getD 0:=by rw[oz,ye]
  refine Gi ?_;refine Gs ?_;refine cO (bM rfl oM) (Gs ?_);refine ag (aE (v:= .int .i64 (((bD x 999).getD 0):Nat)) rfl rfl) (ag (aE (v:= .bool ((bD x 999).isSome)) rfl rfl) (aZ ?_));refine Gb ?_ ?_<;>intro h2
  ·
   have eY:kH s=none:=abD (i:=i) h4 oM (by rw[ye];cases hq:bD x 999 with|none=>rfl|some n=>rw[hq]at h2;cases h2)
   refine Gc ?_;refine ag (fP rfl) (al ?_);refine Gr fun w1 hw=>?_;exact⟨(by rw[Vm eY,eY];rfl),ah.mem hw⟩
  have h2s:(bD x 999).isSome=true:=h2;refine al ?_;refine ag (n8 rfl rfl oM oM) (dO (cs':=Bc (ba 32 s) (i+1)) rfl rfl (by show(i:Int).toNat<3;omega) rfl (by rw[auy,←HT];exact afa _ oM) (al ?_));refine Gi ?_;exact bw (x:=(i)) (i+1) ⟨oF,fun j hj=>if e:j=i then(by subst e;rw[ye];exact h2s)else aL j oF⟩ oF sb (fun w hw=>ah.mem hw)
 obtain rfl:i=3:=by omega
 have rZ:=abE h4 pa fun j hj=>aL j hj;refine Gc ?_;refine ag (n8 rfl rfl oM oM) (ag (zQ rfl (v:= .int .i64 (oz (ba 32 s) 0:Nat)) rfl) (ag (n8 rfl rfl oM oM) (ag (zQ rfl (v:= .int .i64 (oz (ba 32 s) 1:Nat)) rfl) (ag (n8 rfl rfl oM oM) (ag (zQ rfl (v:= .int .i64 (oz (ba 32 s) 2:Nat)) rfl) (ag (cV (v:= .agg (kT (⟨(oz (ba 32 s) 0:Nat),(oz (ba 32 s) 1:Nat),(oz (ba 32 s) 2:Nat),⟨Sv.none,[]⟩⟩:mj))) rfl (fun w=>by kernel_rfl)) (al ?_)))))));refine Gr fun w1 hw=>?_;exact⟨(by rw[Vn rZ,rZ];rfl),ah.mem hw⟩⟩
theorem ahj(n s:Int)(b:Sv)(xs:List Bk)(w:World):(Instr.build 59 #[(0, .int .i64 n),(1, .int .i64 s),(2,b.val)]).run Tryz.prog w= .ok (.agg (aV ⟨n,s,⟨b,xs⟩,0,false,⟨Sv.none,[]⟩⟩)) w:=by
 unfold aV;obtain⟨e,b,o,l,c,p⟩:=b
 cases e<;>kernel_rfl
instance asW{b:Int}{n:Int}{s:Int}:bV Tryz.prog 37 w0 L [.int .i64 b, .int .i64 n, .int .i64 s] (Cp) (fun U=> .tuple #[.agg (aV U), .int .i64 ((fS b n s).2)]) (fun U=>fz U::L) (fun U=>cv U=(fS b n s).1) (True):=⟨fun aA w hw=>Gk (fun U=>[fz U]) hw (by
 refine um Tryz.func37 rfl Tryz.ntmps37 rfl ?_;refine Gc ?_;refine bt fun b6=>fI ?_;refine Gb ?_ ?_<;>intro h0
 ·
  have hN:fS b n s=(⟨0,0,[],0,false,[]⟩,1):=by rw[fS,if_neg (by rw[h0];simp)]
  refine Gc ?_;refine ag (cV (v:= .agg (aV gY)) rfl (fun w=>by kernel_rfl)) (al ?_);refine Gr fun w1 hw=>?_;exact⟨gY,by rw[hN],by rw[hN];rfl,Ri (d:=gY) rfl (show Mem w [own cl 4 Sv.none [],ai.all []] _ from ah.mem (Mem.yT (Mem.dK cl 4 (ah.mem hw:Mem w [] _))))⟩
 have iU:=mF.1 h0;have hN:fS b n s=(⟨n,s,List.replicate b.toNat (⟨List.replicate n.toNat (ik s),0,0,false⟩:BV),0,false,[]⟩,0):=by rw[fS,if_pos h0]
 refine ar ?_;refine vu (enc:=cl) (n:=b.toNat) (cap:=b.toNat) q8 rfl rfl rfl oM oM oM oM oM fun iT=>ag (cV (v:= .agg (aV (⟨n,s,⟨⟨false,iT,0,b.toNat,b.toNat,none⟩,[]⟩,0,false,⟨Sv.none,[]⟩⟩:Cp))) rfl (ahj n s ⟨false,iT,0,b.toNat,b.toNat,none⟩ [])) (bt fun b8=>aQ ?_);refine ck (X:=Nat×List Bk) (fun U=>[(23, .int .i64 (U.1:Nat)),(8, .pointer (some ⟨b8,0,none⟩)),(1, .int .i64 n),(2, .int .i64 s),(6, .pointer (some ⟨b6,0,none⟩)),(22, .int .i64 b)]) (fun U=>[own cl 4 ⟨false,iT,0,b.toNat,b.toNat,none⟩ U.2,ai.all ((U.2.take U.1).map fun b:Bk=>fz b.pages),aq b8 (aV (⟨n,s,⟨⟨false,iT,0,b.toNat,b.toNat,none⟩,[]⟩,0,false,⟨Sv.none,[]⟩⟩:Cp)) 59,aq b6 (aV gY) 59]) (fun U=>U.1<=b.toNat/\U.2.length=b.toNat/\(U.2.take U.1).map bv=List.replicate U.1 (⟨List.replicate n.toNat (ik s),0,0,false⟩:BV)/\ ∀j,U.1<=j->j<b.toNat->U.2[j]? =Option.some q8) (fun U=>b.toNat -U.1) (0,List.replicate b.toNat q8) ⟨Nat.zero_le _,by simp,by simp,fun j _ hj=>by simp[hj]⟩ sb (fun w hw=>by
  simp only[atW,auv];exact ah.mem (Mem.yT hw)) ?_
 rintro⟨i,zs⟩ ⟨bl,aL,bC,dq⟩;dsimp only;simp only at bl aL bC dq;refine al ?_;refine Gb ?_ ?_<;>intro h1
 ·
  obtain⟨z,hz⟩:=get_some (xs:=zs) (i:=i) oM;obtain rfl:z=q8:=atl (hz.symm.trans (dq i (att _) oM));have ahk:=GD (b:=iT) (n:=b.toNat) oM;refine ar ?_;refine ji [4,7] [[],[],[],[],[],[4],[4],[4]] [0,1,2,3,4,5,6,7] [aq b8 (aV (⟨n,s,⟨⟨false,iT,0,b.toNat,b.toNat,none⟩,[]⟩,0,false,⟨Sv.none,[]⟩⟩:Cp)) 59] (fun _ hw=>ah.mem hw) oK oK (an rfl (aN (o':=2) rfl rfl) (an rfl (bI rfl) (an rfl (bo rfl) (an rfl (bo rfl) (dr rfl (PY (enc:=cq (τ:=UInt8)) (n:=n.toNat) (cap:=n.toNat) (⟨Sv.none,[]⟩:Sl UInt8) rfl rfl rfl oM oM oM oM oM fun gB=>⟨fun _ hw=>ah.mem hw,?_⟩))))));obtain⟨e31,asX⟩:=get_some (xs:=zs) (i:=i) oM;refine an rfl (pd (s:=⟨false,iT,0,b.toNat,b.toNat,none⟩) (i:=i) rfl rfl rfl ahk (by simp only;omega)) (an rfl (aN rfl rfl) ?_);refine dr rfl (yQ (s:=⟨false,iT,0,b.toNat,b.toNat,none⟩) (n:=1) (k:=i) (j:=0) (a:=q8) (a':=⟨⟨⟨false,gB,0,n.toNat,n.toNat,none⟩,[]⟩,0,0,false⟩) (xs:=zs) (enc:=cl) (c:=4) (v:=(⟨false,gB,0,n.toNat,n.toNat,none⟩:Sv).val) oK rfl rfl rfl hz (by rw[Sv.jM];simp[Sv.one]) (by rw[Sv.jM];rfl) (by decide) (by rw[Sv.jM];rfl) ⟨fun _ hw=>ah.mem hw,?_⟩);refine kD ?_;have Vo:(zs.set i ⟨⟨⟨false,gB,0,n.toNat,n.toNat,none⟩,[]⟩,0,0,false⟩)[i]? =Option.some (⟨⟨⟨false,gB,0,n.toNat,n.toNat,none⟩,[]⟩,0,0,false⟩:Bk):=atE oM;have rn:(zs.set i ⟨⟨⟨false,gB,0,n.toNat,n.toNat,none⟩,[]⟩,0,0,false⟩).length=b.toNat:=by rw[atV];exact aL
  refine Gi ?_;refine al ?_;refine ck (X:=Nat×List (Sl UInt8)) (fun U=>[(34, .int .i64 (U.1:Nat)),(8, .pointer (some ⟨b8,0,none⟩)),(1, .int .i64 n),(2, .int .i64 s),(6, .pointer (some ⟨b6,0,none⟩)),(9, .int .i64 (i:Nat)),(22, .int .i64 b),(23, .int .i64 (i:Nat)),(33, .int .i64 n)]) (fun U=>[own (cq (τ:=UInt8)) 1 ⟨false,gB,0,n.toNat,n.toNat,none⟩ U.2,ai.all ((U.2.take U.1).map fun b:Sl UInt8=>fz b),own cl 4 ⟨false,iT,0,b.toNat,b.toNat,none⟩ (zs.set i ⟨⟨⟨false,gB,0,n.toNat,n.toNat,none⟩,[]⟩,0,0,false⟩),ai.all ((zs.take i).map fun b:Bk=>fz b.pages),aq b8 (aV (⟨n,s,⟨⟨false,iT,0,b.toNat,b.toNat,none⟩,[]⟩,0,false,⟨Sv.none,[]⟩⟩:Cp)) 59,aq b6 (aV gY) 59]) (fun U=>U.1<=n.toNat/\U.2.length=n.toNat/\aP (U.2.take U.1)=List.replicate U.1 (ik s)) (fun U=>n.toNat -U.1) (0,List.replicate n.toNat ⟨Sv.none,[]⟩) ⟨Nat.zero_le _,by simp,by simp[aP]⟩ sb (fun w hw=>by
   simp only[atW,auv];exact ah.mem (Mem.yT hw)) ?_
  rintro⟨j,qs⟩ ⟨gA,dD,hQ⟩;dsimp only;simp only at gA dD hQ;refine al ?_;refine Gb ?_ ?_<;>intro h2
  ·
   obtain⟨y,hy⟩:=get_some (xs:=qs) (i:=j) oM;have ahl:=GD (b:=gB) (n:=n.toNat) oM;refine ar ?_;refine ji [8,10] [[],[],[],[],[],[],[],[],[],[8],[8]] [0,1,2,3,4,5,6,7,8,9,10] [aq b8 (aV (⟨n,s,⟨⟨false,iT,0,b.toNat,b.toNat,none⟩,[]⟩,0,false,⟨Sv.none,[]⟩⟩:Cp)) 59,own cl 4 ⟨false,iT,0,b.toNat,b.toNat,none⟩ (zs.set i ⟨⟨⟨false,gB,0,n.toNat,n.toNat,none⟩,[]⟩,0,0,false⟩)] (fun _ hw=>ah.mem hw) oK oK (an rfl (aN (o':=2) rfl rfl) (an rfl (bI rfl) (an rfl (bo rfl) ?_)));obtain⟨e40,agA⟩:=get_some (xs:=(zs.set i ⟨⟨⟨false,gB,0,n.toNat,n.toNat,none⟩,[]⟩,0,0,false⟩)) (i:=i) oM;refine an rfl (bh (s:=⟨false,iT,0,b.toNat,b.toNat,none⟩) (xs:=(zs.set i ⟨⟨⟨false,gB,0,n.toNat,n.toNat,none⟩,[]⟩,0,0,false⟩)) rfl rfl i rfl oM) (an rfl (aN rfl rfl) (an rfl (Ry.to (v':=(⟨false,gB,0,n.toNat,n.toNat,none⟩:Sv).val) (bT (s:=⟨false,iT,0,b.toNat,b.toNat,none⟩) (j:=0) rfl i Vo rfl (by decide)) rfl) (an rfl (bo rfl) (an rfl (bo rfl) (dr rfl (PY (enc:=aO) (n:=s.toNat) (cap:=s.toNat) 0 rfl rfl rfl oM oM oM oM oM fun pT=>⟨fun _ hw=>ah.mem hw,?_⟩))))));obtain⟨e46,asY⟩:=get_some (xs:=qs) (i:=j) oM;refine an rfl (pd (s:=⟨false,gB,0,n.toNat,n.toNat,none⟩) (i:=j) rfl rfl rfl ahl (by simp only;omega)) (dr rfl (aaf (s:=⟨false,gB,0,n.toNat,n.toNat,none⟩) (xs:=qs) (k:=j) (a:=y) (⟨⟨false,pT,0,s.toNat,s.toNat,none⟩,ik s⟩:Sl UInt8) oK rfl rfl oM hy ⟨fun _ hw=>ah.mem hw,?_⟩));refine ar ?_;obtain⟨e50,asZ⟩:=get_some (xs:=(zs.set i ⟨⟨⟨false,gB,0,n.toNat,n.toNat,none⟩,[]⟩,0,0,false⟩)) (i:=i) oM;refine ag (bh (s:=⟨false,iT,0,b.toNat,b.toNat,none⟩) (xs:=(zs.set i ⟨⟨⟨false,gB,0,n.toNat,n.toNat,none⟩,[]⟩,0,0,false⟩)) rfl rfl i rfl oM) (ag (aN rfl rfl) (ag (Ry.to (v':=(⟨false,gB,0,n.toNat,n.toNat,none⟩:Sv).val) (bT (s:=⟨false,iT,0,b.toNat,b.toNat,none⟩) (j:=0) rfl i Vo rfl (by decide)) rfl) (Gs ?_)));refine ag (bh rfl rfl j rfl (by rw[atV];omega)) (ag (Ry.to (v':= .slice (some ⟨(⟨false,pT,0,s.toNat,s.toNat,none⟩:Sv).b,(⟨false,pT,0,s.toNat,s.toNat,none⟩:Sv).o+0,none⟩) s.toNat s.toNat) (bT (s:=⟨false,gB,0,n.toNat,n.toNat,none⟩) (xs:=qs.set j (⟨⟨false,pT,0,s.toNat,s.toNat,none⟩,ik s⟩:Sl UInt8)) (j:=0) rfl j (atE oM) rfl (by decide)) rfl) ?_);refine bb (hc:=afm (rm:=⟨false,pT,0,s.toNat,s.toNat,none⟩) (k:=0) (n:=s.toNat) (cap:=s.toNat) (xs:=List.replicate s.toNat 0)) rfl ⟨by simp,by omega⟩ fun He LK=>al ?_;refine Gi ?_;exact bw (x:=(j,qs)) (j+1,qs.set j (⟨⟨false,pT,0,s.toNat,s.toNat,none⟩,ik s⟩:Sl UInt8)) ⟨oF,by rw[atV];exact dD,by rw[aP,GC hy,←aP,hQ,List.replicate_succ']⟩ (by simp only;omega) sb (fun w hw=>by
    have h1:=Kv (a:=(⟨⟨false,pT,0,s.toNat,s.toNat,none⟩,ik s⟩:Sl UInt8)) (by
     simp only[atW,aug,auf,List.drop_replicate,avm,List.replicate_zero,auh]at hw;exact(ah.mem hw:Mem _ (own aO 1 ⟨false,pT,0,s.toNat,s.toNat,none⟩ (List.replicate s.toNat 255)::[own (cq (τ:=UInt8)) 1 ⟨false,gB,0,n.toNat,n.toNat,none⟩ (qs.set j (⟨⟨false,pT,0,s.toNat,s.toNat,none⟩,ik s⟩:Sl UInt8)),ai.all ((qs.take j).map fun b:Sl UInt8=>fz b),own cl 4 ⟨false,iT,0,b.toNat,b.toNat,none⟩ (zs.set i ⟨⟨⟨false,gB,0,n.toNat,n.toNat,none⟩,[]⟩,0,0,false⟩),ai.all ((zs.take i).map fun b:Bk=>fz b.pages),aq b8 (aV (⟨n,s,⟨⟨false,iT,0,b.toNat,b.toNat,none⟩,[]⟩,0,false,⟨Sv.none,[]⟩⟩:Cp)) 59,aq b6 (aV gY) 59]) _))
    have h3:=Mem.AE (ah.mem h1:Mem _ (fz (⟨⟨false,pT,0,s.toNat,s.toNat,none⟩,ik s⟩:Sl UInt8)::ai.all ((qs.take j).map fun b:Sl UInt8=>fz b)::[own (cq (τ:=UInt8)) 1 ⟨false,gB,0,n.toNat,n.toNat,none⟩ (qs.set j (⟨⟨false,pT,0,s.toNat,s.toNat,none⟩,ik s⟩:Sl UInt8)),own cl 4 ⟨false,iT,0,b.toNat,b.toNat,none⟩ (zs.set i ⟨⟨⟨false,gB,0,n.toNat,n.toNat,none⟩,[]⟩,0,0,false⟩),ai.all ((zs.take i).map fun b:Bk=>fz b.pages),aq b8 (aV (⟨n,s,⟨⟨false,iT,0,b.toNat,b.toNat,none⟩,[]⟩,0,false,⟨Sv.none,[]⟩⟩:Cp)) 59,aq b6 (aV gY) 59]) _);rw[KE (z':=(⟨⟨false,pT,0,s.toNat,s.toNat,none⟩,ik s⟩:Sl UInt8)) hy]at h3;exact ah.mem h3)
  have wJ:j=n.toNat:=by omega
  have j9:j=qs.length:=by omega
  rw[atC oM]at hQ;refine al ?_;refine Gi ?_;exact bw (x:=(i,zs)) (i+1,zs.set i (⟨⟨⟨false,gB,0,n.toNat,n.toNat,none⟩,qs⟩,0,0,false⟩:Bk)) ⟨oF,by rw[atV];exact aL,by rw[GC hz,bC,List.replicate_succ',show bv (⟨⟨⟨false,gB,0,n.toNat,n.toNat,none⟩,qs⟩,0,0,false⟩:Bk)=(⟨List.replicate n.toNat (ik s),0,0,false⟩:BV) by rw[bv,hQ,wJ]],fun k hk oh=>by rw[atZ oF];exact dq k oF oh⟩ (by simp only;omega) sb (fun w hw=>by
   rw[atC oM]at hw;have h1:=KD (ah.mem hw:Mem _ (own (cq (τ:=UInt8)) 1 ⟨false,gB,0,n.toNat,n.toNat,none⟩ qs::ai.all (qs.map fun b:Sl UInt8=>fz b)::[own cl 4 ⟨false,iT,0,b.toNat,b.toNat,none⟩ (zs.set i ⟨⟨⟨false,gB,0,n.toNat,n.toNat,none⟩,[]⟩,0,0,false⟩),ai.all ((zs.take i).map fun b:Bk=>fz b.pages),aq b8 (aV (⟨n,s,⟨⟨false,iT,0,b.toNat,b.toNat,none⟩,[]⟩,0,false,⟨Sv.none,[]⟩⟩:Cp)) 59,aq b6 (aV gY) 59]) _);have h2:=Kw (ys:=zs.set i (⟨⟨⟨false,gB,0,n.toNat,n.toNat,none⟩,qs⟩,0,0,false⟩:Bk)) (by rw[avF,avF];rfl) (ah.mem h1:Mem _ (own cl 4 ⟨false,iT,0,b.toNat,b.toNat,none⟩ (zs.set i ⟨⟨⟨false,gB,0,n.toNat,n.toNat,none⟩,[]⟩,0,0,false⟩)::[fz (⟨⟨false,gB,0,n.toNat,n.toNat,none⟩,qs⟩:Sl (Sl UInt8)),ai.all ((zs.take i).map fun b:Bk=>fz b.pages),aq b8 (aV (⟨n,s,⟨⟨false,iT,0,b.toNat,b.toNat,none⟩,[]⟩,0,false,⟨Sv.none,[]⟩⟩:Cp)) 59,aq b6 (aV gY) 59]) _);have h3:=Mem.AE (ah.mem h2:Mem _ (fz (⟨⟨false,gB,0,n.toNat,n.toNat,none⟩,qs⟩:Sl (Sl UInt8))::ai.all ((zs.take i).map fun b:Bk=>fz b.pages)::[own cl 4 ⟨false,iT,0,b.toNat,b.toNat,none⟩ (zs.set i (⟨⟨⟨false,gB,0,n.toNat,n.toNat,none⟩,qs⟩,0,0,false⟩:Bk)),aq b8 (aV (⟨n,s,⟨⟨false,iT,0,b.toNat,b.toNat,none⟩,[]⟩,0,false,⟨Sv.none,[]⟩⟩:Cp)) 59,aq b6 (aV gY) 59]) _);rw[Rj (z':=(⟨⟨⟨false,gB,0,n.toNat,n.toNat,none⟩,qs⟩,0,0,false⟩:Bk)) hz]at h3;exact ah.mem h3)
 obtain rfl:i=zs.length:=by omega
 rw[atP]at bC;refine aQ ?_;refine Gr fun w1 hw=>?_;exact⟨⟨n,s,⟨⟨false,iT,0,b.toNat,b.toNat,none⟩,zs⟩,0,false,⟨Sv.none,[]⟩⟩,by rw[hN];rfl,by rw[hN];simp only[cv,jk];rw[bC,aL],Ri rfl (by rw[atP]at hw;exact ah.mem hw)⟩)⟩
instance as0{x:mj}[tb:iC w0][hx:aX w0 L x]:bU Tryz.prog 36 w0 L [.agg (kT x)] (.tuple #[.string ⟨(uN (gJ x)).toArray⟩, .int .i64 (uO (gJ x))]) (zj (gJ x)=true/\((fS x.b x.p x.s).2=0->aW (fS x.b x.p x.s).1=true)):=⟨fun aA w hw=>by
 have tb:=tb.at hw;have hx:=hx.h w hw;have zr:cQ w x:=⟨hx⟩;obtain⟨iu,MX⟩:=aA;have uL:rX (gJ x)=(decide (x.l.xs.length<=300)&&A9 x.l.xs&&decide ((fS x.b x.p x.s).2=0)&&decide ((kx (gJ x)).2=0)):=rfl;refine ct Tryz.func36 rfl Tryz.ntmps36 rfl ?_;refine Gc ?_;refine cm rfl fun b1=>fI ?_;refine Gb ?_ ?_<;>intro h0
 ·
  have hG:rX (gJ x)=false:=by rw[uL,decide_eq_false (by omega: ¬x.l.xs.length<=300)];rfl
  refine ar ?_;refine Gr fun w1 hw=>?_;exact⟨(by rw[uN,uO,hG];rfl),ah.mem hw⟩
 refine aZ ?_;refine ck (X:=Nat) (fun U=>[(20, .int .i64 (U:Nat)),(1, .pointer (some ⟨b1,0,none⟩)),(18,x.l.sv.val),(19, .int .i64 (x.l.xs.length:Nat))]) (fun U=>[aq b1 (kT x) 76]) (fun U=>U<=x.l.xs.length/\ ∀j y,j<U->x.l.xs[j]? =Option.some y->fR y=true) (fun U=>x.l.xs.length -U) 0 ⟨Nat.zero_le _,fun j y h=>by first|omega|(simp only[];omega)⟩ sb (fun w hw=>ah.mem hw) ?_;rintro i ⟨bl,aL⟩;refine al ?_;refine Gb ?_ ?_<;>intro h1
 ·
  refine mB ?_;obtain⟨y,hy⟩:=get_some (xs:=x.l.xs) (i:=i) oM;refine ag (bh rfl rfl i rfl oM) (ag (iJ rfl i hy rfl) (bt fun b5=>aQ ?_));refine ag (aE (v:= .string ⟨(qY y).toArray⟩) rfl rfl) (ag (aE (v:= .int .i64 (sU y)) rfl rfl) (aZ ?_));refine Gb ?_ ?_<;>intro h2
  ·
   have bN:fR y=false:=by
    cases hq:fR y with
    |false=>rfl
    |true=>exact absurd (show sU y=0 by rw[sU,hq];rfl) h2
   have dE:A9 x.l.xs=false:=by
    rw[←Bool.not_eq_true,A9,aty];intro hq;rw[hq y (alM hy)]at bN;cases bN
   have hG:rX (gJ x)=false:=by rw[uL,dE,avS];rfl
   refine ar ?_;refine Gr fun w1 hw=>?_;exact⟨(by rw[uN,uO,hG];rfl),ah.mem hw⟩
  have bN:fR y=true:=by
   cases hq:fR y with
   |true=>rfl
   |false=>rw[sU,hq]at h2;exact absurd h2 (by decide)
  refine al ?_;refine Gi ?_;exact bw (x:=(i)) (i+1) ⟨oF,fun j z hj hz=>if e:j=i then(by subst e;rw[hy]at hz;cases hz;exact bN)else aL j z oF hz⟩ oF sb (fun w hw=>ah.mem hw)
 obtain rfl:i=x.l.xs.length:=by omega
 have dE:A9 x.l.xs=true:=aty.2 fun y hy=>by
  obtain⟨j,hj⟩:=avg.1 hy;exact aL j y (zz.1 hj).1 hj
 refine di ?_;refine bb rfl trivial fun HB DT=>Gs ?_;refine ag (aE (v:= .agg (aV HB)) rfl rfl) (ag (aE (v:= .int .i64 ((fS x.b x.p x.s).2)) rfl rfl) (bt fun b8=>aZ ?_));refine Gb ?_ ?_<;>intro h3
 ·
  have hG:rX (gJ x)=false:=by rw[uL,decide_eq_false h3,avS];rfl
  refine ar ?_;refine Gr fun w1 hw=>?_;exact⟨(by rw[uN,uO,hG];rfl),ah.mem hw⟩
 have Vp:(fS x.b x.p x.s).2=0:=by simpa using h3
 have JX:=MX Vp;have UM:gw HB:=uw (by rw[DT];exact JX);refine Gc ?_;refine bt fun tD=>av ?_;refine bb rfl UM fun BB ahm=>Gs ?_;refine ag (aE (v:= .agg (dI BB)) rfl rfl) (ag (aE (v:= .int .i64 ((kP (cv HB)).2)) rfl rfl) (Gs ?_));refine qP (cs':=bZ (⟨BB,⟨Sv.none,[]⟩,none,⟨Sv.none,[]⟩⟩:bX)) rfl rfl (by show 0+10<=13;decide) rfl (aQ ?_);refine Gb ?_ ?_<;>intro h4
 ·
  have MY: ¬(kx (gJ x)).2=0:=by rw[kx];show ¬(kP (fS x.b x.p x.s).1).2=0;rw[←DT];exact h4
  have hG:rX (gJ x)=false:=by rw[uL,decide_eq_false MY,avS]
  refine ar ?_;refine Gr fun w1 hw=>?_;exact⟨(by rw[uN,uO,hG];rfl),ah.mem hw⟩
 have MY:(kx (gJ x)).2=0:=by rw[kx];show(kP (fS x.b x.p x.s).1).2=0;rw[←DT];simpa using h4
 have hG:rX (gJ x)=true:=by rw[uL,dE,decide_eq_true (by omega:x.l.xs.length<=300),decide_eq_true Vp,decide_eq_true MY];rfl
 have hsa:rY (jd (kx (gJ x)).1) x.l.xs=true:=by
  have:=iu;rw[zj,hG]at this;exact this
 have mZ:aM BB=(kx (gJ x)).1:=by rw[ahm,DT];rfl
 refine aZ ?_;refine ck (X:=Nat×bS×Sl Ch×Option Nat×Sv) (fun U=>[(55, .int .i64 (U.1:Nat)),(10, .pointer (some ⟨tD,0,none⟩)),(53,x.l.sv.val),(54, .int .i64 (x.l.xs.length:Nat))]) (fun U=>aq tD (bZ (⟨U.2.1,U.2.2.1,U.2.2.2.1,⟨U.2.2.2.2,(ir (jd (kx (gJ x)).1) (x.l.xs.take U.1)).told⟩⟩:bX)) 174::fz U.2.1::own dB 20 U.2.2.1.sv U.2.2.1.xs::dP 5 U.2.2.2.2 ((ir (jd (kx (gJ x)).1) (x.l.xs.take U.1)).told)::[]) (fun U=>U.1<=x.l.xs.length/\aM U.2.1=(ir (jd (kx (gJ x)).1) (x.l.xs.take U.1)).f/\U.2.2.1.xs=(ir (jd (kx (gJ x)).1) (x.l.xs.take U.1)).batch/\(U.2.2.2.1=none\/U.2.2.2.1=Option.some tD)) (fun U=>x.l.xs.length -U.1) (0,BB,⟨Sv.none,[]⟩,none,Sv.none) ⟨Nat.zero_le _,mZ,rfl, .inl rfl⟩ sb (fun w hw=>(show Mem _ (aq tD (bZ (⟨BB,⟨Sv.none,[]⟩,none,⟨Sv.none,[]⟩⟩:bX)) 174::fz BB::own dB 20 Sv.none []::dP 5 Sv.none []::[]) _ from ah.mem (Mem.aay 5 (Mem.dK dB 20 hw)))) ?_;rintro⟨i,f,b,a,u⟩ ⟨gA,dD,hQ,jY⟩;dsimp only;simp only at gA dD hQ jY;have Vq:(⟨aM f,b.xs,(ir (jd (kx (gJ x)).1) (x.l.xs.take i)).told⟩:bj)=(ir (jd (kx (gJ x)).1) (x.l.xs.take i)):=by rw[dD,hQ]
 refine al ?_;refine Gb ?_ ?_<;>intro h5
 ·
  refine mB ?_;obtain⟨y,hy⟩:=get_some (xs:=x.l.xs) (i:=i) oM;refine ag (bh rfl rfl i rfl oM) (ag (iJ rfl i hy rfl) (bt fun wg=>Gs ?_));refine gu ?_;have cd:(ir (jd (kx (gJ x)).1) (x.l.xs.take (i+1)))=dC (⟨aM f,b.xs,(ir (jd (kx (gJ x)).1) (x.l.xs.take i)).told⟩:bj) y:=by rw[aeM hy,Vq]
  have hoy:fR y=true:=aty.1 dE y (alM hy);have hsy:rl (⟨aM f,b.xs,(ir (jd (kx (gJ x)).1) (x.l.xs.take i)).told⟩:bj)=true:=by rw[Vq];exact sm_at i hsa oM
  refine Gi ?_;refine Gs ?_;refine bb rfl ⟨hsy,hoy,jY⟩ fun wz D8=>al ?_;refine Gi ?_;exact bw (x:=(i,f,b,a,u)) (i+1,wz.1,wz.2.1,wz.2.2.1,wz.2.2.2) ⟨by simp only;omega,by simp only;rw[cd];exact D8.1,by simp only;rw[cd];exact D8.2.1,D8.2.2⟩ (by simp only;omega) sb (fun w hw=>by simp only[cd];exact ah.mem hw)
 obtain rfl:i=x.l.xs.length:=by omega
 refine av ?_;refine bb rfl trivial fun Ux Uy=>al ?_;refine Gr fun w1 hw=>?_;exact⟨(by rw[uN,uO,hG,atP];rfl),ah.mem hw⟩⟩
instance as1{t:List UInt8}[tb:iC w0]:bV Tryz.prog 30 w0 L [.string ⟨t.toArray⟩] (mj) (fun U=> .tuple #[.agg (kT U), .int .i64 ((fZ t).2.1), .int .i64 ((fZ t).2.2)]) (fun U=>own bG 38 U.l.sv U.l.xs::L) (fun U=>gJ U=(fZ t).1) (t.length<=1000000000):=⟨fun aA w hw=>Gk (fun U:mj=>[own bG 38 U.l.sv U.l.xs]) hw (by
 have tb:=tb.at hw;have xz:=auV.2 (Cs (c:=10) t);have FZ:fY t=(ba 10 t).length -1:=rfl;have qj:=Jn 10 t;have HU:((ba 10 t).drop 1).take (fY t -1)=jb t:=by rw[jb,fY];rfl
 have TY:=abK t;have MZ:(((ba 10 t).drop 1).take (fY t -1)).length=fY t -1:=by rw[HU,TY]
 refine ct Tryz.func30 rfl Tryz.ntmps30 rfl ?_;refine Gc ?_;refine bt fun b2=>ar ?_;refine ag (qQ (s:=t) Tryz.underlying9 rfl) (av ?_);refine Gb ?_ ?_<;>intro h0
 ·
  have hE:=abF (t:=t) oM;refine Gc ?_;refine ag (fP rfl) (ar ?_);refine Gr fun w1 hw=>?_;exact⟨sh,by rw[hE],by rw[hE];rfl,Mem.dK bG 38 (ah.mem hw:Mem w [] _)⟩
 have Ah: ¬16384<t.length:=by omega
 refine av ?_;refine bb rfl oM fun cx uZ=>ar ?_;refine ag (Ry.to (v':= .int .i64 ((fY t:Nat):Int)) (zT rfl rfl oM) (by rw[FZ];congr 1;omega)) (di ?_);refine bJ rfl rfl rfl (fun hg=>(Ry.yl (bh (aF hg rfl) (aF hg rfl) (fY t) rfl (by simp only[Z0,Z1,Z2,Z3,Z4,Z5,Z6,Z7,Z8,Z9]at hg;omega)))) (bJ rfl rfl rfl (fun hg=>(Ry.yl (bT (j:=0) (aF hg rfl) (fY t) (po (xs:=(ba 10 t)) (i:=(fY t)) (d:=([]:aH)) (by simp only[Z0,Z1,Z2,Z3,Z4,Z5,Z6,Z7,Z8,Z9]at hg;omega)) rfl (by decide)))) (bJ rfl rfl rfl (fun hg=>(Ry.yl (E9 (aF hg rfl) rfl))) (av ?_)));refine Gb ?_ ?_<;>intro h1
 ·
  have hE:=abG (t:=t) Ah (by rcases h1 with g|g;exact .inl oM;exact .inr g)
  refine Gc ?_;refine ag (fP rfl) (aZ ?_);refine Gr fun w1 hw=>?_;exact⟨sh,by rw[hE],by rw[hE];rfl,Mem.dK bG 38 (ah.mem hw:Mem w [] _)⟩
 have BC: ¬(fY t=0\/(ba 10 t).getD (fY t) []≠[]):=by rintro(g|g);exact h1.1 oM;exact g h1.2
 obtain⟨l0,kI⟩:=get_some (xs:=(ba 10 t)) (i:=0) xz;have hle:(ba 10 t).getD 0 []=l0:=by simp[List.getD,kI]
 have nh:l0.length<=t.length:=Fx t (alM kI);refine av ?_;refine ag (bh rfl rfl 0 rfl oM) (ag (bT (j:=0) rfl 0 kI rfl (by decide)) (cO (bM rfl oM) (Gs ?_)));refine ag (aE (v:= .agg (kT (zD l0))) rfl rfl) (ag (aE (v:= .bool ((kH l0).isSome)) rfl rfl) (bt fun b7=>aZ ?_));refine Gb ?_ ?_<;>intro h2
 ·
  have hE:=abH Ah BC (by rw[hle];cases hq:kH l0 with|none=>rfl|some q=>rw[hq]at h2;cases h2)
  refine Gc ?_;refine ag (fP rfl) (ar ?_);refine Gr fun w1 hw=>?_;exact⟨sh,by rw[hE],by rw[hE];rfl,Mem.dK bG 38 (ah.mem hw:Mem w [] _)⟩
 obtain⟨q,hq⟩:=at6.1 h2;have xK:kH ((ba 10 t).getD 0 [])=some q:=by rw[hle];exact hq
 have hsc:zD l0=(⟨(q.1:Nat),(q.2.1:Nat),(q.2.2:Nat),⟨Sv.none,[]⟩⟩:mj):=Vn hq;refine al ?_;have Vr:Rg 1 (fY t) (ba 10 t).length:=⟨by omega⟩;refine ag (Cl rfl rfl rfl 1 (fY t) rfl rfl Vr.h.1 Vr.h.2) (al ?_);refine ck (X:=Nat×Sv×List aS) (fun U=>[(48, .int .i64 (U.1:Nat)),(7, .pointer (some ⟨b7,0,none⟩)),(2, .pointer (some ⟨b2,0,none⟩)),(46,((⟨false,cx,0,(ba 10 t).length,(ba 10 t).length,none⟩:Sv).sub 1 1 (fY t)).val),(47, .int .i64 ((((ba 10 t).drop 1).take ((fY t) -1)).length:Nat))]) (fun U=>[own bG 38 U.2.1 U.2.2,aq b7 (kT (⟨(q.1:Nat),(q.2.1:Nat),(q.2.2:Nat),⟨U.2.1,U.2.2⟩⟩:mj)) 76,own mw 1 ⟨false,cx,0,(ba 10 t).length,(ba 10 t).length,none⟩ (ba 10 t),aq b2 (kT sh) 76]) (fun U=>U.1<=fY t -1/\(∀j,j<U.1->ki ((jb t).getD j [])=0)/\U.2.2=((jb t).take U.1).map kh) (fun U=>fY t -1 -U.1) (0,Sv.none,[]) ⟨Nat.zero_le _,fun j h=>by first|omega|(simp only[];omega),rfl⟩ sb (fun w hw=>(by rw[hsc]at hw;exact ah.mem (Mem.dK bG 38 hw))) ?_;rintro⟨i,s1,xs⟩ ⟨bl,aL,bC⟩;dsimp only;simp only at bl aL bC;have AF:xs.length<=i:=by rw[bC,List.length_map,List.length_take];omega
 refine al ?_;refine Gb ?_ ?_<;>intro h3
 ·
  refine av ?_;obtain⟨ln,hx⟩:=get_some (xs:=(((ba 10 t).drop 1).take ((fY t) -1))) (i:=i) (by rw[HU];omega);refine ag (bh rfl rfl i rfl (by rw[HU];omega)) (ag (bT (j:=0) rfl i hx rfl (by decide)) (av ?_));refine kD ?_;have vT:(jb t)[i]? =some ln:=by rw[←HU];exact hx
  have ye:(jb t).getD i []=ln:=by simp[List.getD,vT]
  have as2:ln.length<=t.length:=abL (alM vT);refine Gi ?_;refine Gs ?_;refine cO (bM rfl oM) (Gs ?_);refine ag (aE (v:= .agg (bG (kh ln))) rfl rfl) (ag (aE (v:= .int .i64 (ki ln)) rfl rfl) (bt fun qG=>aZ ?_));refine Gb ?_ ?_<;>intro h4
  ·
   have hE:=abI Ah BC xK aL oM (by rw[ye];exact h4);refine Gc ?_;refine ag (fP rfl) (di ?_);refine Gr fun w1 hw=>?_;exact⟨sh,by rw[hE,ye],by rw[hE];rfl,Mem.dK bG 38 (ah.mem hw:Mem w [] _)⟩
  have HJ:ki ln=0:=h4;refine ar ?_;refine om (enc:=bG) (vals:=[_]) [(kh ln)] rfl rfl rfl (by decide) (by decide) fun Vs=>?_;refine nf (s:=s1) (ys:=[(kh ln)]) rfl rfl (by decide) (fun w hw=>jy (s:=⟨false,Vs,0,1,1,none⟩) Tryz.underlying74 (by decide) ((inferInstance:Hd _ _ ⟨false,Vs,0,1,1,none⟩ bG 38 [(kh ln)]).h w hw)) (by simp only[adr,af0,anc];omega) (by simp only[adr,af0,anc];omega) fun Vt as3 as4=>?_;refine Gs ?_;refine dO (cs':=kT (⟨(q.1:Nat),(q.2.1:Nat),(q.2.2:Nat),⟨Vt,xs++[kh ln]⟩⟩:mj)) rfl rfl (by show 3<4;decide) (by first|rfl|exact Sv.one _) rfl (al ?_);refine Gi ?_;exact bw (x:=(i,s1,xs)) (i+1,Vt,xs++[kh ln]) ⟨oF,fun j hj=>if e:j=i then(by subst e;rw[ye];exact HJ)else aL j oF,by simp only;rw[bC,atr,vT,atS];rfl⟩ (by simp only;omega) sb (fun w hw=>ah.mem hw)
 obtain rfl:i=fY t -1:=by omega
 have hE:=abJ Ah BC xK fun j hj=>aL j oM;have CJ:xs=(jb t).map kh:=by rw[bC,atC oM]
 refine aZ ?_;refine Gb ?_ ?_<;>intro h5
 ·
  rw[if_pos (by rw[←atM (f:=kh),←CJ];omega)]at hE;refine Gc ?_;refine ag (fP rfl) (ar ?_);refine Gr fun w1 hw=>?_;exact⟨sh,by rw[hE],by rw[hE];rfl,Mem.dK bG 38 (ah.mem hw:Mem w [] _)⟩
 rw[if_neg (by rw[←atM (f:=kh),←CJ];omega)]at hE;refine aZ ?_;refine Gr fun w1 hw=>?_;exact⟨(⟨(q.1:Nat),(q.2.1:Nat),(q.2.2:Nat),⟨s1,xs⟩⟩:mj),by rw[hE],by rw[hE];simp only[gJ,CJ],ah.mem hw⟩)⟩
instance{x:mj}{i:Nat}[q:fX L x.l.sv bG 38 x.l.xs i]:aX w0 L x:=⟨fun w hw=>⟨q.holds w hw,fun _ _=>trivial⟩⟩
instance as5{t:List UInt8}[tb:iC w0]:bU Tryz.prog 44 w0 L [.string ⟨t.toArray⟩] (.tuple #[.string ⟨(uP t).toArray⟩, .int .i64 (uQ t), .int .i64 (uR t)]) (t.length<=1000000000/\zj (fZ t).1=true/\((fS (fZ t).1.b (fZ t).1.p (fZ t).1.s).2=0->aW (fS (fZ t).1.b (fZ t).1.p (fZ t).1.s).1=true)):=⟨fun aA w hw=>by
 have tb:=tb.at hw;obtain⟨zh,iu,MX⟩:=aA;refine ct Tryz.func44 rfl Tryz.ntmps44 rfl ?_;refine aZ ?_;refine bb rfl oM fun cZ r9=>Gs ?_;refine ag (aE (v:= .agg (kT cZ)) rfl rfl) (ag (aE (v:= .int .i64 ((fZ t).2.1)) rfl rfl) (ag (aE (v:= .int .i64 ((fZ t).2.2)) rfl rfl) (bt fun b5=>di ?_)));refine Gb ?_ ?_<;>intro h0
 ·
  refine di ?_;refine Gr fun w1 hw=>?_;exact⟨(by rw[uP,uQ,uR,if_pos h0,if_pos h0,if_pos h0]),ah.mem hw⟩
 have oW:(fZ t).2.1=0:=by simpa using h0
 refine av ?_;refine cO (bM rfl ⟨by rw[r9];exact iu,by show(fS (gJ cZ).b (gJ cZ).p (gJ cZ).s).2=0->aW (fS (gJ cZ).b (gJ cZ).p (gJ cZ).s).1=true;rw[r9];exact MX⟩) (Gs ?_);refine ag (aE (v:= .string ⟨(uN (gJ cZ)).toArray⟩) rfl rfl) (ag (aE (v:= .int .i64 (uO (gJ cZ))) rfl rfl) (ja ?_));refine Gr fun w1 hw=>?_;exact⟨(by rw[uP,uQ,uR,if_neg (fun g=>g oW),if_neg (fun g=>g oW),if_neg (fun g=>g oW),r9]),ah.mem hw⟩⟩
end Go.Proofs.YtkggjjnhnjjokaaGreatDoor
namespace Go.Kb
open Go.ax
def ahn:Key:=oo fun i=>if i=0 then 10 else 0
def nw(h:UInt16):Rt:=⟨⟨32,8,ahn⟩,h⟩
def Vu:CV×Int:=fS 6 2 64
def Ea:FV×Int:=kP Vu.1
def yf:FV×Int:=bK Ea.1 [⟨nw 7,false⟩]
theorem aho:yf.2=0:=by decide+kernel
def wA:Key:=oo fun i=>if i=0 then 10 else if i<4 then 1 else 0
def HV:aH:=[99,104,105,112,32,54,32,50,32,54,52,10,112,117,116,32,49,48,46,48,46,48,46,48,47,56,32,55,10,100,111,110,101,10,102,105,110,100,32,49,48,46,49,46,49,46,49,10,100,117,109,112,10]
def Eb:aH:=[111,107,10,49,48,46,48,46,48,46,48,47,56,32,55,10,114,111,117,116,101,115,32,49,10,49,48,46,48,46,48,46,48,47,56,32,55,10]
def qJ:sV:=⟨6,2,64,[⟨1,nw 7,0#128,0,0⟩,⟨3,bO,0#128,0,0⟩,⟨4,bO,wA,32,0⟩,⟨8,bO,0#128,0,0⟩]⟩
theorem HW:fZ HV=(qJ,0,0):=by decide+kernel
theorem Vv:rX qJ=true:=by decide+kernel
theorem M0:yf.1.table=[nw 7]/\tn yf.1 wA 32=0/\pQ yf.1 wA 32=nw 7:=by decide+kernel
theorem Vw:zb Ea.1=true/\zb yf.1=true:=by decide+kernel
theorem HX:bm (nw 7).p=true/\nM [49,48,46,48,46,48,46,48,47,56,32,55]=nw 7/\py [49,48,46,48,46,48,46,48,47,56,32,55]=0:=by decide+kernel
theorem Vx:iB (nw 7)=[49,48,46,48,46,48,46,48,47,56,32,55]:=by
 have:=(Qp HX.2.2).2;rwa [HX.2.1]at this
theorem ahp{f g:FV}(hg:bK f [⟨nw 7,false⟩]=(g,0))(ht:g.table=[nw 7])(hE:tn g wA 32=0)(hR:pQ g wA 32=nw 7)(sf:zb f=true)(sg:zb g=true):
  (ir (jd f) qJ.l).told=Eb/\rY (jd f) qJ.l=true:=by
 have h1:dec 1=[49]:=pq (by decide);have p1:dC (jd f) ⟨1,nw 7,0#128,0,0⟩=⟨f,[⟨nw 7,false⟩],[]⟩:=rfl;have p2:dC ⟨f,[⟨nw 7,false⟩],[]⟩ ⟨3,bO,0#128,0,0⟩=⟨g,[],[111,107,10]⟩:=by
  show lI {f:=(bK f [⟨nw 7,false⟩]).1,batch:=[],told:=[]} qy (bK f [⟨nw 7,false⟩]).2=_;rw[hg];rfl
 have p3:dC ⟨g,[],[111,107,10]⟩ ⟨4,bO,wA,32,0⟩=⟨g,[],[111,107,10]++[49,48,46,48,46,48,46,48,47,56,32,55]++[10]⟩:=by
  show nW ⟨g,[],[111,107,10]⟩ ⟨4,bO,wA,32,0⟩=_;rw[nW,if_neg (fun k=>k hE)];simp only[hR,Vx,HX.1,lI,mg,kv,gW,if_true];rfl
 have p4:dC ⟨g,[],[111,107,10]++[49,48,46,48,46,48,46,48,47,56,32,55]++[10]⟩ ⟨8,bO,0#128,0,0⟩=⟨g,[],Eb⟩:=by
  show oR ⟨g,[],[111,107,10]++[49,48,46,48,46,48,46,48,47,56,32,55]++[10]⟩=_;rw[oR];simp only[ht,mg,af0,anc,auf,h1,auQ,List.foldl_nil,oQ,lI,kv,gW,HX.1,Vx,if_true];rfl
 have s1: ∀(b:List Ch) (t:aH),b.length<=1000->t.length<=100000000->rl ⟨f,b,t⟩=true:=fun b t hb ht=>by
  simp only[rl,sf,aup,ad2,decide_eq_true_eq];exact⟨hb,ht⟩
 have s2: ∀(b:List Ch) (t:aH),b.length<=1000->t.length<=100000000->rl ⟨g,b,t⟩=true:=fun b t hb ht=>by
  simp only[rl,sg,aup,ad2,decide_eq_true_eq];exact⟨hb,ht⟩
 refine⟨?_,?_⟩
 ·
  show(dC (dC (dC (dC (jd f) ⟨1,nw 7,0#128,0,0⟩) ⟨3,bO,0#128,0,0⟩) ⟨4,bO,wA,32,0⟩) ⟨8,bO,0#128,0,0⟩).told=Eb;rw[p1,p2,p3,p4]
 ·
  show rY (jd f) [⟨1,nw 7,0#128,0,0⟩,⟨3,bO,0#128,0,0⟩,⟨4,bO,wA,32,0⟩,⟨8,bO,0#128,0,0⟩]=true;simp only[rY,p1,p2,p3,p4,ad2];exact⟨s1 _ _ (by decide) (by decide),s1 _ _ (by decide) (by decide),s2 _ _ (by decide) (by decide),s2 _ _ (by decide) (by decide),s2 _ _ (by decide) (by decide)⟩
theorem ahq:kx qJ=Ea:=by
 show kP (fS 6 2 64).1=_;rw[Ea,Vu]
theorem Vy:(ir (jd (kx qJ).1) qJ.l).told=Eb/\rY (jd (kx qJ).1) qJ.l=true:=by
 rw[ahq];refine ahp (g:=yf.1) ?_ M0.1 M0.2.1 M0.2.2 Vw.1 Vw.2;have e:bK Ea.1 [⟨nw 7,false⟩]=yf:=by rw[yf]
 have pe: ∀q:FV×Int,q.2=0->q=(q.1,0):=fun q h=>Prod.ext rfl h;exact e.trans (pe _ aho)
theorem ahr:zj qJ=true:=by rw[zj,Vy.2,Bool.or_true]
theorem M1:uP HV=Eb/\uQ HV=0/\uR HV=0:=by
 refine⟨?_,?_,?_⟩
 ·
  rw[uP,HW,if_neg (fun g=>g rfl),uN,if_pos Vv];exact Vy.1
 ·
  rw[uQ,HW,if_neg (fun g=>g rfl),uO,Vv];rfl
 rw[uR,HW,if_neg (fun g=>g rfl)]
end Go.Kb
namespace Go.Proofs.YtkggjjnhnjjokaaGreatDoor
open Go.ax Go.Kb Go.RowKit
variable {w0:World}{L:List ai}
instance as6[tb:iC w0]:bU Tryz.prog 29 w0 L [] (.bool true) (True):=⟨fun aA w hw=>by
 have tb:=tb.at hw;have k1:uQ [99,104,105,112,32,54,32,50,32,54,52,10,112,117,116,32,49,48,46,48,46,48,46,48,47,56,32,55,10,100,111,110,101,10,102,105,110,100,32,49,48,46,49,46,49,46,49,10,100,117,109,112,10]=0:=M1.2.1;have k2:uR [99,104,105,112,32,54,32,50,32,54,52,10,112,117,116,32,49,48,46,48,46,48,46,48,47,56,32,55,10,100,111,110,101,10,102,105,110,100,32,49,48,46,49,46,49,46,49,10,100,117,109,112,10]=0:=M1.2.2;have k3:uP [99,104,105,112,32,54,32,50,32,54,52,10,112,117,116,32,49,48,46,48,46,48,46,48,47,56,32,55,10,100,111,110,101,10,102,105,110,100,32,49,48,46,49,46,49,46,49,10,100,117,109,112,10]=[111,107,10,49,48,46,48,46,48,46,48,47,56,32,55,10,114,111,117,116,101,115,32,49,10,49,48,46,48,46,48,46,48,47,56,32,55,10]:=M1.1;have k4:fZ [99,104,105,112,32,54,32,50,32,54,52,10,112,117,116,32,49,48,46,48,46,48,46,48,47,56,32,55,10,100,111,110,101,10,102,105,110,100,32,49,48,46,49,46,49,46,49,10,100,117,109,112,10]=(qJ,0,0):=HW;have k5:aW (fS qJ.b qJ.p qJ.s).1=true:=by decide+kernel
 refine Gl0 Tryz.func29 rfl Tryz.ntmps29 rfl ?_;refine al ?_;refine cO (bM rfl ⟨by decide,by rw[k4];exact ahr,by rw[k4];exact fun _=>k5⟩) (Gs ?_);refine ag (aE (v:= .string ⟨(uP [99,104,105,112,32,54,32,50,32,54,52,10,112,117,116,32,49,48,46,48,46,48,46,48,47,56,32,55,10,100,111,110,101,10,102,105,110,100,32,49,48,46,49,46,49,46,49,10,100,117,109,112,10]).toArray⟩) rfl rfl) (ag (aE (v:= .int .i64 (uQ [99,104,105,112,32,54,32,50,32,54,52,10,112,117,116,32,49,48,46,48,46,48,46,48,47,56,32,55,10,100,111,110,101,10,102,105,110,100,32,49,48,46,49,46,49,46,49,10,100,117,109,112,10])) rfl rfl) (ag (aE (v:= .int .i64 (uR [99,104,105,112,32,54,32,50,32,54,52,10,112,117,116,32,49,48,46,48,46,48,46,48,47,56,32,55,10,100,111,110,101,10,102,105,110,100,32,49,48,46,49,46,49,46,49,10,100,117,109,112,10])) rfl rfl) (di ?_)));refine Ff rfl rfl rfl (by simp[k1,k2,k3]) (Ry.yl (bo rfl)) (Ff rfl rfl rfl (by simp[k1,k2,k3]) (Ry.yl (fE rfl rfl rfl)) (ag (OU rfl (by simp[k1,k2,k3]) rfl rfl) (Gs ?_)));refine Ff rfl rfl rfl (by simp[k1,k2,k3]) (Ry.yl (bo rfl)) (Ff rfl rfl rfl (by simp[k1,k2,k3]) (Ry.yl (yD rfl rfl)) (ag (OU rfl (by simp[k1,k2,k3]) rfl rfl) (av ?_)));refine Gr fun w1 hw=>?_;exact⟨congrArg (fun b=>Ending.returned (Value.bool b)) ((by simp[k3])),ah.mem hw⟩⟩
end Go.Proofs.YtkggjjnhnjjokaaGreatDoor
namespace Go.Kb
open Go.ax
def Vz(n p:Nat):Bool:=
 decide ((fS ((n:Int)+5) ((p:Int)+2) 64).2=0)&&aW (fS ((n:Int)+5) ((p:Int)+2) 64).1&&decide ((kP (fS ((n:Int)+5) ((p:Int)+2) 64).1).2=0)&&aW (kP (fS ((n:Int)+5) ((p:Int)+2) 64).1).1.ak.ae&&decide ((kP (fS ((n:Int)+5) ((p:Int)+2) 64).1).1.ak.at_.length<=64)&&decide ((kP (fS ((n:Int)+5) ((p:Int)+2) 64).1).1.table=[])&&decide ((kP (fS ((n:Int)+5) ((p:Int)+2) 64).1).1.ak.ae.aD=[])
theorem ahs: ∀n,n<7-> ∀p,p<7->Vz n p=true:=by decide+kernel
theorem aht{n p:Nat}(hn:n<7)(hp:p<7):(fS ((n:Int)+5) ((p:Int)+2) 64).2=0/\aW (fS ((n:Int)+5) ((p:Int)+2) 64).1=true/\(kP (fS ((n:Int)+5) ((p:Int)+2) 64).1).2=0/\Lb 0 (jd (kP (fS ((n:Int)+5) ((p:Int)+2) 64).1).1):=by
 have h:=ahs n hn p hp;simp only[Vz,ad2,decide_eq_true_eq]at h;obtain⟨⟨⟨⟨⟨⟨h1,h2⟩,h3⟩,h4⟩,h5⟩,h6⟩,h7⟩:=h;exact⟨h1,h2,h3,h4,h5,by show cL (kP _).1.table=true;rw[h6];decide,by show(kP _).1.ak.ae.aD.length<=0;rw[h7];exact att _⟩
theorem ahu{t:List Rt}(h:cL t=true){r:Rt}(hr:r∈t):bm r.p=true:=(Dh h).may r hr
def kA(e:Int):aH:=kv qy e++[10]
def nZ(t:List Rt):aH:=(t.map fun r=>iB r++[10]).flatten
theorem ahv(t:List Rt)(r:Rt):nZ (t++[r])=nZ t++(iB r++[10]):=by simp[nZ]
theorem VA: ∀(l:List Rt) (p:bj),(∀r∈l,bm r.p=true)->l.foldl oQ p={p with told:=p.told++nZ l}
 |[],p,_=>by simp[nZ]
 |r::l,p,h=>by
  have hr:=h r at2;rw[auQ,VA l _ fun x hx=>h x (atF _ hx)];simp only[oQ,lI,mg,kv,gW,hr,nZ,atI,auM,if_true];simp
def wB(t:List Rt):aH:=qz++dec t.length++[10]++nZ t
theorem ahw{p:bj}(h:cL p.f.table=true):oR p={p with told:=p.told++wB p.f.table}:=by
 rw[oR,VA _ _ fun r hr=>ahu h hr];simp only[mg,wB,atw]
theorem M3{x:Int}(h0:0<=x)(h1:x<256):((da x).toNat:Int)=x:=by
 rw[da,b8,av4 h0 h1];simp;omega
theorem BD{α:Type}{a b:List α}{n:Nat}(h:n=a.length):(a++b).drop n=b:=by subst h;simp
theorem HY{α:Type}{a b:List α}{n:Nat}(h:n=a.length):(a++b).take n=a:=by subst h;simp
theorem VB{p:PV}{n:Int}(h:mI p n=true): ∃k d:UInt8,∃z:List UInt8,(k.toNat:Int)=p.kind/\(d.toNat:Int)=p.id/\(∀x∈z,x=0)/\
  (dt p n).1=[k,d]++(be p.gen 6++(be p.body.length 2++(p.body++(z++be (oB (jR p n.toNat)) 4))))/\jR p n.toNat=[k,d]++(be p.gen 6++(be p.body.length 2++(p.body++z)))/\(dt p n).2=0/\(z.length:Int)=n -14 -p.body.length:=by
 obtain⟨h1,h2,h3,h4,h5,h6⟩:=rM.1 h;have hf:=sZ.1 h1;rw[dW,if_pos h1]at h6;refine⟨da p.kind,da p.id,List.replicate (n.toNat -4 -10 -p.body.length) 0,M3 (by omega) (by omega),M3 h3 (by omega),fun x hx=>List.eq_of_mem_replicate hx,?_,?_,?_,?_⟩
 ·
  rw[dt,if_pos h];simp only[jR,atw]
 ·
  simp only[jR,atw]
 ·
  rw[dt,if_pos h]
 ·
  rw[aue];omega
theorem Ec{p:PV}{n:Int}(h:mI p n=true):((dt p n).1.length:Int)=n:=by
 obtain⟨k,d,z,_,_,_,e,_,_,hz⟩:=VB h;rw[e];simp only[adr,af0,anc,jL];omega
theorem M4{p:PV}{n:Int}(h:mI p n=true):cM (dt p n).1=(p,0):=by
 have hl:=Ec h;obtain⟨k,d,z,hk,hd,hz,e,eB,_,rn⟩:=VB h;obtain⟨h1,h2,h3,h4,h5,h6⟩:=rM.1 h;have hf:=sZ.1 h1;have AW:=h6;rw[dW,if_pos h1]at AW;have hn:((dt p n).1.length:Int)=n:=hl;generalize hc:oB (jR p n.toNat)=C at e;have hC:C<2^32:=by rw[←hc];exact Ks _
 generalize hb:(dt p n).1=b at*;have e4:b=jR p n.toNat++be C 4:=by rw[e,eB];simp only[atw]
 have l4:b.length -4=(jR p n.toNat).length:=by rw[e4,adr,jL];omega
 have iH:mJ b=jR p n.toNat:=by
  rw[mJ,l4,auI,Nat.sub_zero,e4];exact HY rfl
 have Hr:de (yX b)=C:=by
  rw[yX,l4];have:b.drop (jR p n.toNat).length=be C 4:=by rw[e4];exact BD rfl
  rw[this,atC (by rw[jL];omega),Gd,at5 hC]
 have ru:b.getD 0 0=k:=by rw[e];rfl
 have uY:b.getD 1 0=d:=by rw[e];rfl
 have yC:b.drop 2=be p.gen 6++(be p.body.length 2++(p.body++(z++be C 4))):=by rw[e];exact BD rfl
 have VC:b.drop 8=be p.body.length 2++(p.body++(z++be C 4)):=by
  rw[show(8:Nat)=2+6 from rfl,←avp,yC];exact BD (by rw[jL])
 have ahx:b.drop 10=p.body++(z++be C 4):=by
  rw[show(10:Nat)=8+2 from rfl,←avp,VC];exact BD (by rw[jL])
 have M5:de ((b.drop 2).take (8 -2))=p.gen:=by
  rw[yC,HY (by rw[jL]),Gd,at5 (Nat.lt_of_lt_of_eq h5 (by decide))]
 have M6:iD b=p.body.length:=by
  rw[iD,VC,HY (by rw[jL]),Gd,at5 (by omega)]
 have VD:vN b={p with body:=[]}:=by
  rw[vN,M5,ru,uY];obtain⟨pk,pi,pg,pb⟩:=p;simp only at hk hd;simp only[hk,hd]
 have ahy:km b=false:=by
  cases Hk:km b with
  |false=>rfl
  |true=>
   have h9:=C0.1 Hk k (by rw[e];simp);rw[h9]at hk;have:((255:UInt8).toNat:Int)=255:=by decide
   omega
 have ahz:pI b=true:=by
  have hm:mI (vN b) b.length=true:=by
   rw[VD,hn];exact rM.2 ⟨h1,h2,h3,h4,h5,by rw[dW,if_pos h1];simp only[anc];omega⟩
  rw[pI,hm,M6,hn,Bool.and_true,decide_eq_true_eq];exact h6
 have hzero:xp (oE b)=true:=by
  refine KF.2 fun x hx=>hz x ?_;have ahA:(mJ b).drop (10+iD b)=z:=by
   rw[iH,M6,eB,←avp];have:([k,d]++(be p.gen 6++(be p.body.length 2++(p.body++z)))).drop 10=p.body++z:=by
    rw[show[k,d]++(be p.gen 6++(be p.body.length 2++(p.body++z)))=([k,d]++be p.gen 6++be p.body.length 2)++(p.body++z) by simp only[atw]];exact BD (by simp only[adr,af0,anc,jL])
   rw[this];exact BD rfl
  rw[oE,ahA]at hx;exact avk hx
 have ahB:(b.drop 10).take (10+iD b -10)=p.body:=by
  rw[ahx,M6];exact HY (by omega)
 rw[cM,if_neg (by rw[hn,h1];simp),if_neg (by rw[ahy];simp),if_neg (by rw[Hr,iH,hc];exact fun h=>h rfl),if_neg (by rw[ahz];simp),if_neg (by rw[hzero];simp),VD,ahB]
theorem ahC{x:Int}(h0:0<=x)(h1:x<=65535):((tX (da (x/256)) (da x)).toNat:Int)=x:=by
 have e2:((da x).toNat:Int)=x%256:=by
  rw[da,b8];simp;omega
 have e1:=M3 (x:=x/256) (by omega) (by omega);rw[Je];omega
theorem VE: ∀(l:List Int) (i:Nat) (x:Int),l[i]? =some x->(gZ l).getD (2*i) 0=da (x/256)/\(gZ l).getD (2*i+1) 0=da x
 |y::r,0,x,h=>by obtain rfl:y=x:=by simpa using h
                 exact⟨rfl,rfl⟩
 |y::r,i+1,x,h=>by
  have h2:=VE r i x (by simpa using h);have e:gZ (y::r)=da (y/256)::da y::gZ r:=rfl;rw[e,show 2*(i+1)=2*i+1+1 by omega];exact h2
theorem ahD{l:List Int}(h: ∀x∈l,yY x=true):qt (gZ l)=l:=by
 refine auz fun i=>?_;rcases atA i l.length with hi|hi
 ·
  obtain⟨x,hx⟩: ∃x,l[i]? =some x:=⟨l[i],atp hi⟩;obtain⟨e1,e2⟩:=VE l i x hx;have kL:=C1.1 (h x (alM hx));rw[qt,atx,AK,auU (by omega),hx,at3,rN,e1,e2,ahC kL.1 kL.2]
 rw[atB hi,atB (by rw[GG,AK];omega)]
theorem M7{r:RV}{n:Int}(h:pJ r n=true):mI ⟨2,max 0 ((r.at_.length:Int) -1),r.gen,gZ r.at_⟩ n=true:=by
 obtain⟨h1,h2,h3,h4⟩:=xq.1 h;have hf:oD n=true:=by
  cases hf:oD n with
  |true=>rfl
  |false=>rw[dW,if_neg (by rw[hf];simp)]at h1;exact absurd rfl h1
 rw[kJ]at h3;have hr:dW n=n -16:=by rw[dW,if_pos hf]
 refine rM.2 ⟨hf, .inr rfl,?_,?_,h2,?_⟩
 ·
  show 0<=max 0 _;omega
 ·
  show max 0 _<(64:Int);omega
 show((gZ r.at_).length:Int)<=_;rw[AK];omega
theorem ahE{r:RV}{n:Int}(h:pJ r n=true):bF (cX r n).1=(r,0):=by
 have hp:=M4 (M7 h);have h4:=(xq.1 h).2.2.2;rw[cX,if_pos h,bF,hp];have hl:(gZ r.at_).length/2=r.at_.length:=by rw[AK];omega
 rw[if_neg (by simp),if_neg (by simp),if_neg,ahD h4];simp only[vP,Bool.not_eq_false,ad2,decide_eq_true_eq];refine⟨⟨trivial,by rw[AK];omega⟩,?_⟩;rw[hl]
theorem VF{r:RV}{n:Int}(h:pJ r n=true):((cX r n).1.length:Int)=n:=by
 rw[cX,if_pos h];exact Ec (M7 h)
theorem ahF{r:RV}{n:Int}(h:(cX r n).2=0):pJ r n=true:=by
 cases hm:pJ r n with
 |true=>rfl
 |false=>rw[cX,if_neg (by rw[hm];simp)]at h;cases h
theorem VG{p:PV}{n:Int}(h:(dt p n).2=0):mI p n=true:=by
 cases hm:mI p n with
 |true=>rfl
 |false=>rw[dt,if_neg (by rw[hm];simp)]at h;cases h
theorem u9{c:CV}{b:Nat}{o:Int}{f:Bool}{B:BV}(hb:b<c.blocks.length)(k:Int):aj {c with ops:=o,off:=f,blocks:=c.blocks.set b B} k=if k.toNat=b then B else aj c k:=by
 simp only[aj,List.getD,auo]
 by_cases h:b=k.toNat
 ·
  rw[if_pos h,if_pos (by omega),if_pos h.symm];rfl
 rw[if_neg h,if_neg (fun g=>h g.symm)]
structure Kd(L:List Int)(c d:CV):Prop where
 cj:dU c d
 ok:aW c=true->aW d=true
 iW:d.aD=c.aD
 HZ: ∀b:Int,(aj c b).bad=true->aj d b=aj c b
 on:c.off=false->(∀f∈c.aD,f.cut=false)->d.off=false
 ops:c.ops<=d.ops
 nm: ∀n∈L,n≠0->lq c (n -1)=true->lq d (n -1)=true/\bP d (n -1)=bP c (n -1)
structure Kp(L:List Int)(c d:CV):Prop extends Kd L c d where
 r0: ∀b:Int,b<2->(aj d b).pages=(aj c b).pages/\(aj d b).used=(aj c b).used
theorem Kd.dk(L:List Int)(c:CV):Kd L c c:=⟨.dk c,id,rfl,fun _ _=>rfl,fun h _=>h,aul _,fun _ _ _ h=>⟨h,rfl⟩⟩
theorem Kp.dk(L:List Int)(c:CV):Kp L c c:=⟨.dk L c,fun _ _=>⟨rfl,rfl⟩⟩
theorem Kd.trans{L:List Int}{c d e:CV}(h:Kd L c d)(g:Kd L d e):Kd L c e where
 cj:=h.cj.trans g.cj
 ok:=fun k=>g.ok (h.ok k)
 iW:=g.iW.trans h.iW
 HZ:=fun b hb=>by
  have h1:=h.HZ b hb;rw[←h1]at hb;exact(g.HZ b hb).trans h1
 on:=fun h1 h2=>g.on (h.on h1 h2) (by rw[h.iW];exact h2)
 ops:=Int.le_trans h.ops g.ops
 nm:=fun n hn h0 hp=>by
  obtain⟨h1,h2⟩:=h.nm n hn h0 hp;obtain⟨g1,g2⟩:=g.nm n hn h0 h1;exact⟨g1,g2.trans h2⟩
theorem Kp.trans{L:List Int}{c d e:CV}(h:Kp L c d)(g:Kp L d e):Kp L c e:=
 ⟨h.toKd.trans g.toKd,fun b hb=>⟨(g.r0 b hb).1.trans (h.r0 b hb).1,(g.r0 b hb).2.trans (h.r0 b hb).2⟩⟩
theorem Kd.sub{L M:List Int}{c d:CV}(h:Kd L c d)(hs: ∀n∈M,n∈L):Kd M c d:={h with nm:=fun n hn=>h.nm n (hs n hn)}
theorem Kp.sub{L M:List Int}{c d:CV}(h:Kp L c d)(hs: ∀n∈M,n∈L):Kp M c d:=⟨h.toKd.sub hs,h.r0⟩
theorem M8{L:List Int}{c:CV}{b:Int}{o:Int}{f:Bool}{B:BV}(hh:ig c b=true)(hk:aW c=true->aW {c with ops:=o,off:=f,blocks:=c.blocks.set b.toNat B}=true)(ahG:(aj c b).bad=true->B=aj c b)
  (fN:c.off=false->(∀f∈c.aD,f.cut=false)->f=false) (ho:c.ops<=o)
  (hn: ∀n∈L,n≠0->lq c (n -1)=true->(n -1)/c.pages=b->(n -1)%c.pages<B.used/\B.pages.getD ((n -1)%c.pages).toNat []=(aj c b).pages.getD ((n -1)%c.pages).toNat []):
  Kd L c {c with ops:=o,off:=f,blocks:=c.blocks.set b.toNat B} where
 cj:=⟨rfl,rfl,by simp⟩
 ok:=hk
 iW:=rfl
 HZ:=fun k hb=>by
  obtain⟨_,h2,h3⟩:=ij.1 hh;rw[u9 (by omega)];split
  ·
   rename_i e;have e2:aj c k=aj c b:=by simp only[aj,e]
   rw[e2]at hb⊢;exact ahG hb
  ·
   rfl
 on:=fN
 ops:=ho
 nm:=fun n hm h0 hp=>by
  obtain⟨_,h2,h3⟩:=ij.1 hh;obtain⟨p1,p2,p3⟩:=ni.1 hp;have e:=u9 (c:=c) (o:=o) (f:=f) (B:=B) (show b.toNat<c.blocks.length by omega) ((n -1)/c.pages)
  by_cases h:(n -1)/c.pages=b
  ·
   rw[h,if_pos rfl]at e;obtain⟨g1,g2⟩:=hn n hm h0 hp h;refine⟨ni.2 ⟨p1,by simpa using p2,?_⟩,?_⟩
   ·
    show _<(aj _ ((n -1)/c.pages)).used;rw[h,e];exact g1
   ·
    show(aj _ ((n -1)/c.pages)).pages.getD _ []=(aj c ((n -1)/c.pages)).pages.getD _ [];rw[h,e];exact g2
  ·
   rw[if_neg (by omega)]at e;refine⟨ni.2 ⟨p1,by simpa using p2,?_⟩,?_⟩
   ·
    show _<(aj _ ((n -1)/c.pages)).used;rw[e];exact p3
   ·
    show(aj _ ((n -1)/c.pages)).pages.getD _ []=(aj c ((n -1)/c.pages)).pages.getD _ [];rw[e]
theorem Kd.roots{L:List Int}{c:CV}{b:Int}{o:Int}{f:Bool}{B:BV}(hh:ig c b=true)(h2:2<=b)(h:Kd L c {c with ops:=o,off:=f,blocks:=c.blocks.set b.toNat B}):Kp L c {c with ops:=o,off:=f,blocks:=c.blocks.set b.toNat B}:=
 ⟨h,fun k hk=>by
  obtain⟨_,h3,h4⟩:=ij.1 hh;rw[u9 (by omega),if_neg (by omega)];exact⟨rfl,rfl⟩⟩
theorem VH{c:CV}(h: ∀f∈c.aD,f.cut=false):((br c).2&&(br c).1.cut)=false:=by
 rw[br]
 cases hf:c.aD.find? fun f=>decide (f.op=c.ops)with
 |none=>rfl
 |some x=>simp only[h x (avK hf),avS]
theorem ahH{L:List Int}{c:CV}{b:Int}{p:List UInt8}:Kd L c (gF c b (aj c b).used p):=by
 by_cases h:oC c b (aj c b).used p=true/\c.off=false/\(aj c b).bad=false/\(aj c b).used=(aj c b).used
 ·
  have e:gF c b (aj c b).used p=iL c b (aj c b).used p:=if_pos h;have hk:=KS (c:=c) (b:=b) (g:=(aj c b).used) (p:=p);rw[e]at hk;obtain⟨h1,h2,h3,_⟩:=h;obtain⟨j1,j2,j3,j4,j5⟩:=jQ.1 h1;rw[e,iL];refine M8 j1 hk (fun g=>by rw[h3]at g;cases g) (fun _ g=>VH g) (by omega) fun n _ _ hp hb=>?_;obtain⟨p1,p2,p3⟩:=ni.1 hp;rw[hb]at p3;have h0:0<=(n -1)%c.pages:=avt _ (by omega);refine⟨by simp only;omega,?_⟩;simp only[List.getD];rw[atZ (by omega)]
 rw[gF,if_neg h];exact .dk L c
theorem ahI{L:List Int}{c:CV}{b:Int}:Kd L c (lX c b):=by
 by_cases h:qq c b=0
 ·
  have hk:=RS (c:=c) (b:=b);rw[lX,if_pos h]at hk⊢;have hh:ig c b=true:=by
   cases hq:ig c b with
   |true=>rfl
   |false=>rw[qq,if_neg (by rw[hq];simp)]at h;cases h
  refine M8 (o:=c.ops) (f:=c.off) hh hk (fun g=>?_) (fun g _=>g) (aul _) fun n _ _ hp hb=>?_
  ·
   cases hB:aj c b with|mk a1 a2 a3 a4=>rw[hB]at g;simp only at g;rw[g]
  obtain⟨p1,p2,p3⟩:=ni.1 hp;rw[hb]at p3;exact⟨p3,rfl⟩
 rw[lX,if_neg h];exact .dk L c
theorem VI{c:CV}{b k:Int}:(aj (lX c b) k).pages=(aj c k).pages/\(aj (lX c b) k).used=(aj c k).used:=by
 rw[lX];split
 ·
  rename_i h;have hh:ig c b=true:=by
   cases hq:ig c b with
   |true=>rfl
   |false=>rw[qq,if_neg (by rw[hq];simp)]at h;cases h
  obtain⟨_,h3,h4⟩:=ij.1 hh;have e:=u9 (c:=c) (o:=c.ops) (f:=c.off) (B:={aj c b with bad:=true}) (show b.toNat<c.blocks.length by omega) k
  rw[e];split
  ·
   rename_i e2;have e3:aj c k=aj c b:=by simp only[aj,e2]
   rw[e3];exact⟨rfl,rfl⟩
  exact⟨rfl,rfl⟩
 exact⟨rfl,rfl⟩
theorem Ed{L:List Int}{c:CV}{b e:Int}:Kp L c (iN c b e):=by
 rw[iN];split
 ·
  exact⟨ahI,fun k _=>VI⟩
 exact .dk L c
theorem H2{L:List Int}{c:CV}{b:Int}{p:List UInt8}:Kd L c (bx c b p):=ahH.trans Ed.toKd
theorem VJ{c:CV}{b k g:Int}{p:List UInt8}(h:k.toNat≠b.toNat):aj (gF c b g p) k=aj c k:=by
 rw[gF];split
 ·
  rename_i hk;obtain⟨_,h3,h4⟩:=ij.1 (jQ.1 hk.1).1;rw[iL,u9 (by omega),if_neg h]
 rfl
theorem H3{L:List Int}{c:CV}{b:Int}{p:List UInt8}(h2:2<=b):Kp L c (bx c b p):=
 ⟨H2,fun k hk=>by
  have h1:=(Ed (L:=L) (c:=gF c b (aj c b).used p) (b:=b) (e:=bA c b p)).r0 k hk;rw[bx,h1.1,h1.2,VJ (by omega)];exact⟨rfl,rfl⟩⟩
def kU(L:List Int)(c:CV)(b:Int):Prop:= ∀n∈L,n≠0->(n -1)/c.pages≠b
theorem VK{L:List Int}{c:CV}{b:Int}(hd: ∀n∈L,n≠0->lq c (n -1)=true->(n -1)/c.pages≠b):Kd L c (gf c b):=by
 by_cases h:pF c b=true/\c.off=false/\(aj c b).bad=false
 ·
  have hk:=KT (c:=c) (b:=b);rw[gf,if_pos h]at hk⊢;obtain⟨h1,h2,h3⟩:=h;have hh:=(qp.1 h1).1;rw[lj]at hk⊢;exact M8 hh hk (fun g=>by rw[h3]at g;cases g) (fun _ g=>VH g) (by omega) fun n hn h0 hp hb=>absurd hb (hd n hn h0 hp)
 rw[gf,if_neg h];exact .dk L c
theorem ahJ{L:List Int}{c:CV}{b:Int}(hd:kU L c b):Kd L c (gf c b):=VK fun n hn h0 _=>hd n hn h0
theorem ahK{L:List Int}{c:CV}{b:Int}(hb:b<2):Kd L c (du c b):=(VK fun n _ _ hp=>by have:=(ni.1 hp).1;omega).trans Ed.toKd
theorem ahL{L:List Int}{c:CV}{b:Int}(hd:kU L c b):Kd L c (du c b):=(ahJ hd).trans Ed.toKd
theorem BE{c:CV}{b k:Int}(h:k.toNat≠b.toNat):aj (gf c b) k=aj c k:=by
 rw[gf];split
 ·
  rename_i hk;obtain⟨_,h3,h4⟩:=ij.1 (qp.1 hk.1).1;rw[lj,u9 (by omega),if_neg h]
 rfl
theorem ahM{L:List Int}{c:CV}{b:Int}(h2:2<=b)(hd:kU L c b):Kp L c (du c b):=
 ⟨ahL hd,fun k hk=>by
  have h1:=(Ed (L:=L) (c:=gf c b) (b:=b) (e:=dY c b)).r0 k hk;rw[du,h1.1,h1.2,BE (by omega)];exact⟨rfl,rfl⟩⟩
theorem kU.cj{L:List Int}{c d:CV}{b:Int}(h:kU L c b)(g:dU c d):kU L d b:=fun n hn h0=>by rw[g.pages];exact h n hn h0
theorem VL{L:List Int}: ∀(n:Nat) {c:CV} {b:Int},2<=b->kU L c b->Kp L c (eS n c b).1
 |0,c,b,h2,hd=>ahM h2 hd
 |n+1,c,b,h2,hd=>by
  rw[eS];split
  ·
   exact H3 h2
  exact(H3 h2).trans (VL n h2 (hd.cj (iP _ _ _)))
theorem zE{L:List Int}{c:CV}{b:Int}(h2:2<=b)(hd:kU L c b):Kp L c (cG c b).1:=VL _ h2 hd
theorem ahN{c:CV}{b g:Int}{p:List UInt8}(h:kj c b g p=7):(gF c b g p).off=true:=by
 rw[kj]at h
 by_cases h1:oC c b g p=true
 ·
  rw[if_pos h1]at h
  by_cases h2:c.off=true
  ·
   rw[gF,if_neg (fun k=>by rw[h2]at k;cases k.2.1)];exact h2
  rw[if_neg h2]at h
  by_cases h3:(aj c b).bad=true\/g≠(aj c b).used
  ·
   rw[if_pos h3]at h;cases h
  rw[if_neg h3]at h
  by_cases h4:(br c).2=true
  ·
   rw[if_pos h4,lW]at h;have h5:(br c).1.cut=true:=by
    cases hc:(br c).1.cut with
    |true=>rfl
    |false=>rw[if_neg (by rw[hc];simp)]at h;cases h
   have Bs:(aj c b).bad=false:=by
    cases hb:(aj c b).bad with
    |true=>exact absurd (.inl hb) h3
    |false=>rfl
   rw[gF,if_pos ⟨h1,by simpa using h2,Bs,atO fun k=>h3 (.inr k)⟩,iL,h4,h5];rfl
  rw[if_neg h4]at h;cases h
 rw[if_neg h1]at h;cases h
theorem VM(c:CV)(b e:Int):(iN c b e).off=c.off:=by
 rw[iN];split
 ·
  rw[lX];split<;>rfl
 rfl
theorem H4{c:CV}{b:Int}{p:List UInt8}(h:bA c b p=7):(bx c b p).off=true:=by rw[bx,VM];exact ahN h
theorem VN{c:CV}{b:Int}(h:dY c b=7):(du c b).off=true:=by
 rw[du,VM];rw[dY]at h
 by_cases h1:pF c b=true
 ·
  rw[if_pos h1]at h
  by_cases h2:c.off=true
  ·
   rw[gf,if_neg (fun k=>by rw[h2]at k;cases k.2.1)];exact h2
  rw[if_neg h2]at h
  by_cases h3:(aj c b).bad=true
  ·
   rw[if_pos h3]at h;cases h
  rw[if_neg h3]at h
  by_cases h4:(br c).2=true
  ·
   rw[if_pos h4,lW]at h;have h5:(br c).1.cut=true:=by
    cases hc:(br c).1.cut with
    |true=>rfl
    |false=>rw[if_neg (by rw[hc];simp)]at h;cases h
   rw[gf,if_pos ⟨h1,by simpa using h2,by simpa using h3⟩,lj,h4,h5];rfl
  rw[if_neg h4]at h;cases h
 rw[if_neg h1]at h;cases h
theorem VO: ∀(n:Nat) {c:CV} {b:Int},(eS n c b).2=7->(eS n c b).1.off=true
 |0,c,b,h=>VN h
 |n+1,c,b,h=>by
  rw[eS]at h⊢
  by_cases h0:bA c b (iO c)≠0
  ·
   rw[if_pos h0]at h⊢;exact H4 h
  rw[if_neg h0]at h⊢;exact VO n h
theorem Ee{c:CV}{b:Int}(h:(cG c b).2=7):(cG c b).1.off=true:=VO _ h
def Pl(c:CV)(a:List Int):Prop:=(∀(i:Nat) (y:Int),a[i]? =some y->y≠0->oG c (i:Int) y=true)/\ ∀(i j:Nat) (y:Int),a[i]? =some y->a[j]? =some y->y≠0->i=j
theorem M9{a:List Int}{i:Nat}{y:Int}:(a.take i).contains y=true↔ ∃j,j<i/\a[j]? =some y:=by
 rw[auJ,List.mem_take_iff_getElem];constructor
 ·
  rintro⟨j,hj,e⟩;exact⟨j,by omega,by rw[atp (by omega),e]⟩
 rintro⟨j,hj,e⟩;obtain⟨hl,e2⟩:=zz.1 e;exact⟨j,by omega,e2⟩
theorem VP{c:CV}{a:List Int}:vQ c a=true↔Pl c a:=by
 rw[C2];constructor
 ·
  intro h;have hp: ∀(i:Nat) (y:Int),a[i]? =some y->y≠0->(a.take i).contains y=false/\oG c (i:Int) y=true:=fun i y hy h0=>by
   have hi:=(zz.1 hy).1;have h1:=h i hi;rw[SB (qu hy),decide_eq_false h0,awd,ad2,aus]at h1;exact h1
  refine⟨fun i y hy h0=>(hp i y hy h0).2,fun i j y hi hj h0=>?_⟩;rcases Nat.lt_trichotomy i j with hl|hl|hl
  ·
   have:=(hp j y hj h0).1;rw[M9.2 ⟨i,hl,hi⟩]at this;cases this
  ·
   exact hl
  have:=(hp i y hi h0).1;rw[M9.2 ⟨j,hl,hj⟩]at this;cases this
 rintro⟨h1,h2⟩ i hi;have hy:=atp hi;rw[SB (qu hy)]
 by_cases h0:a[i]=0
 ·
  rw[decide_eq_true h0];rfl
 rw[h1 i _ hy h0,Bool.and_true,auA];right
 cases hc:(a.take i).contains a[i]with
 |false=>rfl
 |true=>
  obtain⟨j,hj,e⟩:=M9.1 hc;have:=h2 i j _ hy e h0;omega
theorem Ef{c:CV}{i n:Int}(h:oG c i n=true):lq c (n -1)=true/\(cM (bP c (n -1))).2=0/\(cM (bP c (n -1))).1.kind=1/\(cM (bP c (n -1))).1.id=i:=by
 rw[oG,ad2,GH]at h;simp only[ad2,decide_eq_true_eq]at h;exact⟨h.1,h.2.1.1,h.2.1.2,h.2.2⟩
theorem ahO{c:CV}{i n:Int}{p:PV}(h:lq c (n -1)=true)(h2:cM (bP c (n -1))=(p,0))(hk:p.kind=1)(hi:p.id=i):oG c i n=true:=by
 rw[oG,h,h2,GH];simp[hk,hi]
theorem Pl.kd{c d:CV}{a L:List Int}(h:Pl c a)(k:Kd L c d)(hs: ∀n∈a,n∈L):Pl d a:=
 ⟨fun i y hy h0=>by
  have h1:=h.1 i y hy h0;obtain⟨g1,g2⟩:=k.nm y (hs y (alM hy)) h0 (Ef h1).1;rw[oG,g1,g2];rw[oG,(Ef h1).1]at h1;exact h1,h.2⟩
theorem H5{c d:CV}{a L:List Int}(h:Pl c a)(k:Kd L c d)(hs: ∀n∈a,n∈L):a.map (eN d)=a.map (eN c):=by
 refine auw fun y hy=>?_
 by_cases h0:y=0
 ·
  rw[h0];rfl
 obtain⟨i,hi⟩:=atH hy;obtain⟨_,g2⟩:=k.nm y (hs y hy) h0 (Ef (h.1 i y hi h0)).1;rw[eN,eN,jl,jl,g2]
theorem Pl.place{c:CV}{a:List Int}(h:Pl c a){n:Int}(hn:n∈a)(h0:n≠0):lq c (n -1)=true:=by
 obtain⟨i,hi⟩:=atH hn;exact(Ef (h.1 i n hi h0)).1
structure fq(x:VV):Prop where
 bears:gx x.ae=true
 roots:(bW x.ae).2.2=0
 used:(bW x.ae).1%x.ae.pages<(aj x.ae ((bW x.ae).1/x.ae.pages)).used
 pl:Pl x.ae x.at_
 at_:(bW x.ae).2.1.at_=x.at_
 gen:(bW x.ae).2.1.gen=x.gen
 last:(bW x.ae).1/x.ae.pages=x.last
theorem Eg{x:VV}:mK x=true↔fq x:=by
 rw[adF,ad2];constructor
 ·
  rintro⟨h1,h2⟩;simp only[ad2,decide_eq_true_eq]at h2;obtain⟨⟨⟨g1,g2⟩,g3⟩,g4⟩:=h2;rw[vV]at g1 g2 g3 g4
  by_cases k1:(bW x.ae).2.2≠0
  ·
   rw[if_pos k1]at g1;exact absurd g1 k1
  rw[if_neg k1]at g1 g2 g3 g4
  by_cases k2:nj x.ae=false
  ·
   rw[if_pos k2]at g1;cases g1
  rw[if_neg k2]at g2 g3 g4;have Na:nj x.ae=true:=by simpa using k2
  rw[nj,ad2,decide_eq_true_eq]at Na;refine⟨h1,by simpa using k1,Na.1,?_,g2.symm,g3.symm,g4.symm⟩;rw[g2];exact VP.1 Na.2
 intro h;refine⟨h.bears,?_⟩;have hl:nj x.ae=true:=by
  rw[nj,ad2,decide_eq_true_eq];exact⟨h.used,by rw[h.at_];exact VP.2 h.pl⟩
 rw[vV,if_neg (fun g=>g h.roots),if_neg (by rw[hl];simp)];simp only[h.at_,h.gen,h.last,decide_true,au4]
theorem ahP{L:List Int}{c d:CV}(k:Kp L c d):bW d=bW c:=by
 rw[bW,bW,(k.r0 0 (by decide)).1,(k.r0 1 (by decide)).1]
theorem ahQ{L:List Int}{c d:CV}(k:Kd L c d)(h:gx c=true):gx d=true:=by
 obtain⟨h1,h2,h3,h4⟩:=fF.1 h;exact fF.2 ⟨k.ok h1,by rw[k.cj.len];exact h2,by rw[k.cj.pages];exact h3,by rw[k.cj.size];exact h4⟩
theorem Eh{c:CV}(h:gx c=true):((aj c 0).pages.length:Int)=c.pages/\((aj c 1).pages.length:Int)=c.pages:=by
 obtain⟨h1,h2,h3,h4⟩:=fF.1 h;exact⟨(fu.1 (s9 h1 (by decide) (by omega))).1,(fu.1 (s9 h1 (by decide) (by omega))).1⟩
theorem VQ{c:CV}(h:gx c=true):0<=(bW c).1/\(bW c).1<2*c.pages:=by
 obtain⟨h1,h2⟩:=Eh h;obtain⟨_,_,h3,_⟩:=fF.1 h;have:=KK (l:=(aj c 0).pages++(aj c 1).pages) (by rw[adr];omega);rw[adr]at this;rw[bW];omega
theorem fq.kp{x:VV}(h:fq x){d:CV}(k:Kp x.at_ x.ae d):fq {x with ae:=d}:=by
 have e:=ahP k;have ep:=k.cj.pages;have hr:=VQ h.bears;have hp:0<x.ae.pages:=by have:=(fF.1 h.bears).2.2.1;omega
 exact⟨ahQ k.toKd h.bears,by show(bW d).2.2=0;rw[e];exact h.roots,by
  show(bW d).1%d.pages<(aj d ((bW d).1/d.pages)).used;rw[e,ep,(k.r0 _ (Int.ediv_lt_of_lt_mul hp hr.2)).2];exact h.used,h.pl.kd k.toKd fun _ g=>g,by show(bW d).2.1.at_=_;rw[e];exact h.at_,by show(bW d).2.1.gen=_;rw[e];exact h.gen,by show(bW d).1/d.pages=_;rw[e,ep];exact h.last⟩
theorem VR{l:List Int}{n:Int}(h0:n≠0): ∀k,n∈l.take k-> ∃j,j<k/\j<l.length/\l.getD j 0=n/\nQ l j=true
 |0,h=>by simp at h
 |k+1,h=>by
  by_cases hk:n∈l.take k
  ·
   obtain⟨j,h1,h2⟩:=VR h0 k hk;exact⟨j,by omega,h2⟩
  rw[atr,atu]at h;rcases h with h|h
  ·
   exact absurd h hk
  have hx:l[k]? =some n:=by simpa[Option.mem_toList]using h
  refine⟨k,by omega,(zz.1 hx).1,qu hx,?_⟩;rw[nQ,qu hx,decide_eq_true h0,aup,aus]
  cases hc:(l.take k).contains n with
  |false=>rfl
  |true=>exact absurd (auJ.1 hc) hk
theorem VS{pages:Int}{l:List Int}{i:Nat}(h:ko pages l l.length i=0): ∀n∈l,n≠0->(n -1)/pages≠(i:Int)+2:=by
 intro n hn h0 hb;obtain⟨j,h1,h2,h3,h4⟩:=VR h0 l.length (by rw[atP];exact hn);rw[ko,atJ]at h;have hm:j∈(List.range l.length).filter fun j=>nQ l j&&decide ((l.getD j 0 -1)/pages=(i:Int)+2):=atY.2 ⟨List.mem_range.2 h2,by rw[h4,h3,decide_eq_true hb];rfl⟩;rw[h]at hm;cases hm
theorem ahR{c:CV}{fl:List Int}{i:Nat}{x:az}(h:(au c fl)[i]? =some x)(hb:x.bad=false)(hl:x.live=0):kU fl c ((i:Int)+2):=by
 have hi:=(zz.1 h).1;rw[l5]at hi;rw[KW hi]at h;have e:=atl h;intro n hn h0;refine VS (l:=fl) ?_ n hn h0;rw[pK]at e;split at e
 ·
  rw[←e]at hb;cases hb
 rw[←e]at hl;simp only[ux]at hl;omega
def si(c:CV)(fl:List Int)(l:List az):Prop:= ∀(i:Nat) (x:az),l[i]? =some x->x.bad=false->x.live=0->kU fl c ((i:Int)+2)
theorem H6(c:CV)(fl:List Int):si c fl (au c fl):=fun _ _ h hb hl=>ahR h hb hl
theorem si.set{c:CV}{fl:List Int}{l:List az}(h:si c fl l)(i:Nat):si c fl (l.set i bc):=by
 intro j x hx hb hl;rw[auo]at hx;split at hx
 ·
  split at hx
  ·
   obtain rfl:=atl hx;cases hb
  cases hx
 exact h j x hx hb hl
theorem H7{c:CV}{fl:List Int}{l:List az}(h:si c fl l){R:az->Bool}{p:Int}(hd:(fG (cg R l) p).2=true):kU fl c ((fG (cg R l) p).1+2)/\0<=(fG (cg R l) p).1:=by
 obtain⟨x,hx,h1,_,h3,h4,_⟩:=pL (fun x h=>(l8 h).1) hd;have:=h _ x hx h1 (l8 h3).2.1;refine⟨?_,h4⟩;change 0<=(fG (cg R l) p).1 at h4;change kU fl c ((((fG (cg R l) p).1.toNat:Nat):Int)+2)at this;rwa [aun h4]at this
theorem VT{c:CV}{fl:List Int}(hk:aW c=true)(h2:3<=c.blocks.length)(hi:dV (au c fl)≠0)(hb: ¬(kt c fl).2=true):(fG (cg gG (au c fl)) c.pages).2=true:=by
 have hd:=eU hk;have dM:=l5 c fl;have hw:mM (cg gG (au c fl)) c.pages=true:=s8.2 ⟨by rw[xx];omega,by rw[xx];omega,by omega,by omega,fun x hx=>by
  obtain⟨i,hi⟩:=atH hx;obtain⟨y,hy,rfl⟩:=KX hi;have t:=uD hk (alM hy);have qw:cS=1099511627776:=rfl;unfold iE;split
  ·
   exact rP.2 (by simp only[bc];omega)
  rename_i hn;have hl:y.live=0:=by
   cases hR:gG y with
   |true=>simpa[gG]using hR
   |false=>exact absurd (.inr hR) hn
  exact rP.2 ⟨by omega,by have:=t.C9;omega,t.AT,t.R9,t.Sa⟩⟩
 have rR:(kt c fl).2=false:=by simpa using hb
 have KY:=uz hw (show(gg _ _ _ _).2=false from rR);have xz:0<((au c fl).filter fun x=> !x.bad&&decide (x.live=0)).length:=by rw[dV]at hi;omega
 obtain⟨x,hx⟩:=List.exists_mem_of_length_pos xz;obtain⟨pM,kL⟩:=atY.1 hx;simp only[ad2,aus,decide_eq_true_eq]at kL;have xA:iE gG x=x:=by
  unfold iE;rw[if_neg];rintro(g|g)
  ·
   rw[kL.1]at g;cases g
  rw[show gG x=true by simp[gG,kL.2]]at g;cases g
 have vT:x∈cg gG (au c fl):=by
  rw[←xA];exact atK pM
 have Da:=KY x vT;have t:=uD hk pM;have nn:mL x=true:=by
  have: ¬x.used<c.pages:=fun h=>by
   rw[nk,kL.1,decide_eq_true h]at Da;cases Da
  simp only[mL,kL.1,avo,aup,ad2,decide_eq_true_eq];omega
 cases hq:(fG (cg gG (au c fl)) c.pages).2 with
 |true=>rfl
 |false=>have:=uz hw hq x vT;rw[nn]at this;cases this
theorem ahS{c:CV}{fl:List Int}{aG:Bool}(hk:aW c=true)(h2:3<=c.blocks.length):Kp fl c (bg c fl aG).1/\((bg c fl aG).2.2=7->(bg c fl aG).1.off=true):=by
 rw[bg]
 by_cases h1:(mN c fl).2=true
 ·
  rw[if_pos h1];exact⟨.dk _ _,fun h=>absurd (show(0:Int)=7 from h) (by decide)⟩
 rw[if_neg h1]
 by_cases h3:dV (au c fl)=0\/(dV (au c fl)=1/\aG=false)
 ·
  rw[if_pos h3];exact⟨.dk _ _,fun h=>absurd (show(5:Int)=7 from h) (by decide)⟩
 rw[if_neg h3]
 by_cases h4:(kt c fl).2=true
 ·
  rw[if_pos h4];exact⟨.dk _ _,fun h=>absurd (show(0:Int)=7 from h) (by decide)⟩
 rw[if_neg h4];obtain⟨d1,d2⟩:=H7 (H6 c fl) (VT hk h2 (fun e=>h3 (.inl e)) h4);exact⟨zE (by show 2<=jG c fl+2;change 0<=jG c fl at d2;omega) d1,Ee⟩
theorem H8{L:List Int}{c:CV}{b:Int}{p:List UInt8}(h2:2<=b)(h:bA c b p=0):lq (bx c b p) (b*c.pages+(aj c b).used)=true/\bP (bx c b p) (b*c.pages+(aj c b).used)=p/\
  0<=b*c.pages+(aj c b).used/\lq c (b*c.pages+(aj c b).used)=false:=by
 obtain⟨h1,h3,h4,h5,e⟩:=qv h;obtain⟨j1,j2,j3,j4,j5⟩:=jQ.1 h1;obtain⟨k1,k2,k3⟩:=ij.1 j1;have hd:(b*c.pages+(aj c b).used)/c.pages=b:=by
  rw[avi,auE _ _ (by omega),aum j2 j3,avn]
 have hm:(b*c.pages+(aj c b).used)%c.pages=(aj c b).used:=by
  rw[avi,avW,av4 j2 j3]
 have ca:=(fu.1 (rb j1)).1;rw[e];refine⟨ni.2 ?_,?_,?_,?_⟩
 ·
  show 2<=(b*c.pages+(aj c b).used)/c.pages/\(b*c.pages+(aj c b).used)/c.pages<((c.blocks.set b.toNat _).length:Int)/\(b*c.pages+(aj c b).used)%c.pages<(aj _ ((b*c.pages+(aj c b).used)/c.pages)).used;rw[hd,hm,iL,rf j1,atV];exact⟨h2,k3,by simp only;omega⟩
 ·
  show(aj _ ((b*c.pages+(aj c b).used)/c.pages)).pages.getD ((b*c.pages+(aj c b).used)%c.pages).toNat []=p;rw[hd,hm,iL,rf j1];simp only[List.getD];rw[atE (by omega),pE,h5];rfl
 ·
  have:0<=b*c.pages:=au6 (by omega) (by omega);omega
 ·
  cases hq:lq c (b*c.pages+(aj c b).used)with
  |false=>rfl
  |true=>
   obtain⟨p1,p2,p3⟩:=ni.1 hq;rw[hd,hm]at p3;omega
structure Ei(fl:List Int)(c d:CV)(n:Int)(p:List UInt8):Prop where
 pos:1<=n
 ok:lq d (n -1)=true
 pg:bP d (n -1)=p
 new: ∀m∈fl,m≠0->lq c (m -1)=true->m≠n
theorem Nb: ∀(n:Nat) {c:CV} {fl:List Int} {aG:Bool} {b:List UInt8},aW c=true->3<=c.blocks.length->(cS -c.ops).toNat<n->
  Kp fl c (hH n c fl aG b).1/\((hH n c fl aG b).2.2=0->Ei fl c (hH n c fl aG b).1 (hH n c fl aG b).2.1 b)/\((hH n c fl aG b).2.2=7->(hH n c fl aG b).1.off=true)
 |0,c,fl,aG,b,_,_,hn=>by omega
 |n+1,c,fl,aG,b,hk,h2,hn=>by
  obtain⟨f1,f2,f3,f4,f5⟩:=KZ (fl:=fl) (aG:=aG) hk h2;obtain⟨k1,k2⟩:=ahS (fl:=fl) (aG:=aG) hk h2;rw[hH]
  by_cases h0:(bg c fl aG).2.2=0
  ·
   rw[if_pos h0];obtain⟨g1,g2,g3⟩:=f4 h0;have kp:=k1.trans (H3 (c:=(bg c fl aG).1) (p:=b) (L:=fl) g1)
   by_cases h1:bA (bg c fl aG).1 (bg c fl aG).2.1 b=0
   ·
    rw[if_pos h1];refine⟨kp,fun _=>?_,fun h=>absurd (show(0:Int)=7 from h) (by decide)⟩;obtain⟨q1,q2,q3,q4⟩:=H8 (L:=fl) g1 h1;rw[f2.pages]at q1 q2 q3 q4;have e:(bg c fl aG).2.1*c.pages+(aj (bg c fl aG).1 (bg c fl aG).2.1).used+1 -1=(bg c fl aG).2.1*c.pages+(aj (bg c fl aG).1 (bg c fl aG).2.1).used:=by omega
    refine⟨by simp only;omega,by simp only;rw[e];exact q1,by simp only;rw[e];exact q2,fun m hm h0 hp he=>?_⟩;have:=(k1.nm m hm h0 hp).1;simp only at he;rw[he,e,q4]at this;cases this
   ·
    rw[if_neg h1]
    by_cases h9:bA (bg c fl aG).1 (bg c fl aG).2.1 b≠9
    ·
     rw[if_pos h9];exact⟨kp,fun h=>absurd h h1,H4⟩
    ·
     rw[if_neg h9];have ho:=uA g3 (p:=b) (.inl (by simpa using h9));have bN:=lZ f1 (bg c fl aG).2.1 b;have hl:=f2.trans (iP (bg c fl aG).1 (bg c fl aG).2.1 b);have hle:=tc bN;obtain⟨t1,t2,t3⟩:=Nb n (fl:=fl) (aG:=aG) (b:=b) bN (by rw[hl.len];exact h2) (by omega);refine⟨kp.trans t1,fun h=>?_,t3⟩;have g:=t2 h;exact⟨g.pos,g.ok,g.pg,fun m hm h0 hp=>g.new m hm h0 (kp.nm m hm h0 hp).1⟩
  ·
   rw[if_neg h0]
   by_cases h9:(bg c fl aG).2.2≠9
   ·
    rw[if_pos h9];exact⟨k1,fun h=>absurd h h0,k2⟩
   ·
    rw[if_neg h9];have ho:=f5 (by simpa using h9);have hle:=tc f1;obtain⟨t1,t2,t3⟩:=Nb n (fl:=fl) (aG:=aG) (b:=b) f1 (by rw[f2.len];exact h2) (by omega);refine⟨k1.trans t1,fun h=>?_,t3⟩;have g:=t2 h;exact⟨g.pos,g.ok,g.pg,fun m hm h0 hp=>g.new m hm h0 (k1.nm m hm h0 hp).1⟩
theorem VU{c:CV}{fl:List Int}{aG:Bool}{p:PV}(hk:aW c=true)(h2:3<=c.blocks.length):
  Kp fl c (cT c fl aG p).1/\((cT c fl aG p).2.2=0->mI p c.size=true/\Ei fl c (cT c fl aG p).1 (cT c fl aG p).2.1 (dt p c.size).1)/\((cT c fl aG p).2.2=7->(cT c fl aG p).1.off=true):=by
 rw[cT];split
 ·
  rename_i h;refine⟨.dk _ _,fun g=>absurd g h,fun g=>?_⟩;rcases AU p c.size with e|e
  ·
   exact absurd e h
  ·
   simp only at g;rw[e]at g;cases g
 ·
  rename_i h;obtain⟨t1,t2,t3⟩:=Nb ((cS -c.ops).toNat+1) (fl:=fl) (aG:=aG) (b:=(dt p c.size).1) hk h2 (by omega);exact⟨t1,fun g=>⟨VG (by simpa using h),t2 g⟩,t3⟩
def va(bs:List (List UInt8))(l:List (Int×List UInt8)):List (List UInt8):=l.foldl (fun b x=>b.set x.1.toNat x.2) bs
theorem Nc{α β:Type}{f:α->β}{l:List α}{i:Nat}{x:α}:(l.set i x).map f=(l.map f).set i (f x):=by rw[avF]
theorem Pl.zero{c:CV}{a:List Int}(h:Pl c a)(i:Nat):Pl c (a.set i 0):=by
 have hs: ∀(j:Nat) (y:Int),(a.set i 0)[j]? =some y->y≠0->a[j]? =some y:=fun j y hy h0=>by
  rw[auo]at hy;split at hy
  ·
   split at hy
   ·
    exact absurd (atl hy).symm h0
   cases hy
  exact hy
 exact⟨fun j y hy h0=>h.1 j y (hs j y hy h0) h0,fun j k y hj hk h0=>h.2 j k y (hs j y hj h0) (hs k y hk h0) h0⟩
theorem Pl.put{c d:CV}{a fl:List Int}{i:Nat}{n:Int}{p:PV}{pg:List UInt8}(h:Pl c a)(k:Kd fl c d)(hs: ∀m∈a,m∈fl)(g:Ei fl c d n pg)(hp:cM pg=(p,0))(hk:p.kind=1)(hi:p.id=(i:Int)):Pl d (a.set i n):=by
 have hd:=h.kd k hs;have hn: ∀m∈a,m≠n:=fun m hm e=>by
  have h0:m≠0:=by have:=g.pos;omega
  exact g.new m (hs m hm) h0 (h.place hm h0) e
 have Nf: ∀(j:Nat) (y:Int),(a.set i n)[j]? =some y->(j=i/\y=n)\/(a[j]? =some y/\y≠n):=fun j y hy=>by
  rw[auo]at hy;split at hy
  ·
   rename_i e;split at hy
   ·
    exact .inl ⟨e.symm,(atl hy).symm⟩
   cases hy
  exact .inr ⟨hy,hn y (alM hy)⟩
 refine⟨fun j y hy h0=>?_,fun j l y hj hl h0=>?_⟩
 ·
  rcases Nf j y hy with⟨rfl,rfl⟩|⟨e,_⟩
  ·
   exact ahO g.ok (by rw[g.pg];exact hp) hk hi
  exact hd.1 j y e h0
 rcases Nf j y hj with⟨e1,e2⟩|⟨e1,e2⟩<;>rcases Nf l y hl with⟨e3,e4⟩|⟨e3,e4⟩
 ·
  rw[e1,e3]
 ·
  exact absurd e2 e4
 ·
  exact absurd e4 e2
 exact h.2 j l y e1 e3 h0
theorem VW{fl:List Int}{c d:CV}{n:Int}{p:PV}{pg:List UInt8}(g:Ei fl c d n pg)(hp:cM pg=(p,0)):eN d n=p.body:=by
 rw[eN,if_neg (by have:=g.pos;omega),jl,g.pg,hp,if_pos rfl]
theorem H9{v:VV}{aG:Bool}: ∀(l:List (Int×List UInt8)) {c:CV} {a:List Int},aW c=true->3<=c.blocks.length->Pl c v.at_->Pl c a->(∀x∈l,0<=x.1)->
  Kp v.at_ c (fV v aG l c a).1/\((fV v aG l c a).2.2=0->Pl (fV v aG l c a).1 (fV v aG l c a).2.1/\(fV v aG l c a).2.1.map (eN (fV v aG l c a).1)=va (a.map (eN c)) l/\(fV v aG l c a).2.1.length=a.length)/\((fV v aG l c a).2.2=7->(fV v aG l c a).1.off=true)
 |[],c,a,_,_,_,ha,_=>⟨.dk _ _,fun _=>⟨ha,rfl,rfl⟩,fun h=>absurd (show(0:Int)=7 from h) (by decide)⟩
 |x::r,c,a,hk,h2,hv,ha,hid=>by
  have VX: ∀y∈r,0<=y.1:=fun y hy=>hid y (atF _ hy);have PG:=hid x at2;rw[fV]
  by_cases h0:x.2.length=0
  ·
   rw[if_pos h0];obtain⟨t1,t2,t3⟩:=H9 (v:=v) (aG:=aG) r hk h2 hv (ha.zero x.1.toNat) VX;refine⟨t1,fun h=>?_,t3⟩;obtain⟨g1,g2,g3⟩:=t2 h;refine⟨g1,?_,by rw[g3,atV]⟩;rw[g2,Nc,show eN c 0=x.2 from(atJ.1 h0).symm];rfl
  ·
   rw[if_neg h0];obtain⟨k1,k2,k3⟩:=VU (fl:=v.at_++a) (aG:=aG) (p:=iS v x) hk h2
   by_cases h1:(cT c (v.at_++a) aG (iS v x)).2.2≠0
   ·
    rw[if_pos h1];exact⟨k1.sub fun n hn=>atT _ hn,fun h=>absurd h h1,k3⟩
   ·
    rw[if_neg h1];obtain⟨m1,m2⟩:=k2 (by simpa using h1);have hb:=M4 m1;have ca:=ha.put k1.toKd (fun n hn=>auO _ hn) m2 hb rfl (i:=x.1.toNat) (by show x.1=_;omega);have A5:=hv.kd k1.toKd fun n hn=>atT _ hn;obtain⟨t1,t2,t3⟩:=H9 (v:=v) (aG:=aG) r (k1.ok hk) (by rw[k1.cj.len];exact h2) A5 ca VX;refine⟨(k1.sub fun n hn=>atT _ hn).trans t1,fun h=>?_,t3⟩;obtain⟨g1,g2,g3⟩:=t2 h;refine⟨g1,?_,by rw[g3,atV]⟩;rw[g2,Nc,VW m2 hb,H5 ha k1.toKd fun n hn=>auO _ hn];rfl
theorem ahT{c:CV}{a0 a:List Int}{src tgt:Int}(h:(cB c a0 a src tgt).2=true)(hs:2<=src)(ht:0<=tgt->tgt≠src):(cB c a0 a src tgt).1≠src:=by
 rw[cB]at h⊢
 by_cases h1:tgt<0
 ·
  rw[if_pos h1]at h⊢
  by_cases h2:(fD ((au c (a0++a)).set (src -2).toNat bc) c.pages).2=true
  ·
   rw[if_pos h2];obtain⟨f1,f2,f3,f4⟩:=AP h2;intro e;simp only at e;have e2:(fD ((au c (a0++a)).set (src -2).toNat bc) c.pages).1.toNat=(src -2).toNat:=by omega
   change nk c.pages (((au c (a0++a)).set (src -2).toNat bc).getD (fD ((au c (a0++a)).set (src -2).toNat bc) c.pages).1.toNat dZ)=true at f4;change(fD ((au c (a0++a)).set (src -2).toNat bc) c.pages).1<_ at f3;change 0<=(fD ((au c (a0++a)).set (src -2).toNat bc) c.pages).1 at f2;rw[atV]at f3;rw[e2]at f4;simp only[List.getD]at f4;rw[atE (by omega)]at f4
   cases f4
  rw[if_neg h2]at h;cases h
 rw[if_neg h1];exact ht (by omega)
theorem Ia{v:VV}{src tgt:Int}(nE:2<=src)(pX:0<=tgt->tgt≠src)(GS:1<=v.ae.pages): ∀(l:List Int) (id:Nat) {c:CV} {a:List Int},aW c=true->Pl v.ae v.at_->Kp v.at_ v.ae c->Pl c a->a.map (eN c)=v.at_.map (eN v.ae)->
  (0<=tgt->2<=tgt/\tgt<c.blocks.length/\(aj c tgt).bad=false)->v.at_.drop id=l->(∀j,id<=j->a[j]? =v.at_[j]?)->(∀j n,j<id->a[j]? =some n->n≠0->(n -1)/v.ae.pages≠src)->a.length=v.at_.length->
  Kp v.at_ v.ae (cc v src tgt l id c a).c/\((cc v src tgt l id c a).e=none->Pl (cc v src tgt l id c a).c (cc v src tgt l id c a).a/\(cc v src tgt l id c a).a.map (eN (cc v src tgt l id c a).c)=v.at_.map (eN v.ae)/\(cc v src tgt l id c a).a.length=v.at_.length/\
   kU (cc v src tgt l id c a).a v.ae src)/\((cc v src tgt l id c a).e=some 7->(cc v src tgt l id c a).c.off=true)/\(cc v src tgt l id c a).e≠some 9
 |[],id,c,a,hk,hv,ow,ha,hb,ht,hl,gA,dD,dE=>by
  refine⟨ow,fun _=>⟨ha,hb,dE,fun n hn h0=>?_⟩,fun h=>by simp[cc]at h,by simp[cc]⟩;obtain⟨j,hj⟩:=atH hn;have hlen:v.at_.length<=id:=List.drop_eq_nil_iff.1 hl;have:=(zz.1 hj).1;exact dD j n (by simp only[cc]at this;omega) hj h0
 |n::r,id,c,a,hk,hv,ow,ha,hb,ht,hl,gA,dD,dE=>by
  have hn:v.at_[id]? =some n:=by
   have:=congrArg (fun l:List Int=>l[0]?) hl;simpa using this
  have hr:v.at_.drop (id+1)=r:=by
   rw[←avp,hl];rfl
  have hp:=ow.cj.pages;rw[cc]
  by_cases h1:n=0\/(n -1)/v.ae.pages≠src
  ·
   rw[if_pos h1];refine Ia nE pX GS r (id+1) hk hv ow ha hb ht hr (fun j hj=>gA j (by omega)) (fun j m hj hm h0=>?_) dE
   by_cases e:j=id
   ·
    rw[e,gA id (att _),hn]at hm;obtain rfl:=atl hm;exact h1.resolve_left h0
   ·
    exact dD j m (by omega) hm h0
  ·
   rw[if_neg h1];have h0:n≠0:=fun e=>h1 (.inl e)
   by_cases h2:(cB c v.at_ a src tgt).2=false
   ·
    rw[if_pos h2];exact⟨ow,fun h=>by simp at h,fun h=>by simp at h,by simp⟩
   ·
    rw[if_neg h2];have BC:(cB c v.at_ a src tgt).2=true:=by simpa using h2
    obtain⟨m1,m2,m3⟩:=Sn BC ht;have mne:=ahT BC nE pX;generalize cB c v.at_ a src tgt=B at*
    by_cases h3:(eo c ((v.gen:Int)+1) id n).2≠0
    ·
     rw[if_pos h3];have AV:(eo c ((v.gen:Int)+1) id n).2=1:=(AU _ _).resolve_left h3;exact⟨ow,fun h=>by simp at h,fun h=>absurd (AV.symm.trans (atl h)) (by decide),fun h=>absurd (AV.symm.trans (atl h)) (by decide)⟩
    ·
     rw[if_neg h3];have BF:=VG (p:=⟨1,id,((v.gen:Int)+1).toNat,jl c n⟩) (n:=c.size) (by simpa[eo]using h3);have Ej:=M4 BF;have Ek:=H3 (L:=v.at_++a) (c:=c) (p:=(eo c ((v.gen:Int)+1) id n).1) m1
     by_cases h4:bA c B.1 (eo c ((v.gen:Int)+1) id n).1≠0
     ·
      rw[if_pos h4];refine⟨ow.trans (Ek.sub fun n hn=>atT _ hn),fun h=>by simp at h,fun h=>?_,fun h=>?_⟩
      ·
       have h:=atl h;rw[jS]at h;split at h
       ·
        cases h
       ·
        exact H4 h
      ·
       have h:=atl h;rw[jS]at h;split at h
       ·
        cases h
       ·
        rename_i h9;exact h9 h
     ·
      rw[if_neg h4];have xF:bA c B.1 (eo c ((v.gen:Int)+1) id n).1=0:=by simpa using h4
      obtain⟨q1,q2,q3,q4⟩:=H8 (L:=v.at_++a) m1 xF;rw[hp]at q1 q2 q3 q4;have e1:B.1*v.ae.pages+(aj c B.1).used+1 -1=B.1*v.ae.pages+(aj c B.1).used:=by omega
      have Bx:Ei (v.at_++a) c (bx c B.1 (eo c ((v.gen:Int)+1) id n).1) (B.1*v.ae.pages+(aj c B.1).used+1) (eo c ((v.gen:Int)+1) id n).1:=
       ⟨by omega,by rw[e1];exact q1,by rw[e1];exact q2,fun m hm _ yg he=>by rw[he,e1,q4]at yg;cases yg⟩
      have ca:=ha.put Ek.toKd (fun n hn=>auO _ hn) Bx Ej rfl (i:=id) rfl;have mR:=VW Bx Ej;have fU:=jQ.1 (qv xF).1;have hq:(B.1*v.ae.pages+(aj c B.1).used+1 -1)/v.ae.pages=B.1:=by
       rw[e1,avi,auE _ _ (by omega),aum fU.2.1 (by rw[←hp];exact fU.2.2.1),avn]
      have UC:eN c n=jl c n:=by
       rw[eN];split
       ·
        rename_i ahU;have Dq:=hv.place (alM hn) h0;have as7:=(ni.1 Dq).1;have:(n -1)/v.ae.pages<0:=av2 ahU (by omega);omega
       ·
        rfl
      refine Ia nE pX GS r (id+1) (Ek.ok hk) hv (ow.trans (Ek.sub fun n hn=>atT _ hn)) ca ?_ (fun h=>?_) hr (fun j hj=>?_) (fun j m hj hm oN=>?_) (by rw[atV,dE])
      ·
       rw[Nc,mR,H5 ha Ek.toKd fun n hn=>auO _ hn,hb];refine xo ?_;have e3:=congrArg (fun l:List (List UInt8)=>l[id]?) hb;simp only[atx]at e3;rw[gA id (att _),hn]at e3;rw[atx,hn];simp only[at3]at e3⊢;rw[←e3,UC]
      ·
       have:=ht h;rw[(iP c _ _).len,K7 xF];exact this
      ·
       rw[atZ (by omega)];exact gA j (by omega)
      ·
       rw[auo]at hm;split at hm
       ·
        split at hm
        ·
         obtain rfl:=atl hm;rw[hq];exact mne
        ·
         cases hm
       ·
        exact dD j m (by omega) hm oN
def iG(c:CV):Prop:= ∀f∈c.aD,f.mask=0\/f.mask=255
theorem iG.kd{L:List Int}{c d:CV}(h:iG c)(k:Kd L c d):iG d:=by unfold iG;rw[k.iW];exact h
theorem iG.El{c:CV}(h:iG c)(hs:(br c).2=true):(br c).1.mask=0\/(br c).1.mask=255:=by
 rw[br]at hs⊢
 cases hf:c.aD.find? fun f=>decide (f.op=c.ops)with
 |none=>rw[hf]at hs;cases hs
 |some x=>exact h x (avK hf)
theorem VY(p:List UInt8):df 0 p=p:=by
 rw[df]
 conv=>rhs;rw[←List.map_id p]
 exact auw fun x _=>by simp
theorem VZ(p:List UInt8):km (df 255 p)=true:=by
 refine C0.2 fun x hx=>?_;obtain⟨y,_,rfl⟩:=auq.1 hx;apply UInt8.eq_of_toBitVec_eq;show y.toBitVec|||255#8=255#8;exact BitVec.or_allOnes
theorem Ng{p:List UInt8}(h:km p=true):(bF p).2≠0:=by
 rw[bF]
 by_cases h1:oD p.length=false
 ·
  rw[if_pos (by rw[cM,if_pos h1];decide)];rw[cM,if_pos h1];decide
 have e:cM p=(kl,0):=by rw[cM,if_neg h1,if_pos h]
 rw[e,if_neg (by decide),if_pos (show(kl,(0:Int)).1.kind=0 from rfl)];decide
theorem ahV(n:Int):km (ik n)=true:=C0.2 fun _ hx=>List.eq_of_mem_replicate hx
theorem vb{c:CV}(hb:gx c=true){k:Nat}(hk:(k:Int)<2*c.pages):((aj c 0).pages++(aj c 1).pages).getD k []=bP c k:=by
 obtain⟨l0,l1⟩:=Eh hb;have hp:2<=c.pages:=(fF.1 hb).2.2.1;rw[bP]
 by_cases h:(k:Int)<c.pages
 ·
  rw[aum (by omega) h,av4 (by omega) h,auy];simp only[List.getD];rw[atN (by omega)]
 have e1:(k:Int)/c.pages=1:=by
  have:(k:Int)=(k -c.pages)+1*c.pages:=by omega
  rw[this,auE _ _ (by omega),aum (by omega) (by omega)];rfl
 have e2:(k:Int)%c.pages=k -c.pages:=by
  have:(k:Int)=(k -c.pages)+1*c.pages:=by omega
  rw[this,avW,av4 (by omega) (by omega)];omega
 rw[e1,e2];simp only[List.getD];rw[atz (by omega)];congr 2;omega
theorem V0{c:CV}(hb:gx c=true){i:Int}(h0:0<=i)(h1:i<2*c.pages)(hi:(bF (bP c i)).2=0)(iY: ∀k,0<=k->k<2*c.pages->(bF (bP c k)).2=0-> ¬((bF (bP c i)).1.gen<(bF (bP c k)).1.gen\/((bF (bP c k)).1.gen=(bF (bP c i)).1.gen/\i<k))):
  bW c=(i,(bF (bP c i)).1,0):=by
 obtain⟨l0,l1⟩:=Eh hb;obtain⟨n,rfl⟩: ∃n:Nat,i=n:=⟨i.toNat,by omega⟩;have hl:((aj c 0).pages++(aj c 1).pages).length=(aj c 0).pages.length+(aj c 1).pages.length:=adr;have hn:n<((aj c 0).pages++(aj c 1).pages).length:=by omega
 have:=SA hn (G0.2 ⟨by rw[vb hb h1];exact hi,fun k hk hv=>by
  rw[vb hb h1,vb hb (by omega)];rw[vb hb (by omega)]at hv;have:=iY k (by omega) (by omega) hv;omega⟩)
 rw[bW,this,vb hb h1]
theorem V1{c:CV}(hb:gx c=true)(h:(bW c).2.2=0):bF (bP c (bW c).1)=((bW c).2.1,0)/\ ∀k,0<=k->k<2*c.pages->(bF (bP c k)).2=0-> ¬((bW c).2.1.gen<(bF (bP c k)).1.gen\/((bF (bP c k)).1.gen=(bW c).2.1.gen/\(bW c).1<k)):=by
 obtain⟨l0,l1⟩:=Eh hb;have hl:((aj c 0).pages++(aj c 1).pages).length=(aj c 0).pages.length+(aj c 1).pages.length:=adr
 by_cases hex: ∃i,i<((aj c 0).pages++(aj c 1).pages).length/\y9 ((aj c 0).pages++(aj c 1).pages) i=true
 ·
  obtain⟨i,hi,V2⟩:=hex;have e:=SA hi V2;obtain⟨g1,g2⟩:=G0.1 V2;rw[vb hb (by omega)]at e g1;rw[bW,e];refine⟨by rw[←g1],fun k k0 k1 hv=>?_⟩;obtain⟨n,rfl⟩: ∃n:Nat,k=n:=⟨k.toNat,by omega⟩;have:=g2 n (by omega) (by rw[vb hb k1];exact hv);rw[vb hb k1,vb hb (by omega)]at this;simp only;omega
 have:=adD (l:=(aj c 0).pages++(aj c 1).pages) fun i hi=>by
  cases hq:y9 ((aj c 0).pages++(aj c 1).pages) i with
  |false=>rfl
  |true=>exact absurd ⟨i,hi,hq⟩ hex
 rw[bW,this]at h;simp only at h;split at h<;>cases h
structure Wv(g:Nat)(at_:List Int)(last:Int)(a:List Int)(c:CV):Prop where
 bears:gx c=true
 A8: ∃i:Int,0<=i/\i<2*c.pages/\bF (bP c i)=(⟨g,at_⟩,0)/\i/c.pages=last/\i%c.pages<(aj c last).used/\
  ∀k,0<=k->k<2*c.pages->(bF (bP c k)).2=0->(bF (bP c k)).1.gen<g\/((bF (bP c k)).1.gen=g/\k<=i)\/(bF (bP c k)=(⟨g+1,a⟩,0)/\k%c.pages<(aj c (k/c.pages)).used)
theorem fq.wv{x:VV}(h:fq x)(a:List Int):Wv x.gen x.at_ x.last a x.ae:=by
 obtain⟨h1,h2⟩:=V1 h.bears h.roots;have hr:=VQ h.bears;refine⟨h.bears,(bW x.ae).1,hr.1,hr.2,?_,h.last,by rw[←h.last];exact h.used,fun k k0 k1 hv=>?_⟩
 ·
  rw[h1,←h.at_,←h.gen]
 have:=h2 k k0 k1 hv;rw[h.gen]at this;omega
theorem Wv.step{g:Nat}{at_ a:List Int}{last:Int}{c d:CV}(h:Wv g at_ last a c)(hb:gx d=true)(hP:d.pages=c.pages)
  (hl: ∀i,0<=i->i/c.pages=last->i%c.pages<(aj c last).used->bP d i=bP c i/\i%c.pages<(aj d last).used)
  (hk: ∀k,0<=k->k<2*c.pages->(bF (bP d k)).2=0->(bP d k=bP c k/\(k%c.pages<(aj c (k/c.pages)).used->k%c.pages<(aj d (k/c.pages)).used))\/(bF (bP d k)=(⟨g+1,a⟩,0)/\k%c.pages<(aj d (k/c.pages)).used)):Wv g at_ last a d:=by
 obtain⟨i,i0,i1,i2,i3,i4,i5⟩:=h.A8;obtain⟨e1,e2⟩:=hl i i0 i3 i4;refine⟨hb,i,i0,by rw[hP];exact i1,by rw[e1];exact i2,by rw[hP];exact i3,by rw[hP];exact e2,fun k k0 k1 hv=>?_⟩;rw[hP]at k1⊢;rcases hk k k0 k1 hv with⟨q1,q2⟩|q
 ·
  rw[q1]at hv⊢;rcases i5 k k0 k1 hv with r|r|r
  ·
   exact .inl r
  ·
   exact .inr (.inl r)
  ·
   exact .inr (.inr ⟨r.1,q2 r.2⟩)
 ·
  exact .inr (.inr q)
theorem Wv.V3{g:Nat}{at_ a:List Int}{last:Int}{c:CV}(h:Wv g at_ last a c)(hp:Pl c at_)(eY: ∀k,0<=k->k<2*c.pages->bF (bP c k)≠(⟨g+1,a⟩,0)):fq ⟨c,at_,g,last⟩:=by
 obtain⟨i,i0,i1,i2,i3,i4,i5⟩:=h.A8;have e:=V0 h.bears i0 i1 (by rw[i2]) (fun k k0 k1 hv=>by
  rw[i2];rcases i5 k k0 k1 hv with r|r|r
  ·
   simp only;omega
  ·
   simp only;omega
  exact absurd r.1 (eY k k0 k1))
 rw[i2]at e;exact⟨h.bears,by show(bW c).2.2=0;rw[e],by show(bW c).1%c.pages<(aj c ((bW c).1/c.pages)).used;rw[e];simp only;rw[i3];exact i4,hp,by show(bW c).2.1.at_=at_;rw[e],by show(bW c).2.1.gen=g;rw[e],by show(bW c).1/c.pages=last;rw[e];exact i3⟩
theorem V4{P:Int->Prop}{m:Int}: ∀(n:Nat),(∃k,0<=k/\k<m/\P k/\m -k<=n)-> ∃i,0<=i/\i<m/\P i/\ ∀k,k<m->P k->k<=i
 |0,⟨k,_,h1,_,h3⟩=>by omega
 |n+1,⟨k,h0,h1,h2,h3⟩=>by
  by_cases h: ∃j,0<=j/\j<m/\P j/\m -j<=n
  ·
   exact V4 n h
  refine⟨k,h0,h1,h2,fun j hj hP=>?_⟩;apply atO;intro bn;exact h ⟨j,by omega,hj,hP,by omega⟩
theorem Wv.V5{g:Nat}{at_ a:List Int}{last:Int}{c:CV}(h:Wv g at_ last a c)(hp:Pl c a){k0:Int}(q0:0<=k0)(q1:k0<2*c.pages)(q2:bF (bP c k0)=(⟨g+1,a⟩,0)):
  ∃i,fq ⟨c,a,g+1,i/c.pages⟩/\0<=i/\i<2*c.pages/\bF (bP c i)=(⟨g+1,a⟩,0)/\ ∀k,k<2*c.pages->bF (bP c k)=(⟨g+1,a⟩,0)->k<=i:=by
 obtain⟨i,i0,i1,i2,i3⟩:=V4 (P:=fun k=>bF (bP c k)=(⟨g+1,a⟩,0)) (m:=2*c.pages) (2*c.pages -k0).toNat ⟨k0,q0,q1,q2,by omega⟩;obtain⟨j,j0,j1,j2,j3,j4,j5⟩:=h.A8;have e:=V0 h.bears i0 i1 (by rw[i2]) (fun k k0 k1 hv=>by
  rw[i2];rcases j5 k k0 k1 hv with r|r|r
  ·
   simp only;omega
  ·
   simp only;omega
  ·
   have:=i3 k k1 r.1;rw[r.1];simp only;omega)
 rw[i2]at e;have hu:i%c.pages<(aj c (i/c.pages)).used:=by
  rcases j5 i i0 i1 (by rw[i2])with r|r|r
  ·
   rw[i2]at r;simp only at r;omega
  ·
   rw[i2]at r;simp only at r;omega
  ·
   exact r.2
 exact⟨i,⟨h.bears,by show(bW c).2.2=0;rw[e],by show(bW c).1%c.pages<(aj c ((bW c).1/c.pages)).used;rw[e];exact hu,hp,by show(bW c).2.1.at_=a;rw[e],by show(bW c).2.1.gen=g+1;rw[e],by show(bW c).1/c.pages=_;rw[e]⟩,i0,i1,i2,i3⟩
theorem Wv.some{g:Nat}{at_ a:List Int}{last:Int}{c:CV}(h:Wv g at_ last a c)(h1:Pl c at_)(h2:Pl c a): ∃u,fq u/\u.ae=c/\(u=⟨c,at_,g,last⟩\/(u.at_=a/\u.gen=g+1)):=by
 by_cases hex: ∃k,0<=k/\k<2*c.pages/\bF (bP c k)=(⟨g+1,a⟩,0)
 ·
  obtain⟨k,k0,k1,k2⟩:=hex;obtain⟨i,hi,_⟩:=h.V5 h2 k0 k1 k2;exact⟨_,hi,rfl, .inr ⟨rfl,rfl⟩⟩
 exact⟨_,h.V3 h1 fun k k0 k1 e=>hex ⟨k,k0,k1,e⟩,rfl, .inl rfl⟩
theorem wC{c:CV}{b e k:Int}:(aj (iN c b e) k).pages=(aj c k).pages/\(aj (iN c b e) k).used=(aj c k).used:=by
 rw[iN];split
 ·
  exact VI
 exact⟨rfl,rfl⟩
theorem Ib{c:CV}{b e k:Int}:bP (iN c b e) k=bP c k:=by
 rw[bP,bP,(GK c b e).pages,wC.1]
theorem V6{c:CV}{b k:Int}(ca:iG c)(hk:0<=k)(hp:1<=c.pages)(u6:k/c.pages=b)(hv:(bF (bP (du c b) k)).2=0):bP (du c b) k=bP c k/\(k%c.pages<(aj c b).used->k%c.pages<(aj (du c b) b).used):=by
 rw[du,Ib]at hv⊢;rw[wC.2]
 by_cases h:pF c b=true/\c.off=false/\(aj c b).bad=false
 ·
  have hh:=(qp.1 h.1).1;have e:gf c b=lj c b:=if_pos h;have eb:aj (lj c b) b={aj c b with used:=if(br c).2=true then c.pages else 0,aU:=(aj c b).aU+1,pages:=sY c (aj c b).pages}:=rf hh
  have oN:0<=k%c.pages:=avt _ (by omega);have oT:k%c.pages<c.pages:=avx _ (by omega);have DH:=(fu.1 (rb hh)).1;have Em:bP (lj c b) k=(sY c (aj c b).pages).getD (k%c.pages).toNat []:=by
   show(aj (lj c b) (k/c.pages)).pages.getD _ []=_;rw[u6,eb];rfl
  obtain⟨x,hx⟩: ∃x,(aj c b).pages[(k%c.pages).toNat]? =some x:=⟨_,atp (by omega)⟩;have ec:bP c k=x:=by rw[bP,u6];simp[List.getD,hx]
  rw[e]at hv⊢;rw[Em,sY]at hv⊢
  by_cases hs:(br c).2=true
  ·
   rw[if_pos hs]at hv⊢;have eg:((aj c b).pages.map (df (br c).1.mask)).getD (k%c.pages).toNat []=df (br c).1.mask x:=by simp[List.getD,hx]
   rw[eg]at hv⊢;rcases ca.El hs with m|m
   ·
    rw[m,VY,ec,eb];exact⟨rfl,fun _=>by simp only;rw[if_pos hs];exact oT⟩
   rw[m]at hv;exact absurd hv (Ng (VZ x))
  rw[if_neg hs]at hv;have eg:((aj c b).pages.map fun _=>ik c.size).getD (k%c.pages).toNat []=ik c.size:=by simp[List.getD,hx]
  rw[eg]at hv;exact absurd hv (Ng (ahV _))
 rw[gf,if_neg h];exact⟨rfl,id⟩
theorem Wv.erase{g:Nat}{at_ a:List Int}{last:Int}{c:CV}(h:Wv g at_ last a c)(ca:iG c){b:Int}(hb:b≠last)(ru:0<=b)(kI:0<=last):Wv g at_ last a (du c b):=by
 have hP:=(xv c b).pages;have hp:2<=c.pages:=(fF.1 h.bears).2.2.1;have nX:gx (du c b)=true:=by
  obtain⟨h1,h2,h3,h4⟩:=fF.1 h.bears;exact fF.2 ⟨C6 h1 b,by rw[(xv c b).len];exact h2,by rw[hP];exact h3,by rw[(xv c b).size];exact h4⟩
 have tI: ∀k,0<=k->k≠b->(aj (du c b) k).pages=(aj c k).pages/\(aj (du c b) k).used=(aj c k).used:=fun k k0 hk=>by
  rw[du,wC.1,wC.2,BE (by omega)];exact⟨rfl,rfl⟩
 refine h.step nX hP (fun i i0 i1 i2=>?_) fun k k0 k1 hv=> .inl ?_
 ·
  obtain⟨e1,e2⟩:=tI last kI (fun e=>hb e.symm);exact⟨by rw[bP,bP,hP,i1,e1],by rw[e2];exact i2⟩
 by_cases e:k/c.pages=b
 ·
  have:=V6 ca k0 (by omega) e hv;rw[e];exact this
 obtain⟨e1,e2⟩:=tI (k/c.pages) (avs k0 (by omega)) e;exact⟨by rw[bP,bP,hP,e1],by rw[e2];exact id⟩
theorem ahW{c:CV}{b k:Int}{p:List UInt8}(ca:iG c)(hk:0<=k)(hp:1<=c.pages)(u6:k/c.pages=b)(hv:(bF (bP (bx c b p) k)).2=0):
  (bP (bx c b p) k=bP c k/\(k%c.pages<(aj c b).used->k%c.pages<(aj (bx c b p) b).used))\/(bP (bx c b p) k=p/\k%c.pages<(aj (bx c b p) b).used):=by
 rw[bx,Ib]at hv⊢;rw[wC.2]
 by_cases h:oC c b (aj c b).used p=true/\c.off=false/\(aj c b).bad=false/\(aj c b).used=(aj c b).used
 ·
  obtain⟨hh,u0,u1,_,_⟩:=jQ.1 h.1;have e:gF c b (aj c b).used p=iL c b (aj c b).used p:=if_pos h;have eb:aj (iL c b (aj c b).used p) b={aj c b with used:=(aj c b).used+1,pages:=(aj c b).pages.set (aj c b).used.toNat (pE c p)}:=rf hh
  have oN:0<=k%c.pages:=avt _ (by omega);have oT:k%c.pages<c.pages:=avx _ (by omega);have DH:=(fu.1 (rb hh)).1;have Em:bP (iL c b (aj c b).used p) k=((aj c b).pages.set (aj c b).used.toNat (pE c p)).getD (k%c.pages).toNat []:=by
   show(aj (iL c b (aj c b).used p) (k/c.pages)).pages.getD _ []=_;rw[u6,eb];rfl
  rw[e]at hv⊢;rw[Em]at hv⊢
  by_cases hj:k%c.pages=(aj c b).used
  ·
   have eg:((aj c b).pages.set (aj c b).used.toNat (pE c p)).getD (k%c.pages).toNat []=pE c p:=by
    rw[hj];simp only[List.getD];rw[atE (by omega)];rfl
   rw[eg]at hv⊢;right;refine⟨?_,by rw[eb];simp only;omega⟩;rw[pE]at hv⊢;split
   ·
    rename_i hs;rw[if_pos hs]at hv;rcases ca.El hs with m|m
    ·
     rw[m]at hv;exact absurd hv (Ng (VZ p))
    ·
     rw[m];exact VY p
   ·
    rfl
  ·
   left;refine⟨?_,fun bn=>by rw[eb];simp only;omega⟩;simp only[List.getD];rw[atZ (by omega),bP,u6];rfl
 ·
  left;rw[gF,if_neg h];exact⟨rfl,id⟩
theorem ahX{c:CV}{b k:Int}{p:List UInt8}(hp:1<=c.pages)(u6:k/c.pages=b)(hu:k%c.pages<(aj c b).used):bP (bx c b p) k=bP c k/\k%c.pages<(aj (bx c b p) b).used:=by
 rw[bx,Ib,wC.2]
 by_cases h:oC c b (aj c b).used p=true/\c.off=false/\(aj c b).bad=false/\(aj c b).used=(aj c b).used
 ·
  obtain⟨hh,u0,u1,_,_⟩:=jQ.1 h.1;have e:gF c b (aj c b).used p=iL c b (aj c b).used p:=if_pos h;have eb:aj (iL c b (aj c b).used p) b={aj c b with used:=(aj c b).used+1,pages:=(aj c b).pages.set (aj c b).used.toNat (pE c p)}:=rf hh
  have oN:0<=k%c.pages:=avt _ (by omega);have Em:bP (iL c b (aj c b).used p) k=((aj c b).pages.set (aj c b).used.toNat (pE c p)).getD (k%c.pages).toNat []:=by
   show(aj (iL c b (aj c b).used p) (k/c.pages)).pages.getD _ []=_;rw[u6,eb];rfl
  rw[e,Em,eb];refine⟨?_,by simp only;omega⟩;simp only[List.getD];rw[atZ (by omega),bP,u6];rfl
 rw[gF,if_neg h];exact⟨rfl,hu⟩
theorem Wv.prog{g:Nat}{at_ a:List Int}{last:Int}{c:CV}{p:List UInt8}(h:Wv g at_ last a c)(ca:iG c){b:Int}(ru:0<=b)(kI:0<=last)(hr:bF p=(⟨g+1,a⟩,0)):Wv g at_ last a (bx c b p):=by
 have hP:=(iP c b p).pages;have hp:2<=c.pages:=(fF.1 h.bears).2.2.1;have nX:gx (bx c b p)=true:=by
  obtain⟨h1,h2,h3,h4⟩:=fF.1 h.bears;exact fF.2 ⟨lZ h1 b p,by rw[(iP c b p).len];exact h2,by rw[hP];exact h3,by rw[(iP c b p).size];exact h4⟩
 have tI: ∀k,0<=k->k≠b->(aj (bx c b p) k).pages=(aj c k).pages/\(aj (bx c b p) k).used=(aj c k).used:=fun k k0 hk=>by
  rw[bx,wC.1,wC.2,VJ (by omega)];exact⟨rfl,rfl⟩
 refine h.step nX hP (fun i i0 i1 i2=>?_) fun k k0 k1 hv=>?_
 ·
  by_cases e:last=b
  ·
   have:=ahX (p:=p) (show 1<=c.pages by omega) (i1.trans e) (by rw[←e];exact i2);rw[e];exact this
  obtain⟨e1,e2⟩:=tI last kI e;exact⟨by rw[bP,bP,hP,i1,e1],by rw[e2];exact i2⟩
 by_cases e:k/c.pages=b
 ·
  rcases ahW ca k0 (by omega) e hv with q|q
  ·
   left;rw[e];exact q
  right;rw[q.1,e];exact⟨hr,q.2⟩
 obtain⟨e1,e2⟩:=tI (k/c.pages) (avs k0 (by omega)) e;exact .inl ⟨by rw[bP,bP,hP,e1],by rw[e2];exact id⟩
def Ic(c:CV):Prop:=cS<=c.ops\/ ∃b,cS<=(aj c b).aU
def tJ(g:Nat)(a:List Int)(c:CV):Prop:= ∀k,0<=k->k<2*c.pages->bF (bP c k)≠(⟨g+1,a⟩,0)
theorem ahY{c:CV}(h:c.aD=[]):(br c).2=false:=by rw[br,h];rfl
theorem V7{c:CV}{b:Int}{p:List UInt8}(h:c.aD=[])(he:bA c b p≠0):gF c b (aj c b).used p=c:=by
 rw[gF,if_neg];rintro⟨h1,h2,h3,h4⟩;apply he;rw[bA,kj,if_pos h1,if_neg (by rw[h2];simp),if_neg (by rw[h3];simp),if_neg (by rw[ahY h];simp)]
theorem tJ.erase{g:Nat}{a:List Int}{c:CV}(h:tJ g a c)(hb:gx c=true)(ca:iG c){b:Int}(ru:0<=b):tJ g a (du c b):=by
 have hP:=(xv c b).pages;have hp:2<=c.pages:=(fF.1 hb).2.2.1;intro k k0 k1 he;rw[hP]at k1
 by_cases e:k/c.pages=b
 ·
  have:=(V6 ca k0 (by omega) e (by rw[he])).1;rw[this]at he;exact h k k0 k1 he
 have:bP (du c b) k=bP c k:=by
  have hk:=avs k0 (show 0<=c.pages by omega);rw[bP,bP,hP,du,wC.1,BE (by omega)]
 rw[this]at he;exact h k k0 k1 he
theorem ahZ{c:CV}{b:Int}(q:dY c b=1):pF c b=false:=by
 cases ho:pF c b with
 |false=>rfl
 |true=>
  exfalso;rw[dY,if_pos ho]at q
  by_cases h1:c.off=true
  ·
   rw[if_pos h1]at q;cases q
  rw[if_neg h1]at q
  by_cases h2:(aj c b).bad=true
  ·
   rw[if_pos h2]at q;cases q
  rw[if_neg h2]at q
  by_cases h3:(br c).2=true
  ·
   rw[if_pos h3,lW]at q;split at q<;>cases q
  rw[if_neg h3]at q;cases q
theorem ah0{g:Nat}{at_ a:List Int}{last:Int}{c:CV}(h:Wv g at_ last a c)(ca:iG c)(hl:last=0\/last=1):
  (∀L,Kd L c (aY c last).1)/\Wv g at_ last a (aY c last).1/\(tJ g a c->tJ g a (aY c last).1)/\((aY c last).2.2=7->(aY c last).1.off=true)/\
   ((aY c last).2.2=0->((aY c last).2.1=0\/(aY c last).2.1=1)/\0<ei (aY c last).1 (aY c last).2.1)/\((aY c last).2.2≠0->(aY c last).2.2=7\/(aY c last).2.2=9\/((aY c last).2.2=1/\Ic (aY c last).1)):=by
 have hk:=(fF.1 h.bears).1;have h4:=(fF.1 h.bears).2.1;have z7: ∀{P:Prop},(0:Int)=7->P:=fun h=>absurd h (by decide);rw[aY]
 by_cases h1:0<ei c last
 ·
  rw[if_pos h1];exact⟨fun L=> .dk _ _,h,id,fun h=>z7 h,fun _=>⟨hl,h1⟩,fun h=>absurd rfl h⟩
 ·
  rw[if_neg h1]
  by_cases h2:0<ei c (1 -last)
  ·
   rw[if_pos h2];exact⟨fun L=> .dk _ _,h,id,fun h=>z7 h,fun _=>⟨by simp only;omega,h2⟩,fun h=>absurd rfl h⟩
  ·
   rw[if_neg h2]
   by_cases h3:(aj c (1 -last)).bad=true
   ·
    rw[if_pos h3];exact⟨fun L=> .dk _ _,h,id,fun h=>absurd (show(9:Int)=7 from h) (by decide),fun h=>absurd (show(9:Int)=0 from h) (by decide),fun _=> .inr (.inl rfl)⟩
   ·
    rw[if_neg h3];refine⟨fun L=>ahK (by omega),h.erase ca (by omega) (by omega) (by omega),fun g=>g.erase h.bears ca (by omega),VN,fun he=>⟨by simp only;omega,?_⟩,fun he=>?_⟩
    ·
     obtain⟨e1,e2,e3,e4,e5⟩:=Db he;have hh:=(qp.1 e1).1;have hd:=eU hk;show 0<ei (du c (1 -last)) (1 -last);rw[e5,ei,lj,rf hh,e4,e3];simp only[at1,if_false];omega
    ·
     simp only at he;rcases K9 c (1 -last)with q|q|q|q
     ·
      exact absurd q he
     ·
      refine .inr (.inr ⟨q,?_⟩);simp only;have eY:=ahZ q;have ah1:du c (1 -last)=c:=by rw[du,q,iN,if_neg (by decide),gf,if_neg (by rw[eY];simp)]
      rw[ah1];have hh:ig c (1 -last)=true:=ij.2 ⟨hk,by omega,by omega⟩
      by_cases ho:c.ops<cS
      ·
       right;refine⟨1 -last,?_⟩;apply atO;intro hw;rw[qp.2 ⟨hh,ho,by omega⟩]at eY;cases eY
      ·
       exact .inl (by omega)
     ·
      exact .inl q
     ·
      exact .inr (.inl q)
theorem ah2{c:CV}{b:Int}{p:List UInt8}(hh:ig c b=true)(hf:0<ei c b)(hl:(p.length:Int)=c.size)(h:bA c b p=1):cS<=c.ops/\gF c b (aj c b).used p=c:=by
 have eY:oC c b (aj c b).used p=false:=by
  cases ho:oC c b (aj c b).used p with
  |false=>rfl
  |true=>
   rw[bA,kj,if_pos ho]at h;split at h
   ·
    cases h
   split at h
   ·
    cases h
   split at h
   ·
    rw[lW]at h;split at h<;>cases h
   cases h
 have hu:=(fu.1 (rb hh)).2.1;have hb:=GP hf;rw[ei,if_neg (by rw[hb];simp)]at hf;refine⟨?_,by rw[gF,if_neg (by rw[eY];simp)]⟩;apply atO;intro hw;rw[jQ.2 ⟨hh,hu,by omega,hl,by omega⟩]at eY;cases eY
theorem tJ.prog{g:Nat}{a:List Int}{c:CV}{b:Int}{p:List UInt8}(h:tJ g a c)(hf:c.aD=[])(he:bA c b p≠0):tJ g a (bx c b p):=by
 intro k k0 k1 e;rw[bx,Ib,V7 hf he]at e;rw[bx,(GK _ _ _).pages,V7 hf he]at k1;exact h k k0 k1 e
theorem V8{p:List UInt8}: ∀(l:List (List UInt8)) (m:Nat),m<=l.foldl (fun m p=>max m (lr p)) m/\(p∈l->lr p<=l.foldl (fun m p=>max m (lr p)) m)
 |[],m=>⟨Nat.le_refl _,fun h=>by cases h⟩
 |q::r,m=>by
  obtain⟨h1,h2⟩:=V8 (p:=p) r (max m (lr q));refine⟨by rw[auQ];omega,fun h=>?_⟩;rw[auQ];rcases atv.1 h with rfl|h
  ·
   omega
  exact h2 h
theorem Nh{M:Nat}: ∀(l:List (List UInt8)) (m:Nat),m<=M->(∀p∈l,lr p<=M)->l.foldl (fun m p=>max m (lr p)) m<=M
 |[],m,h,_=>h
 |q::r,m,h,hp=>by
  rw[auQ];exact Nh r _ (by have:=hp q at2;omega) fun p iI=>hp p (atF _ iI)
theorem Wv.last{g:Nat}{at_ a:List Int}{last:Int}{c:CV}(h:Wv g at_ last a c)(hp:Pl c a){b:Int}(hb:b=0\/b=1){k0:Int}(q0:0<=k0)(q1:k0/c.pages=b)(q2:bF (bP c k0)=(⟨g+1,a⟩,0)):
  fq ⟨c,a,g+1,if l6 c 1=g+1 then 1 else b⟩:=by
 have jF:2<=c.pages:=(fF.1 h.bears).2.2.1;obtain⟨l0,l1⟩:=Eh h.bears;have bn: ∀k:Int,k/c.pages<2->k<2*c.pages:=fun k hk=>by
  apply atO;intro hn;have:2<=k/c.pages:=by
   have:=Int.ediv_le_ediv (show 0<c.pages by omega) (show 2*c.pages<=k by omega);rwa [Int.mul_ediv_cancel _ (by omega)]at this
  omega
 obtain⟨i,hR,i0,i1,i2,i3⟩:=h.V5 hp q0 (bn k0 (by omega)) q2;have Mr:i/c.pages=0\/i/c.pages=1:=by
  have h1:=avs i0 (show 0<=c.pages by omega);have h2:i/c.pages<2:=Int.ediv_lt_of_lt_mul (by omega) i1;omega
 have hle: ∀k,0<=k->k<2*c.pages->lr (bP c k)<=g+1:=fun k k0 k1=>by
  rw[lr];split
  ·
   rename_i hv;obtain⟨j,_,_,_,_,_,j5⟩:=h.A8;rcases j5 k k0 k1 hv with r|r|r
   ·
    omega
   ·
    omega
   ·
    rw[r.1];exact att _
  ·
   omega
 have V9: ∀p∈(aj c 1).pages,∃k,c.pages<=k/\k<2*c.pages/\bP c k=p:=fun p yg=>by
  obtain⟨j,hj⟩:=atH yg;have j9:=(zz.1 hj).1;refine⟨c.pages+j,by omega,by omega,?_⟩;have:=vb h.bears (k:=(aj c 0).pages.length+j) (by omega);rw[show(((aj c 0).pages.length+j:Nat):Int)=c.pages+j by omega]at this;rw[←this];simp only[List.getD];rw[atz (by omega),aua,hj];rfl
 have ah3:i/c.pages=(if l6 c 1=g+1 then 1 else b):=by
  rcases Mr with e|e
  ·
   have fg:i<c.pages:=by
    apply atO;intro hn;have:=Int.ediv_le_ediv (show 0<c.pages by omega) (show c.pages<=i by omega);rw[Int.ediv_self (by omega)]at this;omega
   have hg:l6 c 1<=g:=by
    refine Nh _ 0 (atL _) fun p yg=>?_;obtain⟨k,CP,oh,rfl⟩:=V9 p yg;rw[lr];split
    ·
     rename_i hv;obtain⟨j,_,_,_,_,_,j5⟩:=h.A8;rcases j5 k (by omega) oh hv with r|r|r
     ·
      omega
     ·
      omega
     ·
      have:=i3 k oh r.1;omega
    ·
     omega
   rw[if_neg (by omega),e];have as8:=i3 k0 (bn k0 (by omega)) q2;have:k0/c.pages=0:=aum q0 (by omega);omega
  ·
   have fg:c.pages<=i:=by
    apply atO;intro hn;have:i/c.pages=0:=aum i0 (by omega);omega
   have hg:l6 c 1=g+1:=by
    have h1:l6 c 1<=g+1:=Nh _ 0 (atL _) fun p yg=>by
     obtain⟨k,CP,oh,rfl⟩:=V9 p yg;exact hle k (by omega) oh
    have h2:bP c i∈(aj c 1).pages:=by
     rw[bP,e];have oN:0<=i%c.pages:=avt _ (by omega);have oT:i%c.pages<c.pages:=avx _ (by omega);have hj:(i%c.pages).toNat<(aj c 1).pages.length:=by omega
     simp only[List.getD];rw[atp hj];exact ava hj
    have h3:=(V8 (p:=bP c i) (aj c 1).pages 0).2 h2;have h4:lr (bP c i)=g+1:=by rw[lr,if_pos (by rw[i2]),i2]
    have h5:l6 c 1=(aj c 1).pages.foldl (fun m p=>max m (lr p)) 0:=rfl;omega
   rw[if_pos hg,e]
 rw[←ah3];exact hR
theorem Wa: ∀(n:Nat) {x:WV} {a:List Int} {b:List UInt8},cY x->Wv x.v.gen x.v.at_ x.v.last a x.v.ae->Pl x.v.ae a->iG x.v.ae->bF b=(⟨x.v.gen+1,a⟩,0)->(b.length:Int)=x.v.ae.size->(cS -x.v.ae.ops).toNat<n->
  (∀L,Kd L x.v.ae (gh n x a b).1.v.ae)/\((gh n x a b).2=0->fq (gh n x a b).1.v/\(gh n x a b).1.v.at_=a)/\
  ((gh n x a b).2≠0->(gh n x a b).1=x.on (gh n x a b).1.v.ae/\Wv x.v.gen x.v.at_ x.v.last a (gh n x a b).1.v.ae/\(x.v.ae.aD=[]->tJ x.v.gen a x.v.ae->tJ x.v.gen a (gh n x a b).1.v.ae)/\
   ((gh n x a b).2=7\/(gh n x a b).2=9\/((gh n x a b).2=1/\Ic (gh n x a b).1.v.ae)))/\((gh n x a b).2=7->(gh n x a b).1.v.ae.off=true)
 |0,x,a,b,_,_,_,_,_,_,hn=>by omega
 |n+1,x,a,b,hx,hw,ha,ca,hr,dM,hn=>by
  have hl:=hx.last;obtain⟨k1,k2,k3,k4,k5,k6⟩:=ah0 hw ca hl;obtain⟨o1,o2,o3,o4⟩:=GQ (last:=x.v.last) hx.ae hl;have kI:0<=x.v.last:=by omega
  rw[gh]
  by_cases h0:(aY x.v.ae x.v.last).2.2≠0
  ·
   rw[if_pos h0];exact⟨k1,fun h=>absurd h h0,fun _=>⟨rfl,k2,fun _ g=>k3 g,k6 h0⟩,k4⟩
  ·
   rw[if_neg h0];obtain⟨g1,g2⟩:=k5 (by simpa using h0);have ah4:iG (aY x.v.ae x.v.last).1:=ca.kd (k1 []);have hh:ig (aY x.v.ae x.v.last).1 (aY x.v.ae x.v.last).2.1=true:=by
    have:=(fF.1 k2.bears).2.1;exact ij.2 ⟨o1,by omega,by omega⟩
   have ru:0<=(aY x.v.ae x.v.last).2.1:=by omega
   have fx:=k2.prog ah4 ru kI hr;have wD: ∀L,Kd L x.v.ae (bx (aY x.v.ae x.v.last).1 (aY x.v.ae x.v.last).2.1 b):=fun L=>(k1 L).trans H2
   by_cases h1:bA (aY x.v.ae x.v.last).1 (aY x.v.ae x.v.last).2.1 b=0
   ·
    rw[if_pos h1];refine⟨wD,fun _=>⟨?_,rfl⟩,fun h=>absurd rfl h,fun h=>absurd (show(0:Int)=7 from h) (by decide)⟩;have hz:=qv h1;obtain⟨j1,j2,j3,j4,j5⟩:=jQ.1 hz.1;have hP:=(iP (aY x.v.ae x.v.last).1 (aY x.v.ae x.v.last).2.1 b).pages;generalize(aY x.v.ae x.v.last).1=c at*;generalize(aY x.v.ae x.v.last).2.1=B at*;have hd:(B*c.pages+(aj c B).used)/c.pages=B:=by
     rw[avi,auE _ _ (by omega),aum j2 j3,avn]
    have hm:(B*c.pages+(aj c B).used)%c.pages=(aj c B).used:=by
     rw[avi,avW,av4 j2 j3]
    have DH:=(fu.1 (rb j1)).1;have qF:bP (bx c B b) (B*c.pages+(aj c B).used)=b:=by
     rw[hz.2.2.2.2];show(aj _ ((B*c.pages+(aj c B).used)/c.pages)).pages.getD ((B*c.pages+(aj c B).used)%c.pages).toNat []=b;rw[hd,hm,iL,rf j1];simp only[List.getD];rw[atE (by omega),pE,hz.2.2.2.1];rfl
    have:0<=B*c.pages:=au6 ru (by omega);exact fx.last (k0:=B*c.pages+(aj c B).used) (ha.kd (wD a) fun _ g=>g) g1 (by omega) (by rw[hP,hd]) (by rw[qF];exact hr)
   ·
    rw[if_neg h1]
    by_cases h9:bA (aY x.v.ae x.v.last).1 (aY x.v.ae x.v.last).2.1 b≠9
    ·
     rw[if_pos h9];refine⟨wD,fun h=>absurd h h1,fun _=>⟨rfl,fx,fun hf eY=>(k3 eY).prog (by rw[(k1 []).iW];exact hf) h1,?_⟩,H4⟩;rcases Dc (aY x.v.ae x.v.last).1 (aY x.v.ae x.v.last).2.1 (aj (aY x.v.ae x.v.last).1 (aY x.v.ae x.v.last).2.1).used b with q|q|q|q
     ·
      exact absurd q h1
     ·
      obtain⟨t1,t2⟩:=ah2 hh g2 (by rw[dM,o2.size]) q;refine .inr (.inr ⟨q, .inl ?_⟩);simp only[WV.on];rw[bx,C7,t2];exact t1
     ·
      exact .inl q
     ·
      exact absurd q h9
    ·
     rw[if_neg h9];have e9:bA (aY x.v.ae x.v.last).1 (aY x.v.ae x.v.last).2.1 b=9:=by simpa using h9
     have ho:=uA (GP g2) (p:=b) (.inl e9);have bN:=lZ o1 (aY x.v.ae x.v.last).2.1 b;have fB:=o2.trans (iP (aY x.v.ae x.v.last).1 (aY x.v.ae x.v.last).2.1 b);have hle:=tc bN;have fN:=hx.on bN fB;obtain⟨t1,t2,t3,t4⟩:=Wa n (x:=x.on (bx (aY x.v.ae x.v.last).1 (aY x.v.ae x.v.last).2.1 b)) (a:=a) (b:=b) fN fx (ha.kd (wD a) fun _ g=>g) (ca.kd (wD [])) hr (by rw[dM];exact fB.size.symm) (by simp only[WV.on];omega);refine⟨fun L=>(wD L).trans (t1 L),t2,fun h=>?_,t4⟩;obtain⟨s1,s2,s3,s4⟩:=t3 h;refine⟨by rw[s1,Sk];rfl,s2,fun hf eY=>s3 (by rw[←hf];exact(wD []).iW) ((k3 eY).prog (by rw[(k1 []).iW];exact hf) h1),s4⟩
structure Sf(x:WV)(bs:List (List UInt8))(y:WV)(e:Int):Prop where
 kd:Kd [] x.v.ae y.v.ae
 len:y.v.at_.length=x.v.at_.length
 cK:e=0->fq y.v/\cE y.v=bs
 err:e≠0->(e=7\/e=9\/(e=1/\Ic y.v.ae))\/(fq y.v/\cE y.v=cE x.v)
 zF:e≠0->x.v.ae.aD=[]->fq y.v/\cE y.v=cE x.v
 any: ∃u:VV,fq u/\u.ae=y.v.ae/\u.at_.length=x.v.at_.length/\(cE u=cE x.v\/cE u=bs)
 off:e=7->y.v.ae.off=true
theorem Wb{v:VV}{c:CV}(hp:Pl v.ae v.at_)(k:Kd v.at_ v.ae c):cE {v with ae:=c}=cE v:=H5 hp k fun _ h=>h
theorem Sf.data{x:WV}(h:fq x.v){c:CV}(k:Kp x.v.at_ x.v.ae c){e:Int}{bs:List (List UInt8)}(v7:e=0->bs=cE x.v)(ho:e=7->c.off=true):Sf x bs (x.on c) e:=by
 have h2:fq (x.on c).v/\cE (x.on c).v=cE x.v:=⟨h.kp k,Wb h.pl k.toKd⟩;exact⟨k.toKd.sub fun _ h=>absurd h auX,rfl,fun g=>⟨h2.1,by rw[v7 g];exact h2.2⟩,fun _=> .inr h2,fun _ _=>h2,⟨_,h2.1,rfl,rfl, .inl h2.2⟩,ho⟩
theorem Sf.trans{x y z:WV}{bs:List (List UInt8)}{e:Int}(h:Sf x (cE x.v) y 0)(g:Sf y bs z e):Sf x bs z e:=by
 have hb:=(h.cK rfl).2;refine⟨h.kd.trans g.kd,g.len.trans h.len,g.cK,fun he=>?_,fun he hf=>?_,?_,g.off⟩
 ·
  rw[←hb];exact g.err he
 ·
  rw[←hb];exact g.zF he (by rw[h.kd.iW];exact hf)
 rw[←hb,←h.len];exact g.any
theorem Ni{x:WV}{a:List Int}(hx:cY x)(h:fq x.v)(ca:iG x.v.ae)(ha:Pl x.v.ae a)(dE:a.length=x.v.at_.length):Sf x (a.map (eN x.v.ae)) (dQ x a).1 (dQ x a).2/\((dQ x a).2=0->(dQ x a).1.v.at_=a):=by
 rw[dQ]
 by_cases h0:(cX ⟨x.v.gen+1,a⟩ x.v.ae.size).2≠0
 ·
  rw[if_pos h0];refine⟨?_,fun g=>absurd g h0⟩;have:=Sf.data (x:=x) h (.dk _ _) (e:=(cX ⟨x.v.gen+1,a⟩ x.v.ae.size).2) (bs:=a.map (eN x.v.ae)) (fun g=>absurd g h0) (fun g=>by
   rw[cX]at g;split at g
   ·
    rcases AU ⟨2,max 0 ((a.length:Int) -1),x.v.gen+1,gZ a⟩ x.v.ae.size with q|q
    ·
     rw[q]at g;cases g
    rw[q]at g;cases g
   cases g)
  rw[Sj]at this;exact this
 rw[if_neg h0];have hm:=ahF (by simpa using h0);obtain⟨t1,t2,t3,t4⟩:=Wa ((cS -x.v.ae.ops).toNat+1) (b:=(cX ⟨x.v.gen+1,a⟩ x.v.ae.size).1) hx (h.wv a) ha ca (ahE hm) (VF hm) (by omega);generalize gh ((cS -x.v.ae.ops).toNat+1) x a (cX ⟨x.v.gen+1,a⟩ x.v.ae.size).1=W at*;have mR:cE ⟨W.1.v.ae,a,x.v.gen+1,0⟩=a.map (eN x.v.ae):=H5 ha (t1 a) fun _ g=>g;have oY:cE ⟨W.1.v.ae,x.v.at_,x.v.gen,x.v.last⟩=cE x.v:=Wb h.pl (t1 x.v.at_);have fU:=h.pl.kd (t1 x.v.at_) fun _ g=>g;have fw:=ha.kd (t1 a) fun _ g=>g;have ah5:tJ x.v.gen a x.v.ae:=fun k k0 k1 e=>by
  have:=(V1 h.bears h.roots).2 k k0 k1 (by rw[e]);rw[e,h.gen]at this;simp only at this;omega
 refine⟨⟨t1 [],?_,fun g=>?_,fun g=>?_,fun g hf=>?_,?_,t4⟩,fun g=>(t2 g).2⟩
 ·
  by_cases g:W.2=0
  ·
   rw[(t2 g).2,dE]
  rw[(t3 g).1];rfl
 ·
  obtain⟨q1,q2⟩:=t2 g;refine⟨q1,?_⟩;show W.1.v.at_.map (eN W.1.v.ae)=_;rw[q2];exact mR
 ·
  exact .inl (t3 g).2.2.2
 ·
  obtain⟨q1,q2,q3,_⟩:=t3 g;have:=q2.V3 fU (q3 hf ah5);rw[q1];exact⟨this,oY⟩
 by_cases g:W.2=0
 ·
  obtain⟨q1,q2⟩:=t2 g;refine⟨W.1.v,q1,rfl,by rw[q2,dE], .inr ?_⟩;show W.1.v.at_.map (eN W.1.v.ae)=_;rw[q2];exact mR
 obtain⟨q1,q2,_⟩:=t3 g;obtain⟨u,hu,hc,Ie⟩:=q2.some fU fw;rcases Ie with rfl|⟨e1,e2⟩
 ·
  exact⟨_,hu,rfl,rfl, .inl oY⟩
 refine⟨u,hu,hc,by rw[e1,dE], .inr ?_⟩;show u.at_.map (eN u.ae)=_;rw[e1,hc];exact mR
theorem Sf.by{x y:WV}{bs:List (List UInt8)}{e:Int}(h:Sf x bs y e)(b:Bool):Sf x bs {y with beyond:=b} e:=⟨h.kd,h.len,h.cK,h.err,h.zF,h.any,h.off⟩
theorem Sf.cw{x y:WV}{bs:List (List UInt8)}{e:Int}{b:Bool}(h:Sf {x with beyond:=b} bs y e):Sf x bs y e:=⟨h.kd,h.len,h.cK,h.err,h.zF,h.any,h.off⟩
theorem Sf.ne{x y:WV}{bs:List (List UInt8)}{e:Int}(h:Sf x (cE x.v) y e)(he:e≠0):Sf x bs y e:=
 ⟨h.kd,h.len,fun g=>absurd g he,h.err,h.zF,by
  obtain⟨u,h1,h2,h3,h4⟩:=h.any;exact⟨u,h1,h2,h3, .inl (h4.elim id id)⟩,h.off⟩
theorem Sf.stay{x:WV}(h:fq x.v){e:Int}(he:e≠7):Sf x (cE x.v) x e:=by
 have:=Sf.data (x:=x) h (.dk _ _) (e:=e) (bs:=cE x.v) (fun _=>rfl) (fun g=>absurd g he);rw[Sj]at this;exact this
theorem Sf.zero{x y:WV}{bs:List (List UInt8)}{e:Int}(h:Sf x bs y e)(h0:e≠0)(h7:e≠7)(h9:e≠9)(h1:e≠1):Sf x (cE x.v) y 0:=by
 have hr:fq y.v/\cE y.v=cE x.v:=(h.err h0).resolve_left fun g=>by
  rcases g with g|g|g
  ·
   exact h7 g
  ·
   exact h9 g
  exact h1 g.1
 exact⟨h.kd,h.len,fun _=>hr,fun g=>absurd rfl g,fun g=>absurd rfl g,⟨y.v,hr.1,rfl,h.len, .inl hr.2⟩,fun g=>absurd g (by decide)⟩
theorem ah6{x:WV}{src tgt:Int}(hx:cY x)(h:fq x.v)(ca:iG x.v.ae)(nE:2<=src)(pX:0<=tgt->tgt≠src)(ht:0<=tgt->2<=tgt/\tgt<x.v.ae.blocks.length/\(aj x.v.ae tgt).bad=false):
  Sf x (cE x.v) (cU x src tgt).1 (cU x src tgt).2.2/\((cU x src tgt).2.1=true->(cU x src tgt).2.2=0/\kU (cU x src tgt).1.v.at_ x.v.ae src)/\((cU x src tgt).2.2=6->(cU x src tgt).1=x.on (cU x src tgt).1.v.ae):=by
 have hp:1<=x.v.ae.pages:=by have:=hx.pages;omega
 obtain⟨t1,t2,t3,t4⟩:=Ia nE pX hp x.v.at_ 0 (c:=x.v.ae) (a:=x.v.at_) hx.ae h.pl (.dk _ _) h.pl rfl ht rfl (fun _ _=>rfl) (fun j n hj=>by omega) rfl;rw[cU];split
 ·
  rename_i e he;exact⟨Sf.data h t1 (fun _=>rfl) (fun g=>t3 (by rw[he];exact congrArg some g)),fun g=>absurd (show false=true from g) (by simp),fun _=>rfl⟩
 ·
  rename_i he;obtain⟨g1,g2,g3,g4⟩:=t2 he;have fN:=hx.on (t1.ok hx.ae) t1.cj;have hw:=Ni fN (h.kp t1) (ca.kd t1.toKd) g1 g3;have hs:=Sf.data h t1 (e:=0) (bs:=cE x.v) (fun _=>rfl) (fun g=>absurd g (by decide));have mr:=hw.1;rw[show List.map (eN (x.on (cc x.v src tgt x.v.at_ 0 x.v.ae x.v.at_).c).v.ae) (cc x.v src tgt x.v.at_ 0 x.v.ae x.v.at_).a=cE x.v from g2]at mr;refine⟨hs.trans mr,fun g=>?_,fun g=>absurd g (La _ _)⟩;simp only[decide_eq_true_eq]at g;refine⟨g,?_⟩;rw[hw.2 g];exact g4
theorem ah7{c:CV}{l:List az}{fl:List Int}(hd:si c fl l):Kp fl c (bY c l).1/\((bY c l).2.2=7->(bY c l).1.off=true)/\((bY c l).2.2=0-> ∃(j:Nat) (x:az),(bY c l).2.1=(j:Int)+2/\l[j]? =some x/\x.bad=false):=by
 rw[bY]
 by_cases h1:(mO c l).2=true
 ·
  rw[if_pos h1];obtain⟨x,hx,k1,_,_,k4,_⟩:=pL (fun x h=>(ta h).1) h1;exact⟨.dk _ _,fun h=>absurd (show(0:Int)=7 from h) (by decide),fun _=>⟨_,x,by show(mO c l).1+2=(((mO c l).1.toNat:Nat):Int)+2;rw[aun (show 0<=(mO c l).1 from k4)],hx,k1⟩⟩
 rw[if_neg h1]
 by_cases h2:(jT c l).2=true
 ·
  rw[if_pos h2];obtain⟨x,hx,k1,_,_,k4,_⟩:=pL (fun x h=>(l8 h).1) h2;obtain⟨d1,d2⟩:=H7 hd h2;exact⟨zE (by show 2<=(jT c l).1+2;change 0<=(jT c l).1 at d2;omega) d1,Ee,fun _=>⟨_,x,by show(jT c l).1+2=(((jT c l).1.toNat:Nat):Int)+2;rw[aun (show 0<=(jT c l).1 from k4)],hx,k1⟩⟩
 rw[if_neg h2]
 by_cases h3:(jU c l).2=true
 ·
  rw[if_pos h3];obtain⟨x,hx,k1,_,_,k4,_⟩:=pL (fun x h=>(l8 h).1) h3;obtain⟨d1,d2⟩:=H7 hd h3;exact⟨zE (by show 2<=(jU c l).1+2;change 0<=(jU c l).1 at d2;omega) d1,Ee,fun _=>⟨_,x,by show(jU c l).1+2=(((jU c l).1.toNat:Nat):Int)+2;rw[aun (show 0<=(jU c l).1 from k4)],hx,k1⟩⟩
 rw[if_neg h3];exact⟨.dk _ _,fun h=>absurd (show(6:Int)=7 from h) (by decide),fun h=>absurd (show(6:Int)=0 from h) (by decide)⟩
theorem Nj{e:Int}(h:jS e=7):e=7:=by rw[jS]at h;split at h<;>omega
theorem Wc{x:WV}{l:List az}{i:Int}(hx:cY x)(h:fq x.v)(ca:iG x.v.ae)(ht:lz x.v.ae l)(hd:si x.v.ae x.v.at_ l)(h0:0<=i)(hi:i<l.length):
  Sf x (cE x.v) (eV x l i).1 (eV x l i).2/\((eV x l i).2=6->(eV x l i).1=x.on (eV x l i).1.v.ae):=by
 obtain⟨k1,k2,k3⟩:=ah7 (hd.set i.toNat);have gm: ∀{e:Int},(e=7->(bY x.v.ae (l.set i.toNat bc)).1.off=true)->Sf x (cE x.v) (x.on (bY x.v.ae (l.set i.toNat bc)).1) e:=fun ho=>Sf.data h k1 (fun _=>rfl) ho;rw[eV]
 by_cases oO:(cP x.v.ae l i).2≠0
 ·
  rw[if_pos oO];refine⟨gm fun g=>k2 ?_,fun _=>rfl⟩;have g:=Nj g;rw[cP]at g;split at g
  ·
   cases g
  ·
   exact g
 ·
  rw[if_neg oO];have Nk:(cP x.v.ae l i).2=0:=by simpa using oO
  have nF:=GW (i:=i) hx.ae ht Nk;have fN:=hx.on (k1.ok hx.ae) k1.cj;have cd:0<=(cP x.v.ae l i).1->(cP x.v.ae l i).1≠i+2:=fun hn e=>by
   have ea:rh x.v.ae l i=false:=by
    cases hq:rh x.v.ae l i with
    |false=>rfl
    |true=>rw[cP,if_pos hq]at hn;exact absurd (show(0:Int)<= -1 from hn) (by decide)
   rw[cP,if_neg (by rw[ea];simp)]at e Nk;obtain⟨j,z,e1,e2,e3⟩:=k3 Nk;have:j=i.toNat:=by omega
   rw[this,atE (by omega)]at e2;obtain rfl:=atl e2;cases e3
  obtain⟨m1,m2,m3⟩:=ah6 (x:=x.on (bY x.v.ae (l.set i.toNat bc)).1) (src:=i+2) (tgt:=(cP x.v.ae l i).1) fN (h.kp k1) (ca.kd k1.toKd) (by omega) cd (fun hn=>by
   have:=nF hn;exact⟨this.1,by simp only[WV.on];rw[k1.cj.len];exact this.2.1,this.2.2⟩)
  have mok:=GU (x:=x.on (bY x.v.ae (l.set i.toNat bc)).1) (src:=i+2) (tgt:=(cP x.v.ae l i).1) fN (fun hn=>by
   have:=nF hn;exact⟨this.1,by simp only[WV.on];rw[k1.cj.len];exact this.2.1,this.2.2⟩)
  have BG:Sf x (cE x.v) (x.on (bY x.v.ae (l.set i.toNat bc)).1) 0:=gm fun g=>absurd g (by decide);rw[(BG.cK rfl).2]at m1;generalize cU (x.on (bY x.v.ae (l.set i.toNat bc)).1) (i+2) (cP x.v.ae l i).1=M at*
  by_cases h1:M.2.1=false\/(l.getD i.toNat dZ).used=x.v.ae.pages
  ·
   rw[if_pos h1];exact⟨BG.trans m1,fun g=>by rw[m3 g,Sk];rfl⟩
  ·
   rw[if_neg h1];have Wd:M.2.1=true:=by
    cases hq:M.2.1 with
    |true=>rfl
    |false=>exact absurd (.inl hq) h1
   obtain⟨e0,hdd⟩:=m2 Wd;rw[e0]at m1;have hR:=m1.cK rfl;have ah8:kU M.1.v.at_ M.1.v.ae (i+2):=hdd.cj m1.kd.cj;have hc:=zE (c:=M.1.v.ae) (by omega) ah8;have Ig:=Sf.data (x:=M.1) hR.1 hc (e:=jS (cG M.1.v.ae (i+2)).2) (bs:=cE M.1.v) (fun _=>rfl) (fun g=>Ee (Nj g));have ah9:=BG.trans m1;rw[hR.2]at Ig;exact⟨ah9.trans Ig,fun g=>absurd (GV g) (Sr _ _)⟩
theorem Nl{x:WV}{l:List az}(h:fq x.v)(hd:si x.v.ae x.v.at_ l):Sf x (cE x.v) (jo x l).1 (jo x l).2:=by
 rw[jo];split
 ·
  exact Sf.stay h (e:=6) (by decide)
 rename_i hq;obtain⟨d1,d2⟩:=H7 hd (show(oI x.v.ae l).2=true by simpa using hq);exact Sf.data h (zE (by show 2<=(oI x.v.ae l).1+2;change 0<=(oI x.v.ae l).1 at d2;omega) d1) (fun _=>rfl) (fun g=>Ee (Nj g))
theorem si.cj{c d:CV}{fl:List Int}{l:List az}(h:si c fl l)(g:dU c d):si d fl l:=fun i x hx hb hl=>(h i x hx hb hl).cj g
theorem aia{x:WV}(hx:cY x)(h:fq x.v)(ca:iG x.v.ae):Sf x (cE x.v) (et x).1 (et x).2:=by
 have ht:lz x.v.ae (dm x):=y8 _ _;have hd:si x.v.ae x.v.at_ (dm x):=H6 _ _;rw[et];split
 ·
  rename_i hv;have Ih:=K4 (l:=dm x) hv.1;obtain⟨r1,r2⟩:=Wc (i:=(ti x).1) hx h ca ht hd Ih.1 Ih.2;split
  ·
   exact r1
  rename_i h6;have AW:(eV x (dm x) (ti x).1).2=6:=by simpa using h6
  have hz:=r1.zero (by omega) (by omega) (by omega) (by omega);have e:=r2 AW;have hR:=hz.cK rfl;have kO:(eV x (dm x) (ti x).1).1.v.at_=x.v.at_:=by rw[e];rfl
  have:=Nl hR.1 (l:=dm x) (by rw[kO];exact hd.cj hz.kd.cj);rw[hR.2]at this;exact hz.trans this
 exact Nl h hd
theorem We: ∀(n:Nat) {x:WV} {need:Int},cY x->fq x.v->iG x.v.ae->Sf x (cE x.v) (lA n x need).1 (lA n x need).2
 |0,x,need,hx,h,ca=>Sf.stay h (e:=0) (by decide)
 |n+1,x,need,hx,h,ca=>by
  have hc:=aia hx h ca;have yF:=GX hx;rw[lA];split
  ·
   exact Sf.stay h (e:=0) (by decide)
  split
  ·
   exact(Sf.stay h (e:=0) (by decide)).by true
  split
  ·
   rename_i h0;rw[h0]at hc;have hR:=hc.cK rfl;have:=We n (need:=need) yF.1.ok hR.1 (ca.kd hc.kd);rw[hR.2]at this;exact hc.trans this
  split
  ·
   exact hc
  rename_i h6;have AW:(et x).2=6:=by simpa using h6
  have hz:=hc.zero (by omega) (by omega) (by omega) (by omega);have hR:=hz.cK rfl;split
  ·
   exact hz.by true
  have:=Sf.stay (x:=(et x).1) hR.1 (e:=5) (by decide);rw[hR.2]at this;exact hz.trans this
theorem Wf{x:WV}{need:Int}(hx:cY x)(h:fq x.v)(ca:iG x.v.ae):Sf x (cE x.v) (kN x need).1 (kN x need).2:=We _ hx h ca
theorem Wg{x:WV}{l:List (Int×List UInt8)}(hx:cY x)(h:fq x.v)(ca:iG x.v.ae)(hid: ∀y∈l,0<=y.1):Sf x (va (cE x.v) l) (gy x l).1 (gy x l).2:=by
 have hs:Sf x (cE x.v) (cN x l).1 (cN x l).2:=(Wf (x:={x with beyond:=false}) (need:=mP l) (hx.by false) h ca).cw
 have ho:=GY (l:=l) hx;rw[gy]
 by_cases h0:(cN x l).2≠0
 ·
  rw[if_pos h0];exact hs.ne h0
 rw[if_neg h0];rw[show(cN x l).2=0 by simpa using h0]at hs;have hR:=hs.cK rfl;obtain⟨t1,t2,t3⟩:=H9 (v:=(cN x l).1.v) (aG:=(cN x l).1.beyond) l (c:=(cN x l).1.v.ae) (a:=(cN x l).1.v.at_) ho.ok.ae (by have:=ho.ok.te;omega) hR.1.pl hR.1.pl hid
 by_cases h1:(gk x l).2.2≠0
 ·
  rw[if_pos h1];exact hs.trans (Sf.data hR.1 t1 (fun g=>absurd g h1) t3)
 rw[if_neg h1];obtain⟨g1,g2,g3⟩:=t2 (awk.1 h1);have fN:=ho.ok.on (t1.ok ho.ok.ae) t1.cj;have hw:=(Ni fN (hR.1.kp t1) ((ca.kd hs.kd).kd t1.toKd) g1 g3).1;have e:List.map (eN (gk x l).1) (gk x l).2.1=va (cE x.v) l:=by rw[←hR.2];exact g2
 have hd:=Sf.data (x:=(cN x l).1) hR.1 t1 (e:=0) (bs:=cE (cN x l).1.v) (fun _=>rfl) (fun g=>absurd g (by decide));have fx:Sf ((cN x l).1.on (gk x l).1) (va (cE x.v) l) (dQ ((cN x l).1.on (gk x l).1) (gk x l).2.1).1 (dQ ((cN x l).1.on (gk x l).1) (gk x l).2.1).2:=by rw[←e];exact hw
 exact hs.trans (Sf.trans hd fx)
theorem Wh{l:List (Int×List UInt8)}(hid: ∀y∈l,0<=y.1): ∀(n:Nat) {x:WV},cY x->fq x.v->iG x.v.ae->x.v.ae.blocks.length<n+nR x.v.ae->Sf x (va (cE x.v) l) (lB n x l).1 (lB n x l).2
 |0,x,hx,h,ca,hn=>by have:=Su x.v.ae;omega
 |n+1,x,hx,h,ca,hn=>by
  have hb:=Wg (l:=l) hx h ca hid;have ho:=GZ (l:=l) hx;rw[lB];split
  ·
   rename_i h5;rw[h5.1]at hb;have hz:=hb.zero (by decide) (by decide) (by decide) (by decide);have hR:=hz.cK rfl;have:=Wh hid n ho.ok hR.1 (ca.kd hz.kd) (by have:=ho.cj.len;omega);rw[hR.2]at this;exact hz.trans this
  exact hb
theorem Wi{v:VV}{l:List (Int×List UInt8)}(h:fq v)(ca:iG v.ae):Sf ⟨v,false⟩ (va (cE v) l) ⟨(eW v l).1,false⟩ (eW v l).2:=by
 rw[eW];split
 ·
  exact(Sf.stay (x:=⟨v,false⟩) h (e:=1) (by decide)).ne (by decide)
 rename_i h1;have Wj:=awk.1 h1;split
 ·
  rename_i ho;have:=Sf.data (x:=⟨v,false⟩) h (.dk _ _) (e:=7) (bs:=va (cE v) l) (fun g=>absurd g (by decide)) (fun _=>ho);exact this
 have hid: ∀y∈l,0<=y.1:=fun y hy=>by
  obtain⟨j,hj⟩:=atH hy;have:=Dd.1 Wj.2.2 j (zz.1 hj).1;rw[uF,show l.getD j (0,[])=y by simp[List.getD,hj],ad2,uE,ad2,ad2,decide_eq_true_eq]at this;exact this.1.1.1
 have:=Wh hid (v.ae.blocks.length+1) (x:=⟨v,false⟩) (De Wj.1) h ca (by show v.ae.blocks.length<_;omega);exact this.by false
theorem aib{t:List Rt}(h:cL t=true): ∀l:List Ch,cL (hO t l).1=true:=by
 intro l
 induction l generalizing t with
 |nil=>exact h
 |cons c r ih=>
  rw[hO];split
  ·
   exact ih (MO h c)
  exact h
theorem aic{t:List Rt}(h:cL t=true)(l:List Ch):cL (bH t l)=true:=by
 rw[bH];split
 ·
  exact aib h l
 exact h
def powC(c:CV):CV:={c with off:=false}
theorem fq.on{v:VV}(h:fq v)(b:Bool):fq {v with ae:={v.ae with off:=b}}:=by
 obtain⟨h1,h2,h3,h4,h5,h6,h7⟩:=h;exact⟨h1,h2,h3,h4,h5,h6,h7⟩
theorem Wk{v:VV}(h:fq v):bE (powC v.ae)=(⟨powC v.ae,v.at_,v.gen,v.last⟩,0):=by
 have h2:=Eg.2 (h.on false);rw[mK]at h2;simp only[ad2,decide_eq_true_eq]at h2;obtain⟨⟨⟨g1,g2⟩,g3⟩,g4⟩:=h2;have hc:=LB g1;change(bE (powC v.ae)).2=0 at g1;change(bE (powC v.ae)).1.gen=v.gen at g2;change(bE (powC v.ae)).1.last=v.last at g3;change(bE (powC v.ae)).1.at_=v.at_ at g4;change(bE (powC v.ae)).1.ae=powC v.ae at hc;generalize bE (powC v.ae)=F at*;obtain⟨⟨f1,f2,f3,f4⟩,f5⟩:=F;simp only at g1 g2 g3 g4 hc;subst g1 g2 g3 g4 hc;rfl
structure jK(f:FV):Prop where
 rt:fq f.ak
 jq:eX f.ak.ae≠0
 ids:(f.ak.at_.length:Int)=eE f.ak.ae
 oX:lE (cE f.ak)=0
 eq:f.table=jV (cE f.ak)
theorem Wl{v:VV}(h:fq v)(hm:eX v.ae≠0)(hi:(v.at_.length:Int)=eE v.ae)(ht:lE (cE v)=0):cJ (powC v.ae)=(⟨⟨powC v.ae,v.at_,v.gen,v.last⟩,jV (cE v)⟩,0)/\lF (powC v.ae)=cE v:=by
 have hf:=Wk h;have:=Dj (c:=powC v.ae) hm (by rw[hf]) (by rw[hf];exact hi) (by rw[hf];exact ht);rw[hf]at this;exact this
theorem jK.load{f:FV}(h:jK f):cJ (powC f.ak.ae)=(⟨⟨powC f.ak.ae,f.ak.at_,f.ak.gen,f.ak.last⟩,f.table⟩,0)/\lF (powC f.ak.ae)=cE f.ak:=by
 rw[h.eq];exact Wl h.rt h.jq h.ids h.oX
theorem zG{f:FV}:jI f=true↔jK f:=by
 constructor
 ·
  intro h;rw[aeh]at h;simp only[ad2,decide_eq_true_eq]at h;obtain⟨⟨h1,h2⟩,h3⟩:=h;obtain⟨g0,g1,g2,g3⟩:=Dk h1;have hr:=Eg.1 h2;have hf:=Wk hr;change(bE (powC f.ak.ae)).2=0 at g1;change(((bE (powC f.ak.ae)).1.at_.length:Nat):Int)=_ at g2;change lE (cE (bE (powC f.ak.ae)).1)=0 at g3;rw[hf]at g2 g3;refine⟨hr,g0,g2,g3,?_⟩;rw[←h3];exact congrArg (fun z:FV×Int=>z.1.table) (Wl hr g0 g2 g3).1
 intro h;rw[Lz];change(cJ (powC f.ak.ae)).2=0/\f.ak.gen=(cJ (powC f.ak.ae)).1.ak.gen/\f.ak.last=(cJ (powC f.ak.ae)).1.ak.last/\f.ak.at_=(cJ (powC f.ak.ae)).1.ak.at_/\f.table=(cJ (powC f.ak.ae)).1.table;rw[h.load.1];exact⟨rfl,rfl,rfl,rfl,rfl⟩
theorem jK.right{f:FV}(h:jK f):cL f.table=true:=by rw[h.eq];exact Tb h.oX
theorem Nn{c d:CV}(h:dU c d):eX d=eX c/\eE d=eE c:=by
 rw[eX,eX,eE,eE,h.len,h.pages,h.size];exact⟨rfl,rfl⟩
theorem Wm: ∀(l:List (Int×List UInt8)) (bs:List (List UInt8)) (i:Nat),l.Pairwise (fun p q=>p.1≠q.1)->(∀p∈l,0<=p.1)->(va bs l)[i]? =match l.find? fun p=>decide (p.1=(i:Int))with
  |some p=>if i<bs.length then some p.2 else none
  |none=>bs[i]?
 |[],bs,i,_,_=>rfl
 |p::r,bs,i,hw,h0=>by
  obtain⟨mr,fx⟩:=aui.1 hw;have ih:=Wm r (bs.set p.1.toNat p.2) i fx fun q hq=>h0 q (atF _ hq);have hp0:=h0 p at2;show(va (bs.set p.1.toNat p.2) r)[i]? =_;rw[ih,List.find?_cons]
  by_cases e:p.1=(i:Int)
  ·
   have hn:(r.find? fun q=>decide (q.1=(i:Int)))=none:=List.find?_eq_none.2 fun q hq=>by
    rw[decide_eq_true_eq];intro e2;exact mr q hq (by rw[e,e2])
   rw[hn,decide_eq_true e];simp only;rw[auo,if_pos (by omega)]
   by_cases hl:i<bs.length
   ·
    rw[if_pos (by omega),if_pos hl]
   ·
    rw[if_neg (by omega),if_neg hl]
  ·
   rw[decide_eq_false e];simp only
   cases hf:r.find? fun q=>decide (q.1=(i:Int))with
   |some q=>simp only;rw[atV]
   |none=>simp only;rw[atZ (by omega)]
theorem Wn{a b:List (List UInt8)}(hl:a.length=b.length):va a (fk a b)=b:=by
 have hs:=HQ a b (max a.length b.length);have No:(fk a b).Pairwise fun p q=>p.1≠q.1:=hs.imp fun h=>by omega
 have hm: ∀p∈fk a b,∃i:Nat,i<max a.length b.length/\p=((i:Int),b.getD i [])/\ ¬a.getD i []=b.getD i []:=fun p hp=>MU hp;refine auz fun i=>?_;rw[Wm (fk a b) a i No fun p hp=>by obtain⟨j,_,rfl,_⟩:=hm p hp;exact Int.natCast_nonneg _]
 cases hf:(fk a b).find? fun p=>decide (p.1=(i:Int))with
 |some p=>
  obtain⟨j,h1,h2,h3⟩:=hm p (avK hf);have e:=List.find?_some hf;rw[decide_eq_true_eq,h2]at e;simp only at e;have e':j=i:=by omega
  subst e';simp only
  by_cases hi:j<a.length
  ·
   rw[if_pos hi,h2,atp (by omega)];simp[List.getD,show j<b.length by omega]
  rw[if_neg hi,atB (by omega)]
 |none=>
  simp only;rcases atA i a.length with hi|hi
  ·
   have eY:=List.find?_eq_none.1 hf;have hq:a.getD i []=b.getD i []:=by
    apply atO;intro cd;have lT:((i:Int),b.getD i [])∈fk a b:=by
     rw[fk,oL];exact List.mem_filterMap.2 ⟨i,atX.2 (by omega),by rw[uI,if_neg cd]⟩
    have:=eY _ lT;simp at this
   simp only[List.getD,atp hi,atp (show i<b.length by omega),avb]at hq;rw[atp hi,atp (show i<b.length by omega),hq]
  rw[atB hi,atB (by omega)]
structure Af(f:FV)(t:List Rt)(o:FV)(e:Int):Prop where
 kd:Kd [] f.ak.ae o.ak.ae
 cK:e=0->jK o/\o.table=t
 bad:e≠0->o.table=f.table
 err:e≠0->(e=7\/e=9\/(e=1/\Ic o.ak.ae))\/jK o
 zF:e≠0->f.ak.ae.aD=[]->jK o
 any: ∃g:FV,jK g/\g.ak.ae=o.ak.ae/\(g.table=f.table\/g.table=t)
 off:e=7->o.ak.ae.off=true
theorem BH{f:FV}{l:List Ch}(h:jK f):xJ f l=if eX f.ak.ae<(bH f.table l).length then 5 else 0:=by
 have hr:=aic h.right l;have hm:jq (eE f.ak.ae) (dW f.ak.ae.size)=eX f.ak.ae:=rfl;rw[xJ,jH,if_neg,hm];rintro(g|g)
 ·
  rw[hr]at g;cases g
 exact h.jq g
theorem Np{f:FV}{l:List Ch}(h:jK f)(he:dh f.table l≠0):bK f l=(f,dh f.table l):=Tf (zG.2 h) he
theorem Nq{f:FV}{l:List Ch}(h:jK f)(he:dh f.table l=0)(hm:eX f.ak.ae<(bH f.table l).length):bK f l=(f,5):=by
 have:=BH (l:=l) h;rw[if_pos hm]at this;rw[Tg (zG.2 h) he (by rw[this];decide),this]
theorem tK{f:FV}(h:jK f):eO f=cE f.ak:=h.load.2
theorem Ii{f:FV}{l:List Ch}(h:jK f)(he:dh f.table l=0)(hm: ¬eX f.ak.ae<(bH f.table l).length)(hc:fk (eO f) (dJ f l)=[]):bK f l=(f,0)/\bH f.table l=f.table:=by
 have hE:=BH (l:=l) h;rw[if_neg hm]at hE;have hlen:(eO f).length=(dJ f l).length:=by
  have:=(D6 hE).1;have h2:=h.ids;rw[tK h,A4];have:((dJ f l).length:Int)=eE f.ak.ae:=this;omega
 have heq:=(ag7 hlen).1 hc;have ht:jV (dJ f l)=bH f.table l:=(Vg hE).1;have e:bH f.table l=f.table:=by
  rw[←ht,←heq,tK h];exact h.eq.symm
 rw[Th (zG.2 h) he hE hc,e];exact⟨rfl,rfl⟩
theorem Nr{f:FV}{l:List Ch}(h:jK f)(ca:iG f.ak.ae)(he:dh f.table l=0)(hm: ¬eX f.ak.ae<(bH f.table l).length):Af f (bH f.table l) (bK f l).1 (bK f l).2:=by
 have hE:=BH (l:=l) h;rw[if_neg hm]at hE
 by_cases hc:fk (eO f) (dJ f l)=[]
 ·
  obtain⟨e1,e2⟩:=Ii h he hm hc;rw[e1,e2];exact⟨.dk _ _,fun _=>⟨h,rfl⟩,fun g=>absurd rfl g,fun g=>absurd rfl g,fun g=>absurd rfl g,⟨f,h,rfl, .inl rfl⟩,fun g=>absurd (show(0:Int)=7 from g) (by decide)⟩
 have hlen:(eO f).length=(dJ f l).length:=by
  have:=(D6 hE).1;have h2:=h.ids;rw[tK h,A4];have:((dJ f l).length:Int)=eE f.ak.ae:=this;omega
 have hs:=Wi (l:=fk (eO f) (dJ f l)) h.rt ca;rw[←tK h,Wn hlen]at hs;have ht:=Vg hE;rw[Hb (zG.2 h) he hE hc];generalize eW f.ak (fk (eO f) (dJ f l))=W at*;have fB:=Nn hs.kd.cj;change eX W.1.ae=eX f.ak.ae/\eE W.1.ae=eE f.ak.ae at fB;have Ns:W.1.at_.length=f.ak.at_.length:=hs.len;have oY:cE (⟨f.ak,false⟩:WV).v=eO f:=(tK h).symm;have mk: ∀{u:VV} {t:List Rt},fq u->dU f.ak.ae u.ae->u.at_.length=f.ak.at_.length->lE (cE u)=0->t=jV (cE u)->jK ⟨u,t⟩:=fun hu hk hl hte aid=>by
  have:=Nn hk;exact⟨hu,by show eX _≠0;rw[this.1];exact h.jq,by show(_:Int)=eE _;rw[this.2,hl];exact h.ids,hte,aid⟩
 have hold:lE (eO f)=0/\f.table=jV (eO f):=by rw[tK h];exact⟨h.oX,h.eq⟩
 refine⟨hs.kd,fun g=>?_,fun g=>?_,fun g=>?_,fun g hf=>?_,?_,hs.off⟩
 ·
  obtain⟨q1,q2⟩:=hs.cK g;change fq W.1 at q1;change cE W.1=dJ f l at q2;simp only at g;refine⟨mk q1 hs.kd.cj Ns (by rw[q2];exact ht.2) (by rw[if_neg (fun k=>k g),q2];exact ht.1.symm),by rw[if_neg (fun k=>k g)]⟩
 ·
  simp only at g⊢;rw[if_pos g]
 ·
  simp only at g;refine(hs.err g).imp id fun q=>?_;rw[oY]at q;exact mk q.1 hs.kd.cj Ns (by rw[show cE W.1=eO f from q.2];exact hold.1) (by rw[if_pos g,show cE W.1=eO f from q.2];exact hold.2)
 ·
  simp only at g;have q:=hs.zF g hf;rw[oY]at q;exact mk q.1 hs.kd.cj Ns (by rw[show cE W.1=eO f from q.2];exact hold.1) (by rw[if_pos g,show cE W.1=eO f from q.2];exact hold.2)
 obtain⟨u,q1,q2,q3,q4⟩:=hs.any;change u.ae=W.1.ae at q2;have pY:dU f.ak.ae u.ae:=by rw[q2];exact hs.kd.cj
 rw[oY]at q4;rcases q4 with q4|q4
 ·
  exact⟨⟨u,f.table⟩,mk q1 pY q3 (by rw[q4];exact hold.1) (by rw[q4];exact hold.2),q2, .inl rfl⟩
 exact⟨⟨u,bH f.table l⟩,mk q1 pY q3 (by rw[q4];exact ht.2) (by rw[q4];exact ht.1.symm),q2, .inr rfl⟩
theorem iG.nil{c:CV}(h:c.aD=[]):iG c:=fun f hf=>by rw[h]at hf;cases hf
theorem aie(t:List Rt)(c:List Ch):(hO t c).2=0\/(hO t c).2=1\/(hO t c).2=5\/(hO t c).2=6:=by
 induction c generalizing t with
 |nil=>exact .inl rfl
 |cons x r ih=>
  rw[hO];split
  ·
   exact ih _
  show eG t x=0\/eG t x=1\/eG t x=5\/eG t x=6;rw[eG];repeat' split
  all_goals decide
theorem aif(t:List Rt)(l:List Ch):dh t l=0\/dh t l=1\/dh t l=5\/dh t l=6:=by
 rw[dh];split
 ·
  exact aie t l
 exact .inr (.inl rfl)
theorem aih(t:List Rt)(l:List Ch):dh t l≠7:=by have:=aif t l;omega
theorem aii{f:FV}(h:jK f)(hf:f.ak.ae.aD=[])(ho:f.ak.ae.off=false)(l:List Ch):
  jK (bK f l).1/\(bK f l).1.ak.ae.aD=[]/\(bK f l).1.ak.ae.off=false/\((bK f l).2=0->dh f.table l=0/\(bK f l).1.table=bH f.table l)/\((bK f l).2≠0->(bK f l).1.table=f.table)/\
   ((bK f l).2≠7)/\(dh f.table l≠0->bK f l=(f,dh f.table l)):=by
 have hE7:=aih f.table l
 by_cases he:dh f.table l=0
 ·
  by_cases hm:eX f.ak.ae<(bH f.table l).length
  ·
   rw[Nq h he hm];exact⟨h,hf,ho,fun g=>absurd (show(5:Int)=0 from g) (by decide),fun _=>rfl,show(5:Int)≠7 by decide,fun g=>absurd he g⟩
  ·
   have ha:=Nr h (.nil hf) he hm;have lK:=ha.kd.on ho (by rw[hf];intro x hx;cases hx);refine⟨?_,ha.kd.iW.trans hf,lK,fun g=>⟨he,(ha.cK g).2⟩,ha.bad,fun g=>?_,fun g=>absurd he g⟩
   ·
    by_cases g:(bK f l).2=0
    ·
     exact(ha.cK g).1
    ·
     exact ha.zF g hf
   ·
    have:=ha.off g;rw[lK]at this;cases this
 ·
  rw[Np h he];exact⟨h,hf,ho,fun g=>absurd g he,fun _=>rfl,hE7,fun _=>rfl⟩
theorem Wo{P Q:Nat->Bool}{j0:Nat}(hp:P j0=false)(hq: ∀j,Q j=(P j||decide (j=j0))): ∀n,((List.range n).filter Q).length=((List.range n).filter P).length+(if j0<n then 1 else 0)
 |0=>by simp
 |n+1=>by
  have ih:=Wo hp hq n;rw[auF,auG,auG,adr,adr,ih]
  by_cases e:n=j0
  ·
   have h1:Q n=true:=by rw[hq n,decide_eq_true e,Bool.or_true]
   have h2:P n=false:=by rw[e];exact hp
   rw[List.filter_cons_of_pos h1,List.filter_cons_of_neg (by rw[h2];simp),if_neg (by omega),if_pos (by omega)];simp
  have h1:Q n=P n:=by rw[hq n,decide_eq_false e,Bool.or_false]
  have h2:([n].filter Q).length=([n].filter P).length:=by simp[auu,h1]
  rw[h2]
  by_cases h:j0<n
  ·
   rw[if_pos h,if_pos (by omega)];omega
  rw[if_neg h,if_neg (by omega)];omega
def c8(pages:Int)(fl:List Int)(i:Nat):Nat:=((List.range pages.toNat).filter fun j:Nat=>fl.contains (((i:Int)+2)*pages+j+1)).length
theorem yh{pages:Int}{fl gl:List Int}{i:Nat}(h: ∀n:Int,(n -1)/pages=(i:Int)+2->(n∈fl↔n∈gl))(hp:1<=pages):c8 pages fl i=c8 pages gl i:=by
 rw[c8,c8];congr 1;refine List.filter_congr fun j hj=>?_;have jg:=atX.1 hj;have hd:(((i:Int)+2)*pages+j+1 -1)/pages=(i:Int)+2:=by
  rw[auS,avi,auE _ _ (by omega),aum (by omega) (by omega),avn]
 rw[avL,auJ,auJ];exact h _ hd
theorem aij{pages n:Int}(hp:1<=pages){i:Nat}(hb:(n -1)/pages=(i:Int)+2): ∃j:Nat,j<pages.toNat/\n=((i:Int)+2)*pages+j+1/\(n -1)%pages=j:=by
 have h0:0<=(n -1)%pages:=avt _ (by omega);have h1:(n -1)%pages<pages:=avx _ (by omega);have h2:=Int.mul_ediv_add_emod (n -1) pages;rw[hb,Int.mul_comm]at h2;exact⟨((n -1)%pages).toNat,by omega,by omega,by omega⟩
theorem Nt{pages n:Int}{fl gl:List Int}{i0:Nat}(hp:1<=pages)(hb:(n -1)/pages=(i0:Int)+2)(hn:n∉fl)(h: ∀m,m∈gl↔m∈fl\/m=n)(i:Nat):c8 pages gl i=c8 pages fl i+(if i=i0 then 1 else 0):=by
 by_cases e:i=i0
 ·
  subst e;obtain⟨j0,Ij,en,_⟩:=aij hp hb;rw[if_pos rfl,c8,c8];have:=Wo (P:=fun j:Nat=>fl.contains (((i:Int)+2)*pages+j+1)) (Q:=fun j:Nat=>gl.contains (((i:Int)+2)*pages+j+1)) (j0:=j0) (by
   rw[←en]
   cases hc:fl.contains n with
   |false=>rfl
   |true=>exact absurd (auJ.1 hc) hn) (fun j=>by
   rw[avL,auA,auJ,auJ,decide_eq_true_eq,h,en];constructor
   ·
    rintro(g|g)
    ·
     exact .inl g
    exact .inr (by omega)
   rintro(g|g)
   ·
    exact .inl g
   exact .inr (by rw[g])) pages.toNat
  rw[if_pos Ij]at this;exact this
 rw[if_neg e,auH];refine yh (fun m hm=>?_) hp;rw[h];constructor
 ·
  rintro(g|g)
  ·
   exact g
  rw[g,hb]at hm;omega
 exact .inl
theorem Wp{pages:Int}{l:List Int}(hp:1<=pages)(i:Nat)(h: ∀n∈l,n=0\/1<=n): ∀k,k<=l.length->ko pages l k i=c8 pages (l.take k) i
 |0,_=>by
  rw[c8,List.filter_eq_nil_iff.2 (fun j _=>by simp)];simp[ko]
 |k+1,hk=>by
  have ih:=Wp hp i h k (by omega);obtain⟨y,hy⟩: ∃y,l[k]? =some y:=⟨_,atp (by omega)⟩;have lT: ∀m,m∈l.take (k+1)↔m∈l.take k\/m=y:=fun m=>by
   rw[atr,hy,atu];simp
  rw[C5,ih,qu hy];have uV:nQ l k=(decide (y≠0)&& !(l.take k).contains y):=by rw[nQ,qu hy]
  by_cases h0:y=0
  ·
   rw[uV,decide_eq_false (fun g=>g h0),avR,avR,if_neg (by simp),auH];refine yh (fun m hm=>?_) hp;rw[lT];refine⟨.inl,fun g=>g.elim id fun g=>?_⟩;exfalso;rw[g,h0]at hm;have:((0:Int) -1)/pages<0:=av2 (by decide) (by omega);omega
  by_cases hc:(l.take k).contains y=true
  ·
   rw[uV,hc,Bool.not_true,avS,avR,if_neg (by simp),auH];refine yh (fun m _=>?_) hp;rw[lT];exact⟨.inl,fun g=>g.elim id fun g=>by rw[g];exact auJ.1 hc⟩
  have hn:y∉l.take k:=fun g=>hc (auJ.2 g);have UL:(l.take k).contains y=false:=by simpa using hc
  rw[uV,UL,decide_eq_true h0,avo,au4,aup]
  by_cases hb:(y -1)/pages=(i:Int)+2
  ·
   rw[decide_eq_true hb,if_pos rfl,Nt hp hb hn lT i,if_pos rfl]
  rw[decide_eq_false hb,if_neg (by simp),auH];refine yh (fun m hm=>?_) hp;rw[lT];exact⟨.inl,fun g=>g.elim id fun g=>by rw[g]at hm;exact absurd hm hb⟩
theorem Ik{pages:Int}{l:List Int}(hp:1<=pages)(i:Nat)(h: ∀n∈l,n=0\/1<=n):ko pages l l.length i=c8 pages l i:=by
 have:=Wp hp i h l.length (att _);rwa [atP]at this
def Std(c:CV)(fl:List Int):Prop:= ∀n∈fl,n≠0->lq c (n -1)=true
theorem Pl.ny{c:CV}{a:List Int}(h:Pl c a):Std c a:=fun _ hn h0=>h.place hn h0
theorem Std.append{c:CV}{a b:List Int}(h:Std c a)(g:Std c b):Std c (a++b):=fun n hn=>(atu.1 hn).elim (h n) (g n)
theorem Std.pos{c:CV}{fl:List Int}(h:Std c fl)(hp:1<=c.pages): ∀n∈fl,n=0\/1<=n:=fun n hn=>by
 by_cases h0:n=0
 ·
  exact .inl h0
 right;have:=(ni.1 (h n hn h0)).1;apply atO;intro bn;have:(n -1)/c.pages<0:=av2 (by omega) (by omega);omega
theorem Std.kd{c d:CV}{fl L:List Int}(h:Std c fl)(k:Kd L c d)(hs: ∀n∈fl,n∈L):Std d fl:=fun n hn h0=>(k.nm n (hs n hn) h0 (h n hn h0)).1
def pZ(c:CV)(fl:List Int)(i:Nat):az:=if(aj c ((i:Int)+2)).bad=true then bc else⟨c8 c.pages fl i,(aj c ((i:Int)+2)).used,(aj c ((i:Int)+2)).aU,false⟩
theorem zH{c:CV}{fl:List Int}(hp:1<=c.pages)(h:Std c fl):au c fl=(List.range (c.blocks.length -2)).map (pZ c fl):=by
 rw[au,jm,kr,avV];refine auw fun i _=>?_;simp only[Function.comp];rw[Ik hp i (h.pos hp),pK,pZ,ux];split
 ·
  rfl
 rename_i hb;have:(aj c ((i:Int)+2)).bad=false:=by simpa using hb
 rw[this]
theorem Wq{c:CV}{fl:List Int}(hp:1<=c.pages)(h:Std c fl)(i:Nat)(hu:0<=(aj c ((i:Int)+2)).used):(c8 c.pages fl i:Int)<=(aj c ((i:Int)+2)).used:=by
 have nB: ∀j,j∈(List.range c.pages.toNat).filter (fun j:Nat=>fl.contains (((i:Int)+2)*c.pages+j+1))->j<(aj c ((i:Int)+2)).used.toNat:=fun j hj=>by
  obtain⟨h1,h2⟩:=atY.1 hj;have jg:=atX.1 h1;have hm:=auJ.1 h2;have h0:0<=((i:Int)+2)*c.pages:=au6 (by omega) (by omega);have ca:=ni.1 (h _ hm (by omega));have hd:(((i:Int)+2)*c.pages+j+1 -1)/c.pages=(i:Int)+2:=by
   rw[auS,avi,auE _ _ (by omega),aum (by omega) (by omega),avn]
  have rK:(((i:Int)+2)*c.pages+j+1 -1)%c.pages=j:=by
   rw[auS,avi,avW,av4 (by omega) (by omega)]
  rw[hd,rK]at ca;omega
 have key: ∀(n m:Nat) (P:Nat->Bool),(∀j,j∈(List.range n).filter P->j<m)->((List.range n).filter P).length<=m:=by
  intro n m P
  induction n generalizing m with
  |zero=>intro _;simp
  |succ n ih=>
   intro hs;rw[auF,auG,adr]
   by_cases hP:P n=true
   ·
    have hm:n<m:=hs n (atY.2 ⟨List.mem_range.2 (by omega),hP⟩);have:=ih n fun j hj=>atX.1 (atY.1 hj).1;simp only[auu,avB,hP,if_true,af0,anc];omega
   have:=ih m fun j hj=>hs j (by rw[auF,auG];exact atT _ hj);simp only[auu,avB,hP];simpa using this
 have:=key c.pages.toNat (aj c ((i:Int)+2)).used.toNat _ nB;rw[c8];omega
theorem vc{c:CV}{fl:List Int}(hp:1<=c.pages)(h:Std c fl)(i:Nat):c8 c.pages fl i=0↔kU fl c ((i:Int)+2):=by
 constructor
 ·
  intro h0;rw[←Ik hp i (h.pos hp)]at h0;exact VS h0
 intro hd;rw[c8,atJ,List.filter_eq_nil_iff];intro j hj hc;have jg:=atX.1 hj;have hm:=auJ.1 hc;have h0:0<=((i:Int)+2)*c.pages:=au6 (by omega) (by omega);refine hd _ hm (by omega) ?_;rw[auS,avi,auE _ _ (by omega),aum (by omega) (by omega),avn]
theorem Nu{c d:CV}{fl gl:List Int}{i0:Nat}{x:az}(hp:1<=c.pages)(h:Std c fl)(hg:Std d gl)(hk:dU c d)(ho: ∀i:Nat,i≠i0->aj d ((i:Int)+2)=aj c ((i:Int)+2)/\c8 c.pages gl i=c8 c.pages fl i)(hx:pZ d gl i0=x):au d gl=(au c fl).set i0 x:=by
 rw[zH (by rw[hk.pages];exact hp) hg,zH hp h,hk.len];refine auz fun i=>?_;rw[auo]
 by_cases e:i0=i
 ·
  subst e;rw[if_pos rfl,atM,awj,atx]
  by_cases hi:i0<c.blocks.length -2
  ·
   rw[auU hi,if_pos hi,at3,hx]
  rw[if_neg hi,atB (by simpa using hi)];rfl
 rw[if_neg e,atx,atx]
 by_cases hi:i<c.blocks.length -2
 ·
  rw[auU hi,at3,at3];obtain⟨o1,o2⟩:=ho i (fun g=>e g.symm);rw[pZ,pZ,o1,hk.pages,o2]
 rw[atB (by simpa using hi)];rfl
theorem Nv{c d:CV}{fl gl:List Int}(hp:1<=c.pages)(h:Std c fl)(hg:Std d gl)(hk:dU c d)(ho: ∀i:Nat,(aj d ((i:Int)+2)).bad=(aj c ((i:Int)+2)).bad/\(aj d ((i:Int)+2)).used=(aj c ((i:Int)+2)).used/\(aj d ((i:Int)+2)).aU=(aj c ((i:Int)+2)).aU/\((aj c ((i:Int)+2)).bad=false->c8 c.pages gl i=c8 c.pages fl i)):au d gl=au c fl:=by
 rw[zH (by rw[hk.pages];exact hp) hg,zH hp h,hk.len];refine auw fun i _=>?_;obtain⟨o1,o2,o3,o4⟩:=ho i;rw[pZ,pZ,o1,o2,o3,hk.pages]
 by_cases hb:(aj c ((i:Int)+2)).bad=true
 ·
  rw[if_pos hb,if_pos hb]
 rw[if_neg hb,if_neg hb,o4 (by simpa using hb)]
theorem wE{c:CV}{fl:List Int}{i:Nat}{x:az}(hp:1<=c.pages)(h:Std c fl)(hx:(au c fl)[i]? =some x):x=pZ c fl i/\i<c.blocks.length -2:=by
 rw[zH hp h,atx]at hx;obtain⟨j,hj,rfl⟩:=au1.1 hx;obtain⟨hl,e⟩:=zz.1 hj;rw[List.getElem_range]at e;rw[awj]at hl;exact⟨by rw[e],hl⟩
theorem Nw{c:CV}{fl:List Int}{i:Nat}(hb:(aj c ((i:Int)+2)).bad=false):pZ c fl i=⟨c8 c.pages fl i,(aj c ((i:Int)+2)).used,(aj c ((i:Int)+2)).aU,false⟩:=by rw[pZ,if_neg (by rw[hb];simp)]
theorem Nx{c:CV}{fl:List Int}(hk:aW c=true)(h:Std c fl)(h2:3<=c.blocks.length):mM (au c fl) c.pages=true:=by
 have hd:=eU hk;have dM:=l5 c fl;refine s8.2 ⟨by omega,by omega,by omega,by omega,fun x hx=>?_⟩;obtain⟨i,hi⟩:=atH hx;obtain⟨rfl,fg⟩:=wE (by omega) h hi;have qw:cS=1099511627776:=rfl;rw[pZ];split
 ·
  exact rP.2 (by simp only[bc];omega)
 have hb:=fu.1 (s9 hk (b:=(i:Int)+2) (by omega) (by omega));have:=Wq (by omega) h i hb.2.1;exact rP.2 ⟨by simp only;omega,this,hb.2.2.1,hb.2.2.2.1,hb.2.2.2.2.1⟩
theorem BI{R:az->Bool}{l:List az}{p:Int}(h:mM l p=true):mM (cg R l) p=true:=by
 obtain⟨h1,h2,h3,h4,h5⟩:=s8.1 h;refine s8.2 ⟨by rw[xx];exact h1,by rw[xx];exact h2,h3,h4,fun x hx=>?_⟩;obtain⟨y,hy,rfl⟩:=auq.1 hx;rw[iE];split
 ·
  have qw:cS=1099511627776:=rfl;exact rP.2 (by simp only[bc];omega)
 exact h5 y hy
theorem aik{l:List az}{p:Int}(h:mM l p=true)(i:Nat):mM (l.set i bc) p=true:=by
 obtain⟨h1,h2,h3,h4,h5⟩:=s8.1 h;refine s8.2 ⟨by rw[atV];exact h1,by rw[atV];exact h2,h3,h4,fun x hx=>?_⟩;rcases at0 hx with g|rfl
 ·
  exact h5 x g
 have qw:cS=1099511627776:=rfl;exact rP.2 (by simp only[bc];omega)
theorem Il{c:CV}{b k:Int}{p:List UInt8}(h:bA c b p=0)(hk:k.toNat≠b.toNat):aj (bx c b p) k=aj c k:=by
 obtain⟨h1,_,_,_,e⟩:=qv h;obtain⟨_,h3,h4⟩:=ij.1 (jQ.1 h1).1;rw[e,iL,u9 (by omega),if_neg hk]
theorem En{c:CV}{b:Int}{p:List UInt8}(h:bA c b p=0):(aj (bx c b p) b).used=(aj c b).used+1/\(aj (bx c b p) b).aU=(aj c b).aU/\(aj (bx c b p) b).bad=false:=by
 obtain⟨h1,_,h3,_,e⟩:=qv h;rw[e,iL,rf (jQ.1 h1).1];exact⟨rfl,rfl,h3⟩
theorem Ws{c:CV}{fl gl:List Int}{i0:Nat}{pg:List UInt8}(hk:aW c=true)(h:Std c fl)(hz:bA c ((i0:Int)+2) pg=0)(hm: ∀m,m∈gl↔m∈fl\/m=((i0:Int)+2)*c.pages+(aj c ((i0:Int)+2)).used+1):
  au (bx c ((i0:Int)+2) pg) gl=(au c fl).set i0 ⟨c8 c.pages fl i0+1,(aj c ((i0:Int)+2)).used+1,(aj c ((i0:Int)+2)).aU,false⟩/\Std (bx c ((i0:Int)+2) pg) gl:=by
 have hd:=eU hk;have fB:=iP c ((i0:Int)+2) pg;obtain⟨q1,q2,q3,q4⟩:=H8 (L:=fl) (by omega) hz;have fU:=jQ.1 (qv hz).1;have hb:(((i0:Int)+2)*c.pages+(aj c ((i0:Int)+2)).used+1 -1)/c.pages=(i0:Int)+2:=by
  rw[auS,avi,auE _ _ (by omega),aum fU.2.1 fU.2.2.1,avn]
 have hn:((i0:Int)+2)*c.pages+(aj c ((i0:Int)+2)).used+1∉fl:=fun iH=>by
  have:=h _ iH (by omega);rw[auS,q4]at this;cases this
 have hS:Std (bx c ((i0:Int)+2) pg) gl:=fun m rK h0=>by
  rcases(hm m).1 rK with g|g
  ·
   exact h.kd (H2 (L:=fl)) (fun _ k=>k) m g h0
  ·
   rw[g,auS];exact q1
 have hl:=Nt (by omega) hb hn hm;obtain⟨a1,a2,a3⟩:=En hz;refine⟨Nu (by omega) h hS fB (fun i hi=>⟨Il hz (by omega),by rw[hl i,if_neg hi];rfl⟩) ?_,hS⟩;rw[Nw a3,fB.pages,hl i0,if_pos rfl,a1,a2];rfl
theorem Wt: ∀(n:Nat) {c:CV} {b:Int},(eS n c b).2=0->(∀k:Int,k.toNat≠b.toNat->aj (eS n c b).1 k=aj c k)/\(aj (eS n c b).1 b).used=0/\(aj (eS n c b).1 b).aU=(aj c b).aU+1/\(aj (eS n c b).1 b).bad=false
 |0,c,b,h=>by
  obtain⟨e1,_,e3,e4,e5⟩:=Db h;have hh:=(qp.1 e1).1;obtain⟨_,h3,h4⟩:=ij.1 hh;show(∀k:Int,k.toNat≠b.toNat->aj (du c b) k=aj c k)/\(aj (du c b) b).used=0/\(aj (du c b) b).aU=(aj c b).aU+1/\(aj (du c b) b).bad=false;rw[e5];refine⟨fun k hk=>by rw[lj,u9 (by omega),if_neg hk],?_⟩;rw[lj,rf hh,e4];exact⟨rfl,rfl,e3⟩
 |n+1,c,b,h=>by
  rw[eS]at h⊢
  by_cases h0:bA c b (iO c)≠0
  ·
   rw[if_pos h0]at h;exact absurd h h0
  rw[if_neg h0]at h⊢;have rL:bA c b (iO c)=0:=by simpa using h0
  obtain⟨g1,g2,g3,g4⟩:=Wt n h;exact⟨fun k hk=>(g1 k hk).trans (Il rL hk),g2,by rw[g3,(En rL).2.1],g4⟩
theorem Im{c:CV}{fl:List Int}{i0:Nat}(hk:aW c=true)(h:Std c fl)(hd:kU fl c ((i0:Int)+2))(hz:(cG c ((i0:Int)+2)).2=0):au (cG c ((i0:Int)+2)).1 fl=(au c fl).set i0 ⟨0,0,(aj c ((i0:Int)+2)).aU+1,false⟩/\Std (cG c ((i0:Int)+2)).1 fl:=by
 have hdm:=eU hk;have kp:=zE (L:=fl) (c:=c) (b:=(i0:Int)+2) (by omega) hd;have hS:=h.kd kp.toKd fun _ g=>g;obtain⟨z1,z2,z3,z4⟩:=Wt _ hz;change∀k:Int,k.toNat≠((i0:Int)+2).toNat->aj (cG c ((i0:Int)+2)).1 k=aj c k at z1;change(aj (cG c ((i0:Int)+2)).1 ((i0:Int)+2)).used=0 at z2;change(aj (cG c ((i0:Int)+2)).1 ((i0:Int)+2)).aU=_ at z3;change(aj (cG c ((i0:Int)+2)).1 ((i0:Int)+2)).bad=false at z4;refine⟨Nu (by omega) h hS kp.cj (fun i hi=>⟨z1 _ (by omega),rfl⟩) ?_,hS⟩;rw[Nw z4,kp.cj.pages,z2,z3,(vc (by omega) h i0).2 hd];rfl
structure Ok(n:Nat)(c:CV):Prop where
 ok:gx c=true
 nb: ∀b:Int,(aj c b).bad=false
 off:c.off=false
 cut: ∀f∈c.aD,f.fail=true->f.cut=true
 ops:c.ops+n<cS
 aU: ∀b:Int,(aj c b).aU+n<cS
theorem Ok.mono{n m:Nat}{c:CV}(h:Ok n c)(hm:m<=n):Ok m c:=⟨h.ok,h.nb,h.off,h.cut,by have:=h.ops;omega,fun b=>by have:=h.aU b;omega⟩
theorem Ok.El{n:Nat}{c:CV}(h:Ok n c)(hs:(br c).2=true):(br c).1.cut=true:=by
 rw[br]at hs⊢
 cases hf:c.aD.find? fun f=>decide (f.op=c.ops)with
 |none=>rw[hf]at hs;cases hs
 |some x=>
  rw[hf]at hs;simp only[auA]at hs;exact hs.elim id fun g=>h.cut x (avK hf) g
theorem Ok.ae{n:Nat}{c:CV}(h:Ok n c):aW c=true:=(fF.1 h.ok).1
theorem Wu{c d:CV}(h:gx c=true)(hk:aW d=true)(hl:dU c d):gx d=true:=by
 obtain⟨h1,h2,h3,h4⟩:=fF.1 h;exact fF.2 ⟨hk,by rw[hl.len];exact h2,by rw[hl.pages];exact h3,by rw[hl.size];exact h4⟩
theorem Ok.prog{n:Nat}{c:CV}{b:Int}{p:List UInt8}(h:Ok (n+1) c)(h0:0<=b)(h1:b<c.blocks.length)(hu:(aj c b).used<c.pages)(hl:(p.length:Int)=c.size):(bA c b p=0/\Ok n (bx c b p))\/bA c b p=7:=by
 have hh:ig c b=true:=ij.2 ⟨h.ae,h0,h1⟩;have oY:=fu.1 (rb hh);have Ww:=h.ops;have fU:oC c b (aj c b).used p=true:=jQ.2 ⟨hh,oY.2.1,hu,hl,by omega⟩
 by_cases hs:(br c).2=true
 ·
  right;rw[bA,kj,if_pos fU,if_neg (by rw[h.off];simp),if_neg (by rw[h.nb b];simp),if_pos hs,lW,if_pos (h.El hs)]
 left;have hz:bA c b p=0:=by
  rw[bA,kj,if_pos fU,if_neg (by rw[h.off];simp),if_neg (by rw[h.nb b];simp),if_neg hs]
 refine⟨hz,?_⟩;have e:=(qv hz).2.2.2.2;have hf:(bx c b p).aD=c.aD:=by rw[e];rfl
 have ho:(bx c b p).ops=c.ops+1:=by rw[e];rfl
 have lK:(bx c b p).off=false:=by rw[e,iL,(show(br c).2=false by simpa using hs)];rfl
 have kO:=En hz;have tI: ∀k:Int,(aj (bx c b p) k).bad=false/\(aj (bx c b p) k).aU=(aj c k).aU:=fun k=>by
  by_cases hk:k.toNat=b.toNat
  ·
   have e1:aj (bx c b p) k=aj (bx c b p) b:=by simp only[aj,hk]
   have e2:aj c k=aj c b:=by simp only[aj,hk]
   rw[e1,e2];exact⟨kO.2.2,kO.2.1⟩
  rw[Il hz hk];exact⟨h.nb k,rfl⟩
 exact⟨Wu h.ok (lZ h.ae b p) (iP c b p),fun k=>(tI k).1,lK,by rw[hf];exact h.cut,by rw[ho];omega,fun k=>by rw[(tI k).2];have:=h.aU k;omega⟩
theorem Ok.erase{n:Nat}{c:CV}{b:Int}(h:Ok (n+1) c)(h0:0<=b)(h1:b<c.blocks.length):(dY c b=0/\Ok n (du c b))\/dY c b=7:=by
 have hh:ig c b=true:=ij.2 ⟨h.ae,h0,h1⟩;have Ww:=h.ops;have hwb:=h.aU b;have Wx:pF c b=true:=qp.2 ⟨hh,by omega,by omega⟩
 by_cases hs:(br c).2=true
 ·
  right;rw[dY,if_pos Wx,if_neg (by rw[h.off];simp),if_neg (by rw[h.nb b];simp),if_pos hs,lW,if_pos (h.El hs)]
 left;have hz:dY c b=0:=by
  rw[dY,if_pos Wx,if_neg (by rw[h.off];simp),if_neg (by rw[h.nb b];simp),if_neg hs]
 refine⟨hz,?_⟩;have e:=(Db hz).2.2.2.2;have hf:(du c b).aD=c.aD:=by rw[e];rfl
 have ho:(du c b).ops=c.ops+1:=by rw[e];rfl
 have lK:(du c b).off=false:=by rw[e,lj,(show(br c).2=false by simpa using hs)];rfl
 obtain⟨_,h3,h4⟩:=ij.1 hh;have tI: ∀k:Int,(aj (du c b) k).bad=false/\(aj (du c b) k).aU<=(aj c k).aU+1:=fun k=>by
  rw[e,lj,u9 (by omega)];split
  ·
   rename_i hk;have e2:aj c k=aj c b:=by simp only[aj,hk]
   rw[e2];exact⟨h.nb b,by simp only;omega⟩
  exact⟨h.nb k,by omega⟩
 exact⟨Wu h.ok (C6 h.ae b) (xv c b),fun k=>(tI k).1,lK,by rw[hf];exact h.cut,by rw[ho];omega,fun k=>by have:=(tI k).2;have:=h.aU k;omega⟩
theorem ail{c:CV}(h:gx c=true):((iO c).length:Int)=c.size:=by
 obtain⟨h1,_,_,h4⟩:=fF.1 h;have hd:=eU h1;have hf:oD c.size=true:=sZ.2 ⟨h4,by omega⟩;exact Ec (rM.2 ⟨hf, .inl rfl,by decide,by decide,by show(0:Nat)<_;omega,by rw[dW,if_pos hf];simp only[anc];omega⟩)
theorem Ok.clear{n:Nat}: ∀(m:Nat) {c:CV} {b:Int},Ok (n+(m+1)) c->0<=b->b<c.blocks.length->(m:Int)<=c.pages -(aj c b).used->((eS m c b).2=0/\Ok n (eS m c b).1)\/(eS m c b).2=7
 |0,c,b,h,h0,h1,hm=>h.erase h0 h1
 |m+1,c,b,h,h0,h1,hm=>by
  rcases h.prog (n:=n+(m+1)) (p:=iO c) h0 h1 (by omega) (ail h.ok)with⟨e,g⟩|e
  ·
   rw[eS,if_neg (by rw[e];simp)];have fB:=iP c b (iO c);exact Ok.clear m g h0 (by rw[fB.len];exact h1) (by rw[fB.pages,(En e).1];omega)
  right;rw[eS,if_pos (by rw[e];decide)];exact e
theorem Ok.Io{n:Nat}{c:CV}{b:Int}(h:Ok (n+17) c)(h0:0<=b)(h1:b<c.blocks.length):((cG c b).2=0/\Ok n (cG c b).1)\/(cG c b).2=7:=by
 have hd:=eU h.ae;have oY:=fu.1 (s9 h.ae h0 h1);have hf:ei c b=c.pages -(aj c b).used:=by rw[ei,if_neg (by rw[h.nb b];simp)]
 exact Ok.clear (n:=n) (ei c b).toNat (h.mono (by omega)) h0 h1 (by omega)
theorem Ok.root{n:Nat}{c:CV}{last:Int}(h:Ok (n+1) c)(hl:last=0\/last=1):((aY c last).2.2=0/\Ok n (aY c last).1)\/(aY c last).2.2=7:=by
 have h4:=(fF.1 h.ok).2.1;rw[aY];split
 ·
  exact .inl ⟨rfl,h.mono (by omega)⟩
 split
 ·
  exact .inl ⟨rfl,h.mono (by omega)⟩
 split
 ·
  rename_i hb;rw[h.nb]at hb;cases hb
 exact h.erase (by omega) (by omega)
structure Ip(c:CV)(g:Nat)(a:List Int):Prop where
 gen:g+1<281474976710656
 len:(a.length:Int)<=kJ c.size
 num: ∀x∈a,0<=x/\x<=65535
theorem Ip.put{c:CV}{g:Nat}{a:List Int}(h:Ip c g a)(hb:gx c=true):(cX ⟨g+1,a⟩ c.size).2=0/\((cX ⟨g+1,a⟩ c.size).1.length:Int)=c.size:=by
 obtain⟨h1,_,_,h4⟩:=fF.1 hb;have hd:=eU h1;have hf:oD c.size=true:=sZ.2 ⟨h4,by omega⟩;have hm:pJ ⟨g+1,a⟩ c.size=true:=xq.2 ⟨by rw[dW,if_pos hf];omega,h.gen,h.len,fun x hx=>C1.2 (h.num x hx)⟩;refine⟨?_,VF hm⟩;rw[cX,if_pos hm,dt,if_pos (M7 hm)]
theorem aim{c:CV}{last:Int}(hl:last=0\/last=1)(i:Nat):aj (aY c last).1 ((i:Int)+2)=aj c ((i:Int)+2):=by
 rw[aY];split
 ·
  rfl
 split
 ·
  rfl
 split
 ·
  rfl
 show aj (du c (1 -last)) ((i:Int)+2)=_;rw[du,iN];split
 ·
  rw[lX];split
  ·
   rename_i hm;have hh:ig (gf c (1 -last)) (1 -last)=true:=by
    cases hq:ig (gf c (1 -last)) (1 -last)with
    |true=>rfl
    |false=>rw[qq,if_neg (by rw[hq];simp)]at hm;cases hm
   obtain⟨_,h3,h4⟩:=ij.1 hh;have:=u9 (c:=gf c (1 -last)) (o:=(gf c (1 -last)).ops) (f:=(gf c (1 -last)).off) (B:={aj (gf c (1 -last)) (1 -last)with bad:=true}) (show(1 -last).toNat<(gf c (1 -last)).blocks.length by omega) ((i:Int)+2);rw[if_neg (by omega)]at this;rw[this,BE (by omega)]
  rw[BE (by omega)]
 rw[BE (by omega)]
theorem Wz{n:Nat}{x:WV}{a:List Int}(hx:cY x)(h:Ok (n+2) x.v.ae)(hr:Ip x.v.ae x.v.gen a):((dQ x a).2=0/\Ok n (dQ x a).1.v.ae/\(dQ x a).1.v.at_=a/\(dQ x a).1.v.gen=x.v.gen+1/\(∀i:Nat,aj (dQ x a).1.v.ae ((i:Int)+2)=aj x.v.ae ((i:Int)+2))/\(dQ x a).1.beyond=x.beyond)\/(dQ x a).2=7:=by
 obtain⟨p1,p2⟩:=hr.put h.ok;have Ww:=h.ops;have hl:=hx.last;have h4:=(fF.1 h.ok).2.1;rw[dQ,if_neg (by rw[p1];simp)];obtain⟨m,hm⟩: ∃m,(cS -x.v.ae.ops).toNat+1=m+1:=⟨_,rfl⟩;rw[hm,gh];rcases Ok.root (n:=n+1) (last:=x.v.last) h hl with⟨e,g⟩|e
 ·
  rw[if_neg (by rw[e];simp)];have bN:=GQ (c:=x.v.ae) (last:=x.v.last) h.ae hl;have qX:=(bN.2.2.2 e).1;have ain:=aio (c:=x.v.ae) (last:=x.v.last) h.ae hl e;rcases g.prog (n:=n) (b:=(aY x.v.ae x.v.last).2.1) (p:=(cX ⟨x.v.gen+1,a⟩ x.v.ae.size).1) (by omega) (by rw[bN.2.1.len];omega) (by
   rw[ei,if_neg (by rw[g.nb];simp)]at ain;omega) (by rw[bN.2.1.size];exact p2)with⟨e2,g2⟩|e2
  ·
   rw[if_pos e2];left;refine⟨rfl,g2,rfl,rfl,fun i=>?_,rfl⟩;show aj (bx (aY x.v.ae x.v.last).1 (aY x.v.ae x.v.last).2.1 _) ((i:Int)+2)=_;rw[Il e2 (by omega)];exact aim hl i
  right;rw[if_neg (by rw[e2];decide),if_pos (by rw[e2];decide)];exact e2
 right;rw[if_pos (by rw[e];decide)];exact e
where
 aio {c:CV} {last:Int} (hk:aW c=true) (hl:last=0\/last=1) (he:(aY c last).2.2=0):0<ei (aY c last).1 (aY c last).2.1:=by
  rw[aY]at he⊢
  by_cases h1:0<ei c last
  ·
   rw[if_pos h1];exact h1
  rw[if_neg h1]at he⊢
  by_cases h2:0<ei c (1 -last)
  ·
   rw[if_pos h2];exact h2
  rw[if_neg h2]at he⊢
  by_cases h3:(aj c (1 -last)).bad=true
  ·
   rw[if_pos h3]at he;cases he
  rw[if_neg h3]at he⊢;obtain⟨e1,e2,e3,e4,e5⟩:=Db he;have hh:=(qp.1 e1).1;have hd:=eU hk;show 0<ei (du c (1 -last)) (1 -last);rw[e5,ei,lj,rf hh,e4,e3];simp only[at1,if_false];omega
def kV(p:Int)(x:az):Nat:=if x.bad=true then 0 else if x.live=0 then(if 0<x.used/\x.used<p then 1 else 0)else(x.used -x.live).toNat
def p0(p:Int)(l:List az):Nat:=(l.map (kV p)).sum
theorem WA{f:az->Nat}: ∀{l:List az} {i:Nat} {x y:az},l[i]? =some y->((l.set i x).map f).sum+f y=(l.map f).sum+f x
 |[],i,x,y,h=>by simp at h
 |z::r,0,x,y,h=>by
  obtain rfl:z=y:=by simpa using h
  simp only[auN,atI,av1];omega
 |z::r,i+1,x,y,h=>by
  have:=WA (f:=f) (l:=r) (i:=i) (x:=x) (y:=y) (by simpa using h);simp only[avH,atI,av1];omega
theorem Eo{p:Int}{l:List az}{i:Nat}{x y:az}(h:l[i]? =some y):p0 p (l.set i x)+kV p y=p0 p l+kV p x:=WA h
theorem WB{f:az->Nat}: ∀{l:List az},(∀x∈l,f x=0)->(l.map f).sum=0
 |[],_=>rfl
 |z::r,h=>by
  rw[atI,av1,h z at2,WB fun x hx=>h x (atF _ hx)]
theorem aip{b:List UInt8}(h:(cM b).2=0)(hk:(cM b).1.kind≠0):mI (cM b).1 b.length=true:=by
 rw[cM]at h hk⊢
 by_cases h1:oD b.length=false
 ·
  rw[if_pos h1]at h;cases h
 rw[if_neg h1]at h hk⊢
 by_cases h2:km b=true
 ·
  rw[if_pos h2]at hk;exact absurd rfl hk
 rw[if_neg h2]at h hk⊢
 by_cases h3:de (yX b)≠oB (mJ b)
 ·
  rw[if_pos h3]at h;cases h
 rw[if_neg h3]at h hk⊢
 by_cases h4:pI b=false
 ·
  rw[if_pos h4]at h;cases h
 rw[if_neg h4]at h hk⊢
 by_cases h5:xp (oE b)=false
 ·
  rw[if_pos h5]at h;cases h
 rw[if_neg h5];have hf:pI b=true:=by simpa using h4
 rw[pI,ad2,decide_eq_true_eq]at hf;obtain⟨m1,m2,m3,m4,m5,m6⟩:=rM.1 hf.2;exact rM.2 ⟨m1,m2,m3,m4,m5,by
  have:((b.drop 10).take (10+iD b -10)).length<=iD b:=by rw[atq];omega
  show(((b.drop 10).take (10+iD b -10)).length:Int)<=_;omega⟩
theorem Ok.tell{n:Nat}{c:CV}{fl:List Int}(h:Ok n c)(i:Nat):pZ c fl i=⟨c8 c.pages fl i,(aj c ((i:Int)+2)).used,(aj c ((i:Int)+2)).aU,false⟩:=Nw (h.nb _)
theorem Ok.get{n:Nat}{c:CV}{fl:List Int}(h:Ok n c)(hs:Std c fl){i:Nat}(hi:i<c.blocks.length -2):(au c fl)[i]? =some ⟨c8 c.pages fl i,(aj c ((i:Int)+2)).used,(aj c ((i:Int)+2)).aU,false⟩:=by
 have hd:=eU h.ae;rw[zH (by omega) hs,atx,auU hi,at3,h.tell]
theorem Ok.getD{n:Nat}{c:CV}{fl:List Int}(h:Ok n c)(hs:Std c fl){i:Nat}(hi:i<c.blocks.length -2):(au c fl).getD i dZ=⟨c8 c.pages fl i,(aj c ((i:Int)+2)).used,(aj c ((i:Int)+2)).aU,false⟩:=by
 have:=h.get hs hi;simp only[List.getD,this,avb]
theorem Ok.BJ{n:Nat}{c:CV}(h:Ok n c){i:Nat}(hi:i<c.blocks.length -2):0<=(aj c ((i:Int)+2)).used/\(aj c ((i:Int)+2)).used<=c.pages:=by
 have hb:=fu.1 (s9 h.ae (b:=(i:Int)+2) (by omega) (by omega));exact⟨hb.2.1,hb.2.2.1⟩
theorem Ok.WC{n:Nat}{c:CV}{fl:List Int}(h:Ok n c)(hs:Std c fl){i:Nat}(hi:i<c.blocks.length -2):(c8 c.pages fl i:Int)<=(aj c ((i:Int)+2)).used:=by
 have hd:=eU h.ae;exact Wq (by omega) hs i (h.BJ hi).1
theorem WD(l:List az): ∀k,0<(gH l k).2->(gH l k).1.toNat<k/\(l.getD (gH l k).1.toNat dZ).bad=false/\(l.getD (gH l k).1.toNat dZ).live≠0/\(gH l k).2=(l.getD (gH l k).1.toNat dZ).used -(l.getD (gH l k).1.toNat dZ).live
 |0,h=>by simp[gH]at h
 |k+1,h=>by
  have ih:=WD l k;rw[gH,xD]at h⊢
  by_cases h1:(l.getD k dZ).bad=true\/(l.getD k dZ).live=0\/cS<=(l.getD k dZ).aU
  ·
   rw[if_pos h1]at h⊢;obtain⟨i1,i2⟩:=ih h;exact⟨by omega,i2⟩
  rw[if_neg h1]at h⊢
  by_cases h2:(gH l k).2<(l.getD k dZ).used -(l.getD k dZ).live
  ·
   rw[if_pos h2];simp only[auy];exact⟨by omega,by
    cases hb:(l.getD k dZ).bad with
    |false=>rfl
    |true=>exact absurd (.inl hb) h1,fun g=>h1 (.inr (.inl g)),trivial⟩
  rw[if_neg h2]at h⊢;obtain⟨i1,i2⟩:=ih h;exact⟨by omega,i2⟩
theorem WE(l:List az){j:Nat}(h1:(l.getD j dZ).bad=false)(h2:(l.getD j dZ).live≠0)(h3:(l.getD j dZ).aU<cS): ∀k,j<k->(l.getD j dZ).used -(l.getD j dZ).live<=(gH l k).2
 |0,h=>by omega
 |k+1,h=>by
  rw[gH,xD]
  by_cases e:j=k
  ·
   subst e;rw[if_neg (by rintro(g|g|g);rw[h1]at g;cases g;exact h2 g;omega)];split
   ·
    exact aul _
   omega
  have ih:=WE l h1 h2 h3 k (by omega);split
  ·
   exact ih
  split
  ·
   simp only;omega
  exact ih
theorem aiq{n:Nat}{c:CV}{fl:List Int}(h:Ok n c)(hs:Std c fl)(hv:(iR (au c fl) c.pages).2=true):
  ∃i:Nat,(iR (au c fl) c.pages).1=i/\i<c.blocks.length -2/\0<c8 c.pages fl i/\(c8 c.pages fl i:Int)<(aj c ((i:Int)+2)).used:=by
 have hd:=eU h.ae;have Ih:=K4 hv;rw[l5]at Ih;refine⟨(iR (au c fl) c.pages).1.toNat,by omega,by omega,?_⟩;have nz:=h.getD hs (i:=(iR (au c fl) c.pages).1.toNat) (by omega);rw[iR]at hv nz⊢
 by_cases h1:(vR (au c fl) c.pages).2=true
 ·
  rw[if_pos h1]at nz⊢;obtain⟨f1,f2,f3,f4⟩:=AP h1;simp only at nz⊢;change y5 c.pages ((au c fl).getD (vR (au c fl) c.pages).1.toNat dZ)=true at f4;rw[nz,y5]at f4;simp only[at1,if_false,ad2,decide_eq_true_eq]at f4;omega
 ·
  rw[if_neg h1]at hv nz⊢;simp only[decide_eq_true_eq]at hv nz⊢;obtain⟨_,s1,s2,s3⟩:=WD _ _ hv;rw[nz]at s2 s3;simp only at s2 s3;omega
theorem air{n:Nat}{c:CV}{fl:List Int}(h:Ok n c)(hs:Std c fl){j:Nat}(hj:j<c.blocks.length -2)(h1:0<c8 c.pages fl j)(h2:(c8 c.pages fl j:Int)<(aj c ((j:Int)+2)).used):(iR (au c fl) c.pages).2=true:=by
 rw[iR];split
 ·
  rfl
 have nz:=h.getD hs hj;have:=WE (au c fl) (j:=j) (by rw[nz]) (by rw[nz];simp only;omega) (by rw[nz];have:=h.aU ((j:Int)+2);simp only;omega) (au c fl).length (by rw[l5];exact hj);rw[nz]at this;simp only[decide_eq_true_eq]at this⊢;omega
theorem BK{R:az->Bool}{x:az}(h:x.bad=false)(hR:R x=true):iE R x=x:=by
 rw[iE,if_neg];rintro(g|g)
 ·
  rw[h]at g;cases g
 rw[hR]at g;cases g
theorem Iq{α:Type}{l:List α}{i:Nat}{x:α}(h:l[i]? =some x):l.set i x=l:=xo h
theorem ais{n:Nat}{c:CV}{fl:List Int}{i j:Nat}(h:Ok (n+17) c)(hs:Std c fl)(hj:j<c.blocks.length -2)(cF:j≠i)(hd0:c8 c.pages fl j=0):
  (∃(t:Nat) (w:Int),t≠i/\t<c.blocks.length -2/\c8 c.pages fl t=0/\(bY c ((au c fl).set i bc)).2=((t:Int)+2,0)/\Ok n (bY c ((au c fl).set i bc)).1/\au (bY c ((au c fl).set i bc)).1 fl=(au c fl).set t ⟨0,0,w,false⟩/\Kp fl c (bY c ((au c fl).set i bc)).1)\/(bY c ((au c fl).set i bc)).2.2=7:=by
 have hd:=eU h.ae;have MW:=Nx h.ae hs (by omega);have hw:=aik MW i;have hgj:=h.get hs hj;have lT:(⟨c8 c.pages fl j,(aj c ((j:Int)+2)).used,(aj c ((j:Int)+2)).aU,false⟩:az)∈(au c fl).set i bc:=by
  refine alM (i:=j) ?_;rw[atZ (fun e=>cF e.symm)];exact hgj
 have Ny:=h.BJ hj;have Ep:=h.aU ((j:Int)+2);have WG: ∀{k:Nat} {x:az},((au c fl).set i bc)[k]? =some x->x.bad=false->k≠i/\k<c.blocks.length -2/\x=⟨c8 c.pages fl k,(aj c ((k:Int)+2)).used,(aj c ((k:Int)+2)).aU,false⟩:=fun{k x} hx hb=>by
  have hk:k≠i:=fun e=>by
   rw[e,auo]at hx;rw[if_pos rfl]at hx;split at hx
   ·
    obtain rfl:=atl hx;cases hb
   ·
    cases hx
  rw[atZ (fun e=>hk e.symm)]at hx;obtain⟨rfl,hl⟩:=wE (by omega) hs hx;exact⟨hk,hl,h.tell k⟩
 have WH: ∀{d:Int×Bool},(∃x,((au c fl).set i bc)[d.1.toNat]? =some x/\x.bad=false/\x.live=0)->0<=d.1->
   ((∃(t:Nat) (w:Int),t≠i/\t<c.blocks.length -2/\c8 c.pages fl t=0/\(d.1+2,(cG c (d.1+2)).2)=((t:Int)+2,0)/\Ok n (cG c (d.1+2)).1/\au (cG c (d.1+2)).1 fl=(au c fl).set t ⟨0,0,w,false⟩/\Kp fl c (cG c (d.1+2)).1)\/(cG c (d.1+2)).2=7):=fun{d} hx h0=>by
  obtain⟨x,hx,hb,hl⟩:=hx;obtain⟨k1,k2,k3⟩:=WG hx hb;rw[k3]at hl;simp only at hl;have e:d.1=((d.1.toNat:Nat):Int):=by omega
  rw[e];have nn:=(vc (by omega) hs d.1.toNat).1 (by omega);rcases h.Io (b:=((d.1.toNat:Nat):Int)+2) (by omega) (by omega)with⟨z,g⟩|z
  ·
   left;exact⟨d.1.toNat,_,k1,k2,by omega,by rw[z],g,(Im h.ae hs nn z).1,zE (by omega) nn⟩
  ·
   exact .inr z
 rw[bY]
 by_cases hA:(mO c ((au c fl).set i bc)).2=true
 ·
  rw[if_pos hA];left;obtain⟨x,hx,a1,a2,a3,a4,a5⟩:=pL (fun x h=>(ta h).1) hA;have w9:((au c fl).set i bc)[(mO c ((au c fl).set i bc)).1.toNat]? =some x:=hx;change 0<=(mO c ((au c fl).set i bc)).1 at a4;generalize mO c ((au c fl).set i bc)=T at*;obtain⟨k1,k2,k3⟩:=WG w9 a1;simp only[rT,decide_eq_true_eq]at a2;rw[k3]at a2;simp only at a2;have Tj:=h.WC hs k2;have kI:c8 c.pages fl T.1.toNat=0:=by omega
  refine⟨T.1.toNat,(aj c ((T.1.toNat:Int)+2)).aU,k1,k2,kI,by simp only;rw[aun a4],h.mono (by omega),?_, .dk _ _⟩;refine(Iq ?_).symm;have:=h.get hs k2;rw[kI,a2]at this;exact this
 ·
  rw[if_neg hA];have Nz:=uz (BI (R:=rT) hw) (show(gg (cg rT ((au c fl).set i bc)) c.pages (nk c.pages) [AM,s0]).2=false by simpa[mO,fD]using hA);have DL:(aj c ((j:Int)+2)).used≠0:=fun e=>by
   have:=Nz _ (atK (f:=iE rT) lT);rw[BK rfl (by simp[rT,e]),nk]at this;simp only[avo,aup,decide_eq_false_iff_not]at this;omega
  have Ir:mL ⟨c8 c.pages fl j,(aj c ((j:Int)+2)).used,(aj c ((j:Int)+2)).aU,false⟩=true:=by
   simp only[mL,hd0,avo,aup,ad2,decide_eq_true_eq];exact⟨rfl,by omega⟩
  by_cases hB:(jT c ((au c fl).set i bc)).2=true
  ·
   rw[if_pos hB];obtain⟨x,hx,a1,a2,a3,a4,a5⟩:=pL (fun x h=>(l8 h).1) hB;exact WH (d:=jT c ((au c fl).set i bc)) ⟨x,hx,a1,(l8 a3).2.1⟩ a4
  ·
   rw[if_neg hB];have NA:=uz (BI (R:=tg c.pages) hw) (show(gg (cg (tg c.pages) ((au c fl).set i bc)) c.pages mL [s0]).2=false by simpa[jT,fG]using hB);have hup:(aj c ((j:Int)+2)).used≠c.pages:=fun e=>by
    have:=NA _ (atK (f:=iE (tg c.pages)) lT);rw[BK rfl (by simp[tg,e]),Ir]at this
    cases this
   by_cases hD:(jU c ((au c fl).set i bc)).2=true
   ·
    rw[if_pos hD];obtain⟨x,hx,a1,a2,a3,a4,a5⟩:=pL (fun x h=>(l8 h).1) hD;exact WH (d:=jU c ((au c fl).set i bc)) ⟨x,hx,a1,(l8 a3).2.1⟩ a4
   ·
    exfalso;have nO:=uz (BI (R:=th) hw) (show(gg (cg th ((au c fl).set i bc)) c.pages mL [s0]).2=false by simpa[jU,fG]using hD);have:=nO _ (atK (f:=iE th) lT);rw[BK rfl (by simp only[th,decide_eq_true_eq];omega),Ir]at this
    cases this
def Is(p:Int)(b:Int)(n:Int):Bool:=decide (0<n)&&decide ((n -1)/p=b)
def vd(p:Int)(b:Int)(l:List Int):Nat:=(l.filter (Is p b)).length
theorem ait(P:Int->Bool): ∀(l:List Int),((List.range l.length).filter fun j=>P (l.getD j 0)).length=(l.filter P).length:=by
 intro l;have key: ∀k,k<=l.length->((List.range k).filter fun j=>P (l.getD j 0)).length=((l.take k).filter P).length:=by
  intro k
  induction k with
  |zero=>intro _;simp
  |succ k ih=>
   intro hk;have hy:=atp (show k<l.length by omega);rw[auF,auG,adr,ih (by omega),atr,hy,auG,adr,qu hy|>fun e=>(show(List.filter (fun j=>P (l.getD j 0)) [k]).length=(List.filter P [l[k]]).length by
    have:l.getD k 0=l[k]:=e;simp only[auu,avB,this];split<;>rfl)]
   rfl
 have:=key l.length (att _);rwa [atP]at this
theorem aiu{v:VV}(h:fq v)(i:Nat):vd v.ae.pages ((i:Int)+2) v.at_=c8 v.ae.pages v.at_ i:=by
 have hp:1<=v.ae.pages:=by have:=(fF.1 h.bears).2.2.1;omega
 rw[←Ik hp i (h.pl.ny.pos hp),adI (Eg.2 h) i,Lg,vd];exact(ait (Is v.ae.pages ((i:Int)+2)) v.at_).symm
theorem WI{c:CV}{fl:List Int}(hk:aW c=true)(h:Std c fl): ∀x∈fl,0<=x/\x<=65535:=fun x hx=>by
 have hd:=eU hk;rcases h.pos (by omega) x hx with h0|h1
 ·
  omega
 have hp:=ni.1 (h x hx (by omega));have:=KV (n:=x) hd.2.2.1 hd.2.2.2.1 hd.2.1 hp.2.1;omega
theorem aiv{c:CV}(hb:gx c=true){i n:Int}(h:oG c i n=true):mI (cM (bP c (n -1))).1 c.size=true/\(cM (bP c (n -1))).1.id=i/\jl c n=(cM (bP c (n -1))).1.body:=by
 obtain⟨h1,h2,h3,h4⟩:=Ef h;obtain⟨p1,p2,p3⟩:=ni.1 h1;obtain⟨k1,_,k3,_⟩:=fF.1 hb;have oY:=fu.1 (s9 k1 (b:=(n -1)/c.pages) (by omega) p2);have h0:0<=(n -1)%c.pages:=avt _ (by omega);have hj:((n -1)%c.pages).toNat<(aj c ((n -1)/c.pages)).pages.length:=by omega
 have hl:((bP c (n -1)).length:Int)=c.size:=by
  rw[bP];simp only[List.getD];rw[atp hj];exact oY.2.2.2.2.2 _ (ava hj)
 refine⟨?_,h4,by rw[jl,if_pos h2]⟩;have:=aip h2 (by rw[h3];decide);rwa [hl]at this
theorem NB{v:VV}{src:Int}{t:Nat}(AA:(t:Int)+2≠src)(hg:v.gen+1<281474976710656): ∀(l:List Int) (id:Nat) {n:Nat} {c:CV} {a:List Int} {m:Nat} {w:Int},Ok (n+l.length) c->dU v.ae c->t<c.blocks.length -2->Pl c v.at_->Std c a->a.length=v.at_.length->v.at_.drop id=l->(∀j,id<=j->a[j]? =v.at_[j]?)->(∀(j:Nat) (y:Int),v.at_[j]? =some y->(y=0\/(y -1)/v.ae.pages≠src)->a[j]? =some y)->
  c8 c.pages (v.at_++a) t=m->(aj c ((t:Int)+2)).used=m->(m:Int)+vd c.pages src l<=c.pages->
  ((cc v src ((t:Int)+2) l id c a).e=none/\Ok n (cc v src ((t:Int)+2) l id c a).c/\Std (cc v src ((t:Int)+2) l id c a).c (cc v src ((t:Int)+2) l id c a).a/\
   (∃m' w':Int,au (cc v src ((t:Int)+2) l id c a).c (v.at_++(cc v src ((t:Int)+2) l id c a).a)=(au c (v.at_++a)).set t ⟨m',m',w',false⟩)/\
   (∀(j:Nat) (y:Int),v.at_[j]? =some y->(y=0\/(y -1)/v.ae.pages≠src)->(cc v src ((t:Int)+2) l id c a).a[j]? =some y))\/(cc v src ((t:Int)+2) l id c a).e=some 7
 |[],id,n,c,a,m,w,h,fB,ht,hv,ha,dE,hl,gA,dD,oT,Bn,NC=>by
  left;refine⟨rfl,h,ha,⟨m,(aj c ((t:Int)+2)).aU,?_⟩,dD⟩;have:=h.get (fl:=v.at_++a) (hv.ny.append ha) ht;rw[oT,Bn]at this;exact(Iq this).symm
 |y::r,id,n,c,a,m,w,h,fB,ht,hv,ha,dE,hl,gA,dD,oT,Bn,NC=>by
  have hy:v.at_[id]? =some y:=by
   have:=congrArg (fun l:List Int=>l[0]?) hl;simpa using this
  have hr:v.at_.drop (id+1)=r:=by rw[←avp,hl];rfl
  have hp:=fB.pages;have hd:=eU h.ae;rw[cc]
  by_cases h1:y=0\/(y -1)/v.ae.pages≠src
  ·
   rw[if_pos h1];refine NB AA hg r (id+1) (n:=n) (w:=w) (h.mono (by simp only[af0];omega)) fB ht hv ha dE hr (fun j hj=>gA j (by omega)) dD oT Bn ?_;have:vd c.pages src (y::r)=vd c.pages src r:=by
    rw[vd,List.filter_cons_of_neg];rfl;simp only[Is,ad2,decide_eq_true_eq];rintro⟨g1,g2⟩;rcases h1 with g|g
    ·
     omega
    ·
     rw[←hp]at g;exact g g2
   rw[←this];exact NC
  ·
   rw[if_neg h1];have og:y≠0:=fun e=>h1 (.inl e);have hys:(y -1)/c.pages=src:=by rw[hp];exact awk.1 fun e=>h1 (.inr e)
   have Hj:1<=y:=(hv.ny.pos (by omega) y (alM hy)).resolve_left og;have hb:cB c v.at_ a src ((t:Int)+2)=((t:Int)+2,true):=by rw[cB,if_neg (by omega)]
   rw[hb,if_neg (by simp)];have wo:=hv.1 id y hy og;obtain⟨y1,y2,y3⟩:=aiv h.ok wo;obtain⟨z1,z2,z3,z4,z5,z6⟩:=rM.1 y1;rw[y2]at z3 z4;have BF:mI ⟨1,id,((v.gen:Int)+1).toNat,jl c y⟩ c.size=true:=rM.2 ⟨z1, .inl rfl,z3,z4,by simp only;omega,by rw[y3];exact z6⟩;have ND:eo c ((v.gen:Int)+1) id y=((eo c ((v.gen:Int)+1) id y).1,0):=by
    rw[eo,dt,if_pos BF]
   have ca:((eo c ((v.gen:Int)+1) id y).1.length:Int)=c.size:=Ec BF;rw[if_neg (by rw[ND];simp)];have aiw:vd c.pages src (y::r)=vd c.pages src r+1:=by
    rw[vd,List.filter_cons_of_pos];rfl;simp only[Is,ad2,decide_eq_true_eq];exact⟨by omega,hys⟩
   rw[aiw]at NC;rcases h.prog (n:=n+r.length) (b:=(t:Int)+2) (p:=(eo c ((v.gen:Int)+1) id y).1) (by omega) (by omega) (by omega) ca with⟨z,g⟩|z
   ·
    rw[if_neg (by rw[z];simp)];have e2:(t:Int)+2=((t:Nat):Int)+2:=rfl;generalize hN:((t:Int)+2)*v.ae.pages+(aj c ((t:Int)+2)).used+1=N;have lT: ∀k,k∈v.at_++a.set id N↔k∈v.at_++a\/k=((t:Int)+2)*c.pages+(aj c ((t:Int)+2)).used+1:=fun k=>by
     rw[hp,hN,atu,atu];have hid:id<a.length:=by rw[dE];exact(zz.1 hy).1
     constructor
     ·
      rintro(q|q)
      ·
       exact .inl (.inl q)
      ·
       rcases at0 q with q|q
       ·
        exact .inl (.inr q)
       ·
        exact .inr q
     ·
      rintro((q|q)|q)
      ·
       exact .inl q
      ·
       obtain⟨j,hj⟩:=atH q
       by_cases e:j=id
       ·
        rw[e,gA id (att _)]at hj;exact .inl (alM hj)
       ·
        right;exact alM (i:=j) (by rw[atZ (fun g=>e g.symm)];exact hj)
      ·
       right;rw[q];exact alM (i:=id) (by rw[atE hid])
    obtain⟨b1,b2⟩:=Ws h.ae (hv.ny.append ha) z lT;have wD:=H2 (L:=v.at_) (c:=c) (b:=(t:Int)+2) (p:=(eo c ((v.gen:Int)+1) id y).1);have pY:=iP c ((t:Int)+2) (eo c ((v.gen:Int)+1) id y).1;have fU:=jQ.1 (qv z).1;have kO:=En z;have fe:(((t:Int)+2)*c.pages+(aj c ((t:Int)+2)).used+1 -1)/c.pages=(t:Int)+2:=by
     rw[auS,avi,auE _ _ (by omega),aum fU.2.1 fU.2.2.1,avn]
    have aix:((t:Int)+2)*c.pages+(aj c ((t:Int)+2)).used+1∉v.at_++a:=fun iH=>by
     have xz:0<=((t:Int)+2)*c.pages:=au6 (by omega) (by omega);have:=hv.ny.append ha _ iH (by have:=fU.2.1;omega);rw[auS,(H8 (L:=[]) (by omega) z).2.2.2]at this;cases this
    have WJ:=Nt (by omega) fe aix lT t;rw[if_pos rfl,oT]at WJ;have ih:=NB AA hg r (id+1) (n:=n) (w:=w) (m:=m+1) (a:=a.set id N) g (fB.trans pY) (by rw[pY.len];exact ht) (hv.kd wD fun _ q=>q) (fun k hk=>b2 k (auO _ hk)) (by rw[atV,dE]) hr (fun j hj=>by rw[atZ (by omega)];exact gA j (by omega)) (fun j q hq Ie=>by
     by_cases e:j=id
     ·
      rw[e,hy]at hq;obtain rfl:=atl hq;exact absurd Ie h1
     ·
      rw[atZ (fun g=>e g.symm)];exact dD j q hq Ie) (by rw[pY.pages];exact WJ) (by rw[kO.1,Bn];rfl) (by rw[pY.pages];omega)
    rcases ih with⟨i1,i2,i3,⟨m',w',i4⟩,i5⟩|i1
    ·
     left;refine⟨i1,i2,i3,⟨m',w',?_⟩,i5⟩;rw[i4,b1,avM]
    ·
     exact .inr i1
   ·
    right;rw[if_pos (by rw[z];decide)];show some (jS (bA c ((t:Int)+2) (eo c ((v.gen:Int)+1) id y).1))=some 7;rw[z];rfl
structure Lv(n:Nat)(x:WV):Prop where
 ok:Ok n x.v.ae
 wr:cY x
 rt:fq x.v
 pl:iG x.v.ae
 kM:(x.v.at_.length:Int)<=kJ x.v.ae.size
 half:2*(x.v.at_.length:Int)<=((x.v.ae.blocks.length:Int) -4)*x.v.ae.pages
 idle: ∃j,j<x.v.ae.blocks.length -2/\c8 x.v.ae.pages x.v.at_ j=0
theorem Lv.mono{n m:Nat}{x:WV}(h:Lv n x)(hm:m<=n):Lv m x:=⟨h.ok.mono hm,h.wr,h.rt,h.pl,h.kM,h.half,h.idle⟩
def nA(x:WV):Nat:=p0 x.v.ae.pages (au x.v.ae x.v.at_)
theorem Lv.next{n m:Nat}{x y:WV}(h:Lv m x)(s:Sf x (cE x.v) y 0)(o:cY y)(k:Ok n y.v.ae)(hi: ∃j,j<y.v.ae.blocks.length -2/\c8 y.v.ae.pages y.v.at_ j=0):Lv n y:=
 ⟨k,o,(s.cK rfl).1,h.pl.kd s.kd,by rw[s.len,s.kd.cj.size];exact h.kM,by rw[s.len,s.kd.cj.len,s.kd.cj.pages];exact h.half,hi⟩
theorem aiy{n:Nat}{x:WV}{i:Nat}(h:Lv (n+100) x)(hg:x.v.gen+2<281474976710656)(hi:i<x.v.ae.blocks.length -2)(h0:0<c8 x.v.ae.pages x.v.at_ i)(h1:(c8 x.v.ae.pages x.v.at_ i:Int)<(aj x.v.ae ((i:Int)+2)).used):
  ((eV x (dm x) i).2=0/\Lv n (eV x (dm x) i).1/\nA (eV x (dm x) i).1<nA x/\(eV x (dm x) i).1.v.gen=x.v.gen+1)\/(eV x (dm x) i).2=7:=by
 obtain⟨j,hj,Ij⟩:=h.idle;have cF:j≠i:=fun e=>by rw[e]at Ij;omega
 have hd:=eU h.ok.ae;have jt:=h.rt.pl.ny;have eQ:x.v.at_.length<=64:=h.wr.kM;have mV:=Wc (l:=dm x) (i:=(i:Int)) h.wr h.rt h.pl (y8 _ _) (H6 _ _) (by omega) (by rw[show(dm x).length=_ from l5 _ _];omega);have nF:=Lc (l:=dm x) (i:=(i:Int)) h.wr (y8 _ _);have sj:=mV.1;have WK:=h.ok.get (fl:=x.v.at_) jt hi;have nz:(dm x).getD i dZ=_:=h.ok.getD (fl:=x.v.at_) jt hi;rcases ais (n:=n+83) (i:=i) h.ok jt hj cF Ij with⟨t,w,t1,t2,t3,t4,t5,t6,t7⟩|tz
 ·
  have dE:rh x.v.ae (dm x) i=false:=by
   rw[rh,show(bY x.v.ae ((dm x).set (i:Int).toNat bc)).2.2=0 from congrArg Prod.snd t4];rfl
  have pX:cP x.v.ae (dm x) i=((t:Int)+2,0):=by
   rw[cP,if_neg (by rw[dE];simp)];exact t4
  rw[eV,pX]at sj nF⊢;rw[if_neg (by simp)]at sj nF⊢;have aL:(i:Int).toNat=i:=rfl;rw[aL]at sj nF⊢;change Ok (n+83) (bY x.v.ae ((dm x).set i bc)).1 at t5;change au (bY x.v.ae ((dm x).set i bc)).1 x.v.at_=(dm x).set t ⟨0,0,w,false⟩at t6;change Kp x.v.at_ x.v.ae (bY x.v.ae ((dm x).set i bc)).1 at t7;generalize(bY x.v.ae ((dm x).set i bc)).1=c1 at*;have Es:=h.rt.kp t7;have fB:=t7.cj;have sE:vd c1.pages ((i:Int)+2) x.v.at_=c8 x.v.ae.pages x.v.at_ i:=by rw[fB.pages];exact aiu h.rt i
  have Ny:=h.ok.BJ hi;have BL:Std c1 x.v.at_:=Es.pl.ny;have uY:au c1 (x.v.at_++x.v.at_)=(dm x).set t ⟨0,0,w,false⟩:=by
   rw[←t6];exact Nv (by rw[fB.pages];omega) BL (BL.append BL) (.dk _) fun k=>⟨rfl,rfl,rfl,fun _=>yh (fun m _=>by rw[atu];exact or_self_iff) (by rw[fB.pages];omega)⟩
  have zv:t<c1.blocks.length -2:=by rw[fB.len];exact t2
  have wR:=t5.get (fl:=x.v.at_++x.v.at_) (BL.append BL) zv;rw[uY,atE (by rw[show(dm x).length=_ from l5 _ _];exact t2)]at wR;have WL:=atl wR;have xY:(aj c1 ((t:Int)+2)).used=0:=(congrArg az.used WL).symm;have vt:c8 c1.pages (x.v.at_++x.v.at_) t=0:=by have:=congrArg az.live WL;simp only at this;omega
  have MZ:=NB (v:=x.v) (src:=(i:Int)+2) (t:=t) (by omega) (by omega) x.v.at_ 0 (n:=n+19) (c:=c1) (a:=x.v.at_) (m:=0) (w:=w) (t5.mono (by omega)) fB zv Es.pl BL rfl rfl (fun _ _=>rfl) (fun _ _ q _=>q) vt xY (by rw[sE,fB.pages];omega);have hmk:=Ia (v:=(x.on c1).v) (src:=(i:Int)+2) (tgt:=(t:Int)+2) (by omega) (fun _=>by omega) (by show 1<=c1.pages;rw[fB.pages];omega) (x.on c1).v.at_ 0 (c:=(x.on c1).v.ae) (a:=(x.on c1).v.at_) (t7.ok h.ok.ae) Es.pl (.dk _ _) Es.pl rfl (fun _=>⟨by omega,by show(t:Int)+2<c1.blocks.length;omega,t5.nb _⟩) rfl (fun _ _=>rfl) (fun j n hj=>by omega) rfl;have ke:cc x.v ((i:Int)+2) ((t:Int)+2) x.v.at_ 0 c1 x.v.at_=cc (x.on c1).v ((i:Int)+2) ((t:Int)+2) (x.on c1).v.at_ 0 (x.on c1).v.ae (x.on c1).v.at_:=by
   exact aiz (v:=x.v) (u:=(x.on c1).v) fB.pages.symm rfl rfl _ _ _ _
  rw[ke]at MZ;rcases MZ with⟨e1,e2,e3,⟨m',w',e4⟩,e5⟩|e1
  ·
   obtain⟨k1,k2,_,_⟩:=hmk;obtain⟨k3,k4,k5,k6⟩:=k2 e1;have Iu:cU (x.on c1) ((i:Int)+2) ((t:Int)+2)=((dQ ((x.on c1).on (cc (x.on c1).v ((i:Int)+2) ((t:Int)+2) (x.on c1).v.at_ 0 (x.on c1).v.ae (x.on c1).v.at_).c) (cc (x.on c1).v ((i:Int)+2) ((t:Int)+2) (x.on c1).v.at_ 0 (x.on c1).v.ae (x.on c1).v.at_).a).1,decide ((dQ ((x.on c1).on (cc (x.on c1).v ((i:Int)+2) ((t:Int)+2) (x.on c1).v.at_ 0 (x.on c1).v.ae (x.on c1).v.at_).c) (cc (x.on c1).v ((i:Int)+2) ((t:Int)+2) (x.on c1).v.at_ 0 (x.on c1).v.ae (x.on c1).v.at_).a).2=0),(dQ ((x.on c1).on (cc (x.on c1).v ((i:Int)+2) ((t:Int)+2) (x.on c1).v.at_ 0 (x.on c1).v.ae (x.on c1).v.at_).c) (cc (x.on c1).v ((i:Int)+2) ((t:Int)+2) (x.on c1).v.at_ 0 (x.on c1).v.ae (x.on c1).v.at_).a).2):=by
    rw[cU,e1]
   generalize hM:cc (x.on c1).v ((i:Int)+2) ((t:Int)+2) (x.on c1).v.at_ 0 (x.on c1).v.ae (x.on c1).v.at_=M at*;have pY:=fB.trans k1.cj;have fN:cY ((x.on c1).on M.c):=(h.wr.on (t7.ok h.ok.ae) fB).on e2.ae k1.cj;have aiA:Ip ((x.on c1).on M.c).v.ae ((x.on c1).on M.c).v.gen M.a:=⟨by show x.v.gen+1<_;omega,by rw[show M.a.length=x.v.at_.length from k5,show((x.on c1).on M.c).v.ae.size=x.v.ae.size from pY.size];exact h.kM,WI e2.ae e3⟩;rcases Wz (n:=n+17) fN (e2.mono (by omega)) aiA with⟨w1,w2,w3,w4,w5,w6⟩|w1
   ·
    have Et:=Ni (a:=M.a) fN (by
     have:=Es.kp k1;exact this) ((h.pl.kd t7.toKd).kd k1.toKd) k3 k5
    have hRW:=(Et.1.cK w1).1;have ve:dU x.v.ae (dQ ((x.on c1).on M.c) M.a).1.v.ae:=pY.trans Et.1.kd.cj;rw[Iu]at sj nF⊢;simp only[w1,decide_true]at sj nF⊢;generalize hW:(dQ ((x.on c1).on M.c) M.a).1=W at*;have Eu:Std W.v.ae M.a:=by have:=hRW.pl.ny;rwa [w3]at this
    have WM:au W.v.ae M.a=((dm x).set t ⟨m',m',w',false⟩).set i ⟨0,(aj x.v.ae ((i:Int)+2)).used,(aj x.v.ae ((i:Int)+2)).aU,false⟩:=by
     have WN:au M.c (x.v.at_++M.a)=(dm x).set t ⟨m',m',w',false⟩:=by
      rw[e4,uY,avM]
     have Ev:Std M.c (x.v.at_++M.a):=(h.rt.pl.ny.kd t7.toKd (fun _ q=>q)|>.kd k1.toKd fun _ q=>q).append e3;have WO:=e2.get (fl:=x.v.at_++M.a) Ev (i:=i) (by rw[pY.len];exact hi);rw[WN,atZ t1,show(dm x)[i]? =_ from WK]at WO;have WQ:=atl WO;have qF:1<=M.c.pages:=by rw[pY.pages];omega
     rw[←WN];refine Nu qF Ev Eu (by have:=Et.1.kd.cj;exact this) (fun k hk=>⟨w5 k,yh (fun q hq=>?_) qF⟩) ?_
     ·
      rw[atu];refine⟨.inr,fun g=>g.elim (fun g=>?_) id⟩;obtain⟨z,hz⟩:=atH g;have:=e5 z q hz (.inr (by rw[←pY.pages,hq];omega));exact alM this
     ·
      have nn:kU M.a W.v.ae ((i:Int)+2):=by
       have:kU M.a c1 ((i:Int)+2):=k6;exact this.cj (k1.cj.trans Et.1.kd.cj)
      have:=(vc (by rw[ve.pages];omega) Eu i).2 nn;rw[w2.tell,this,w5 i];have u1:=congrArg az.used WQ;have u2:=congrArg az.aU WQ;simp only at u1 u2;rw[show(aj ((x.on c1).on M.c).v.ae ((i:Int)+2)).used=_ from u1.symm,show(aj ((x.on c1).on M.c).v.ae ((i:Int)+2)).aU=_ from u2.symm];rfl
    have hgt:(dm x)[t]? =_:=h.ok.get (fl:=x.v.at_) jt t2;have mf:=Eo (p:=x.v.ae.pages) (x:=⟨m',m',w',false⟩) hgt;have as9:kV x.v.ae.pages ⟨m',m',w',false⟩=0:=by
     rw[kV];simp only[at1,if_false];split
     ·
      rename_i e;rw[if_neg (by omega)]
     ·
      omega
    have WR:((dm x).set t ⟨m',m',w',false⟩)[i]? =_:=(atZ t1).trans WK;have Md:1<=kV x.v.ae.pages ⟨c8 x.v.ae.pages x.v.at_ i,(aj x.v.ae ((i:Int)+2)).used,(aj x.v.ae ((i:Int)+2)).aU,false⟩:=by
     rw[kV];simp only[at1,if_false];rw[if_neg (by omega)];omega
    have NF:c8 W.v.ae.pages W.v.at_ i=0:=by
     have nn:kU M.a W.v.ae ((i:Int)+2):=by
      have:kU M.a c1 ((i:Int)+2):=k6;exact this.cj (k1.cj.trans Et.1.kd.cj)
     rw[w3];exact(vc (by rw[ve.pages];omega) Eu i).2 nn
    have WS:i<W.v.ae.blocks.length -2:=by rw[ve.len];exact hi
    by_cases WT:(aj x.v.ae ((i:Int)+2)).used=x.v.ae.pages
    ·
     rw[nz]at sj nF⊢;rw[if_pos (.inr WT)]at sj nF⊢;left;refine⟨rfl,h.next sj nF.1.ok (w2.mono (by omega)) ⟨i,WS,NF⟩,?_,w4⟩;rw[nA,nA,ve.pages,w3,WM];have jF:=Eo (p:=x.v.ae.pages) (x:=⟨0,(aj x.v.ae ((i:Int)+2)).used,(aj x.v.ae ((i:Int)+2)).aU,false⟩) WR;have WU:kV x.v.ae.pages ⟨0,(aj x.v.ae ((i:Int)+2)).used,(aj x.v.ae ((i:Int)+2)).aU,false⟩=0:=by
      rw[kV];simp only[at1,if_false,if_true];rw[if_neg (by omega)]
     change _<p0 x.v.ae.pages (dm x);omega
    ·
     rw[nz]at sj nF⊢;rw[if_neg (by rintro(g|g);cases g;exact WT g)]at sj nF⊢;rcases w2.Io (n:=n) (b:=(i:Int)+2) (by omega) (by omega)with⟨q1,q2⟩|q1
     ·
      simp only[q1]at sj nF⊢;left;have nn:kU M.a W.v.ae ((i:Int)+2):=(vc (by rw[ve.pages];omega) Eu i).1 (by rw[←w3];exact NF);obtain⟨b1,b2⟩:=Im w2.ae Eu nn q1;have kc:=(xw ((i:Int)+2) w2.ae).2;refine⟨rfl,h.next sj nF.1.ok q2 ⟨i,by show i<(cG W.v.ae _).1.blocks.length -2;rw[kc.len];exact WS,by show c8 (cG W.v.ae ((i:Int)+2)).1.pages W.v.at_ i=0;rw[kc.pages];exact NF⟩,?_,w4⟩;show p0 (cG W.v.ae ((i:Int)+2)).1.pages (au (cG W.v.ae ((i:Int)+2)).1 W.v.at_)<_;rw[w3,b1,WM,kc.pages,ve.pages,avM];have jF:=Eo (p:=x.v.ae.pages) (x:=⟨0,0,(aj W.v.ae ((i:Int)+2)).aU+1,false⟩) WR;have WU:kV x.v.ae.pages ⟨0,0,(aj W.v.ae ((i:Int)+2)).aU+1,false⟩=0:=by
       rw[kV];simp
      change _<p0 x.v.ae.pages (dm x);omega
     ·
      right;simp only[q1];rfl
   ·
    right;rw[Iu];have hnz: ¬(dQ ((x.on c1).on M.c) M.a).2=0:=by rw[w1];decide
    rw[if_pos (.inl (decide_eq_false hnz))];exact w1
  ·
   right;have Iu:cU (x.on c1) ((i:Int)+2) ((t:Int)+2)=((x.on c1).on (cc (x.on c1).v ((i:Int)+2) ((t:Int)+2) (x.on c1).v.at_ 0 (x.on c1).v.ae (x.on c1).v.at_).c,false,7):=by
    rw[cU,e1]
   rw[Iu,if_pos (.inl rfl)]
 ·
  right;have WW:(bY x.v.ae ((dm x).set (i:Int).toNat bc)).2.2=7:=tz;have dE:rh x.v.ae (dm x) i=false:=by rw[rh,WW];rfl
  have pX:(cP x.v.ae (dm x) i).2=7:=by rw[cP,if_neg (by rw[dE];simp)];exact WW
  rw[eV,if_pos (by rw[pX];decide),pX];rfl
where
 aiz {v u:VV} {src tgt:Int} (h1:v.ae.pages=u.ae.pages) (h2:v.at_=u.at_) (h3:v.gen=u.gen) (l:List Int): ∀(id:Nat) (c:CV) (a:List Int),cc v src tgt l id c a=cc u src tgt l id c a:=by
  induction l with
  |nil=>intro id c a;rfl
  |cons n r ih=>
   intro id c a;rw[cc,cc,h1,h2,h3,ih,ih]
theorem aiB{n:Nat}{x:WV}{j:Nat}(h:Lv (n+17) x)(hj:j<x.v.ae.blocks.length -2)(h0:c8 x.v.ae.pages x.v.at_ j=0)(h1:0<(aj x.v.ae ((j:Int)+2)).used)(h2:(aj x.v.ae ((j:Int)+2)).used<x.v.ae.pages):
  ((jo x (dm x)).2=0/\Lv n (jo x (dm x)).1/\nA (jo x (dm x)).1<nA x/\(jo x (dm x)).1.v.gen=x.v.gen)\/(jo x (dm x)).2=7:=by
 have hd:=eU h.ok.ae;have jt:=h.rt.pl.ny;have hw:=Nx h.ok.ae jt (by omega);have hg:=h.ok.get (fl:=x.v.at_) jt hj;have Ep:=h.ok.aU ((j:Int)+2);have mV:=Nl (l:=dm x) h.rt (H6 _ _);have pX:=Ld (l:=dm x) h.wr (y8 _ _);have hD:(oI x.v.ae (dm x)).2=true:=by
  cases hq:(oI x.v.ae (dm x)).2 with
  |true=>rfl
  |false=>
   have:=uz (BI (R:=nT x.v.ae.pages) hw) hq _ (atK (f:=iE (nT x.v.ae.pages)) (alM hg));rw[BK rfl (by simp only[nT,ad2,decide_eq_true_eq];omega)]at this;have Ir:mL ⟨c8 x.v.ae.pages x.v.at_ j,(aj x.v.ae ((j:Int)+2)).used,(aj x.v.ae ((j:Int)+2)).aU,false⟩=true:=by
    simp only[mL,h0,avo,aup,ad2,decide_eq_true_eq];exact⟨rfl,h1⟩
   rw[Ir]at this;cases this
 obtain⟨z,hz,a1,a2,a3,a4,a5⟩:=pL (fun x h=>(l8 h).1) (show(gg (cg (nT x.v.ae.pages) (dm x)) x.v.ae.pages mL [s0]).2=true from hD);have nN:(dm x)[(oI x.v.ae (dm x)).1.toNat]? =some z:=hz;change 0<=(oI x.v.ae (dm x)).1 at a4;rw[jo,if_neg (by rw[hD];simp)]at mV pX⊢;generalize oI x.v.ae (dm x)=T at*;obtain⟨e1,e2⟩:=wE (by omega) jt nN;rw[h.ok.tell]at e1;have kI:=(l8 a3).2.1;have DL:=(l8 a3).2.2;rw[nT,ad2,decide_eq_true_eq]at a2;have xY:=a2.1;rw[e1]at kI DL xY;simp only at kI DL xY;have eT:T.1=((T.1.toNat:Nat):Int):=by omega
 rw[eT]at mV pX⊢;have nn:=(vc (by omega) jt T.1.toNat).1 (by omega);rcases h.ok.Io (n:=n) (b:=((T.1.toNat:Nat):Int)+2) (by omega) (by omega)with⟨q1,q2⟩|q1
 ·
  left;simp only[q1]at mV pX⊢;obtain⟨b1,b2⟩:=Im h.ok.ae jt nn q1;have kc:=(xw (((T.1.toNat:Nat):Int)+2) h.ok.ae).2;refine⟨rfl,h.next mV pX.1.ok q2 ⟨T.1.toNat,by show _<(cG x.v.ae _).1.blocks.length -2;rw[kc.len];exact e2,by show c8 (cG x.v.ae _).1.pages x.v.at_ _=0;rw[kc.pages];omega⟩,?_,rfl⟩;show p0 (cG x.v.ae (((T.1.toNat:Nat):Int)+2)).1.pages (au (cG x.v.ae (((T.1.toNat:Nat):Int)+2)).1 x.v.at_)<p0 x.v.ae.pages (au x.v.ae x.v.at_);rw[b1,kc.pages];have jF:=Eo (p:=x.v.ae.pages) (x:=⟨0,0,(aj x.v.ae (((T.1.toNat:Nat):Int)+2)).aU+1,false⟩) nN;have WU:kV x.v.ae.pages ⟨0,0,(aj x.v.ae (((T.1.toNat:Nat):Int)+2)).aU+1,false⟩=0:=by
   rw[kV];simp
  have qD:kV x.v.ae.pages z=1:=by
   rw[e1,kV];simp only[at1,if_false];rw[if_pos kI,if_pos ⟨DL,xY⟩]
  change p0 x.v.ae.pages ((dm x).set _ _)<p0 x.v.ae.pages (dm x);omega
 ·
  right;simp only[q1];rfl
theorem aiC{p:Int}{l:List az}(h:0<p0 p l): ∃(i:Nat) (x:az),l[i]? =some x/\kV p x≠0:=by
 apply atO;intro hn;have:p0 p l=0:=WB fun x hx=>by
  obtain⟨i,hi⟩:=atH hx;apply atO;intro cd;exact hn ⟨i,x,hi,cd⟩
 omega
theorem aiD{n:Nat}{x:WV}(h:Lv (n+100) x)(hg:x.v.gen+2<281474976710656)(hP:0<nA x):
  ((et x).2=0/\Lv n (et x).1/\nA (et x).1<nA x/\(et x).1.v.gen<=x.v.gen+1)\/(et x).2=7:=by
 have hd:=eU h.ok.ae;have jt:=h.rt.pl.ny;have A6:AR x.v.gen=false:=decide_eq_false (by omega);rw[et]
 by_cases hv:(ti x).2=true
 ·
  rw[if_pos ⟨hv,A6⟩];obtain⟨i,v1,v2,v3,v4⟩:=aiq h.ok jt hv;have v1':(ti x).1=i:=v1;rw[v1'];rcases aiy h hg v2 v3 v4 with⟨r1,r2,r3,r4⟩|r1
  ·
   rw[if_pos (by rw[r1];decide)];exact .inl ⟨r1,r2,r3,by omega⟩
  ·
   rw[if_pos (by rw[r1];decide)];exact .inr r1
 ·
  rw[if_neg (fun g=>hv g.1)];obtain⟨i,z,hz,cd⟩:=aiC hP;obtain⟨e1,e2⟩:=wE (by omega) jt hz;rw[h.ok.tell]at e1;have hu:=h.ok.BJ e2;rw[e1,kV]at cd;simp only[at1,if_false]at cd
  by_cases hl:c8 x.v.ae.pages x.v.at_ i=0
  ·
   rw[if_pos (by omega)]at cd;have hb:0<(aj x.v.ae ((i:Int)+2)).used/\(aj x.v.ae ((i:Int)+2)).used<x.v.ae.pages:=by
    apply atO;intro hn;rw[if_neg hn]at cd;exact cd rfl
   rcases aiB (h.mono (by omega:n+17<=n+100)) e2 hl hb.1 hb.2 with⟨r1,r2,r3,r4⟩|r1
   ·
    exact .inl ⟨r1,r2,r3,by omega⟩
   ·
    exact .inr r1
  ·
   rw[if_neg (by omega)]at cd;exact absurd (air h.ok jt e2 (by omega) (by omega)) hv
def ju(p:Int)(x:az):Int:=if x.bad=true then 0 else lu p x
def mn(p:Int)(x:az):Int:=if x.bad=true then 0 else if x.live=0 then lu p x else 0
def p8(l:List Int):Int:=l.foldl max 0
theorem Iv{M:Int}(l:List Int): ∀s:Int,l.foldl max s<=M↔s<=M/\ ∀x∈l,x<=M:=by
 induction l with
 |nil=>intro s;simp
 |cons y r ih=>
  intro s;rw[auQ,ih,Int.max_le];simp only[atv,forall_eq_or_imp];exact and_assoc
theorem aiE{p:Int}(l:List az)(h: ∀x∈l,0<=lu p x): ∀s:Int×Int,0<=s.2->l.foldl (td p) s=(s.1+fL (l.map (ju p)),(l.map (mn p)).foldl max s.2):=by
 induction l with
 |nil=>intro s _;simp[fL]
 |cons y r ih=>
  intro s hs;have ih':=ih fun x hx=>h x (atF _ hx);have hy:=h y at2;rw[auQ];have bB:0<=(td p s y).2:=by
   rw[td];split
   ·
    exact hs
   simp only;split<;>omega
  rw[ih' _ bB,atI,atI,auQ,fL];rw[td,ju,mn]
  by_cases hb:y.bad=true
  ·
   rw[if_pos hb,if_pos hb,if_pos hb];rw[avn,Int.max_eq_left hs]
  rw[if_neg hb,if_neg hb,if_neg hb]
  by_cases hl:y.live=0
  ·
   rw[if_pos hl,if_pos hl,Int.add_assoc]
  rw[if_neg hl,if_neg hl,Int.max_eq_left hs,Int.add_assoc]
theorem WX{c:CV}{fl:List Int}(hk:aW c=true):ly c fl=(fL ((au c fl).map (ju c.pages)) -p8 ((au c fl).map (mn c.pages)),fL ((au c fl).map (ju c.pages))):=by
 have:=aiE (p:=c.pages) (au c fl) (fun x hx=>(GO (uD hk hx) hk).1) (0,0) (aul _);rw[ly,fM,this,p8];simp only[avn]
theorem WY{f:az->Int}: ∀{l:List az} {i:Nat} {x y:az},l[i]? =some y->fL ((l.set i x).map f)=fL (l.map f) -f y+f x
 |[],i,x,y,h=>by simp at h
 |z::r,0,x,y,h=>by
  obtain rfl:z=y:=by simpa using h
  simp only[auN,atI,fL];omega
 |z::r,i+1,x,y,h=>by
  have:=WY (f:=f) (l:=r) (i:=i) (x:=x) (y:=y) (by simpa using h);simp only[avH,atI,fL];omega
theorem aiF{pages:Int}{l:List Int}: ∀(D k:Nat),((List.range D).map fun i=>ko pages l k i).sum<=k:=by
 have step: ∀(D:Nat) (P:Bool) (b:Int),((List.range D).map fun i:Nat=>if P&&decide (b=(i:Int)+2)then 1 else 0).sum<=(if 2<=b/\b<(D:Int)+2 then 1 else 0):=by
  intro D P b
  induction D with
  |zero=>simp
  |succ D ih=>
   rw[auF,atS,awg];simp only[atI,auv,av1,List.sum_nil,auH]
   by_cases e:b=(D:Int)+2
   ·
    have hc:(if 2<=b/\b<(D:Int)+2 then 1 else 0)=0:=if_neg (by omega);have xZ:(if 2<=b/\b<((D+1:Nat):Int)+2 then 1 else 0)=1:=if_pos (by omega);have Bw:(if P&&decide (b=(D:Int)+2)then 1 else 0)<=1:=by split<;>omega
    rw[hc]at ih;rw[xZ];omega
   have Bw:(if P&&decide (b=(D:Int)+2)then 1 else 0)=0:=if_neg (by simp[e]);have hc4:(if 2<=b/\b<(D:Int)+2 then 1 else 0)<=(if 2<=b/\b<((D+1:Nat):Int)+2 then 1 else 0):=by
    by_cases g:2<=b/\b<(D:Int)+2
    ·
     rw[if_pos g,if_pos (by omega)];exact att _
    rw[if_neg g];exact atL _
   rw[Bw];omega
 intro D k
 induction k with
 |zero=>
  have: ∀i∈List.range D,ko pages l 0 i=0:=fun i _=>by simp[ko]
  rw[auw this];have: ∀n:Nat,((List.range n).map fun _:Nat=>(0:Nat)).sum=0:=fun n=>by
   induction n with
   |zero=>rfl
   |succ n ih=>rw[auF,atS,awg,ih];rfl
  rw[this];exact att _
 |succ k ih=>
  have: ∀i∈List.range D,ko pages l (k+1) i=ko pages l k i+(if nQ l k&&decide ((l.getD k 0 -1)/pages=(i:Int)+2)then 1 else 0):=fun i _=>C5 pages l k i;rw[auw this];have I8: ∀(f g:Nat->Nat) (n:Nat),((List.range n).map fun i=>f i+g i).sum=((List.range n).map f).sum+((List.range n).map g).sum:=fun f g n=>by
   induction n with
   |zero=>rfl
   |succ n ih=>
    rw[auF,atS,atS,atS,awg,awg,awg,ih];simp only[atI,auv,av1,List.sum_nil];omega
  have e:=I8 (fun i=>ko pages l k i) (fun i=>if nQ l k&&decide ((l.getD k 0 -1)/pages=(i:Int)+2)then 1 else 0) D;have h2:=step D (nQ l k) ((l.getD k 0 -1)/pages);have h1:(if 2<=(l.getD k 0 -1)/pages/\(l.getD k 0 -1)/pages<(D:Int)+2 then 1 else 0)<=1:=by split<;>omega
  refine avU (Nat.le_of_eq e) ?_;exact Nat.add_le_add ih (avU h2 h1)
theorem aiG{c:CV}{fl:List Int}{f:az->Int}{g:Nat->Int}(hp:1<=c.pages)(hs:Std c fl)(h: ∀i,i<c.blocks.length -2->f (pZ c fl i)=g i):fL ((au c fl).map f)=fL ((List.range (c.blocks.length -2)).map g):=by
 rw[zH hp hs,avV];congr 1;refine auw fun i hi=>?_;exact h i (atX.1 hi)
theorem WZ(p:Int)(f:Nat->Nat): ∀D:Nat,fL ((List.range D).map fun i=>p -(f i:Int))=(D:Int)*p -(((List.range D).map f).sum:Nat)
 |0=>by simp[fL]
 |D+1=>by
  have ih:=WZ p f D;rw[auF,atS,atS,RP,awg,ih];simp only[atI,auv,fL,av1,List.sum_nil];rw[show((D+1:Nat):Int)*p=(D:Int)*p+p by rw[Int.natCast_add,Int.add_mul];omega];omega
theorem aiH{n:Nat}{x:WV}(h:Lv n x)(hP:nA x=0){need:Int}(hn:need<=x.v.at_.length):need<=(ly x.v.ae x.v.at_).1:=by
 have hd:=eU h.ok.ae;have hp:1<=x.v.ae.pages:=by omega
 have jt:=h.rt.pl.ny;have hz: ∀i,i<x.v.ae.blocks.length -2->kV x.v.ae.pages (pZ x.v.ae x.v.at_ i)=0:=fun i hi=>by
  apply atO;intro cd;have hg:=h.ok.get (fl:=x.v.at_) jt hi;rw[←h.ok.tell]at hg;have:=Eo (p:=x.v.ae.pages) (x:=bc) hg;have hb:kV x.v.ae.pages bc=0:=rfl;change p0 x.v.ae.pages (au x.v.ae x.v.at_)=0 at hP;omega
 have wR: ∀i,i<x.v.ae.blocks.length -2->lu x.v.ae.pages (pZ x.v.ae x.v.at_ i)=x.v.ae.pages -(c8 x.v.ae.pages x.v.at_ i:Nat):=fun i hi=>by
  have h0:=hz i hi;have hu:=h.ok.BJ hi;have hl:=h.ok.WC jt hi;rw[h.ok.tell,kV]at h0;rw[h.ok.tell,lu];simp only[at1,if_false]at h0⊢
  by_cases kI:(c8 x.v.ae.pages x.v.at_ i:Int)=0
  ·
   rw[if_pos kI]at h0;have hb: ¬(0<(aj x.v.ae ((i:Int)+2)).used/\(aj x.v.ae ((i:Int)+2)).used<x.v.ae.pages):=fun g=>by rw[if_pos g]at h0;cases h0
   split
   ·
    omega
   omega
  rw[if_neg kI]at h0;rw[if_neg (fun g=>kI g.1)];omega
 rw[WX h.ok.ae];simp only;have aiI:fL ((au x.v.ae x.v.at_).map (ju x.v.ae.pages))=((x.v.ae.blocks.length -2:Nat):Int)*x.v.ae.pages -(((List.range (x.v.ae.blocks.length -2)).map fun i=>c8 x.v.ae.pages x.v.at_ i).sum:Nat):=by
  rw[aiG hp jt (g:=fun i=>x.v.ae.pages -(c8 x.v.ae.pages x.v.at_ i:Nat)) fun i hi=>by
   rw[ju,if_neg (by rw[h.ok.tell];simp)];exact wR i hi]
  exact WZ _ _ _
 have xN:((List.range (x.v.ae.blocks.length -2)).map fun i=>c8 x.v.ae.pages x.v.at_ i).sum<=x.v.at_.length:=by
  have:=aiF (pages:=x.v.ae.pages) (l:=x.v.at_) (x.v.ae.blocks.length -2) x.v.at_.length;rwa [auw fun i _=>Ik hp i (jt.pos hp)]at this
 have PC:p8 ((au x.v.ae x.v.at_).map (mn x.v.ae.pages))<=x.v.ae.pages:=by
  refine(Iv _ 0).2 ⟨by omega,fun z hz=>?_⟩;obtain⟨y,hy,rfl⟩:=auq.1 hz;have:=GO (uD h.ok.ae hy) h.ok.ae;rw[mn];split
  ·
   omega
  split<;>omega
 have ata:=h.half;have hB:=h.wr.len;generalize x.v.ae.pages=p at*;generalize((List.range (x.v.ae.blocks.length -2)).map fun i=>c8 p x.v.at_ i).sum=S at*;have e:((x.v.ae.blocks.length -2:Nat):Int)*p=((x.v.ae.blocks.length:Int) -4)*p+2*p:=by
  rw[←Int.add_mul];congr 1;omega
 rw[aiI,e];omega
end Go.Kb
