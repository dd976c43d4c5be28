/- Part of a proof. -/
import Derived.Test.YtkggjjnhnjjokaaGreatDoorE5
import Derived.Test.YtkggjjnhnjjokaaGreatDoorE4
import Derived.Test.YtkggjjnhnjjokaaGreatDoorE3
import Derived.Test.YtkggjjnhnjjokaaGreatDoorE2
import Derived.Lib.Bytealg
import Derived.Test.YtkggjjnhnjjokaaGreatDoorE1
set_option maxRecDepth 20000
set_option linter.unusedSimpArgs false
set_option linter.unusedVariables false
namespace Go.Proofs.YtkggjjnhnjjokaaGreatDoor
open Go.ax Go.Kb
instance (i:Int)(s:Sv):p8 Tryz.prog 269 [(0, .int .i64 i),(1,s.val)] (.agg #[.int .i64 i,s.val]):=⟨fun w=>by
 obtain⟨n,b,o,l,c⟩:=s
 cases n<;>kernel_rfl⟩
variable {w0:World}{L:List aj}
instance apo{s:Sl (Sl UInt8)}{i:Nat}[hs:aT w0 L s]:cd Tryz.prog 171 w0 L [s.sv.val, .int .i64 (i:Nat)] (((tc s i).sv).val) (True):=⟨fun aG w hw=>by
 have hs:=hs.h w hw;have yp:cH w s:=⟨hs⟩;refine cQ Tryz.func171 rfl Tryz.ntmps171 rfl ?_;refine fx ?_;refine Gb (fun h0=>?_) fun h0=>?_
 ·
  refine al ?_;refine Gr fun w1 hw=>?_;exact⟨by rw[Er oM];rfl,ai.mem hw⟩
 refine al ?_;obtain⟨u,hu⟩:=get_some (xs:=s.xs) (i:=i) oM;refine ag (ba rfl rfl i rfl oM) (ag (bL (j:=0) rfl i hu rfl (by decide)) ?_);have apq:Mb u _:=⟨List.mem_of_getElem? hu⟩;refine ay ?_;refine Gr fun w1 hw=>?_;exact⟨by rw[Ep hu],ai.mem hw⟩⟩
instance apr{x:Sv}{xs:List UInt8}{y:Sv}{ys:List UInt8}[hx:di w0 L aN 1 x xs][hy:di w0 L aN 1 y ys]:cd Tryz.prog 172 w0 L [x.val,y.val] (.bool (decide (xs=ys))) (True):=⟨fun aG w hw=>by
 have hx:=hx.h w hw;have hy:=hy.h w hw;have AL:Gv w x aN 1 xs:=⟨hx⟩;have SK:Gv w y aN 1 ys:=⟨hy⟩;refine cQ Tryz.func172 rfl Tryz.ntmps172 rfl ?_;refine au ?_;refine ag (Ir Tryz.underlying53 Tryz.underlying5 Tryz.underlying9 rfl) (Gs ?_);refine ag (Ir Tryz.underlying53 Tryz.underlying5 Tryz.underlying9 rfl) (ag (NU rfl rfl) (ay ?_));refine Gr fun w1 hw=>?_;exact⟨congrArg (fun b=>Ending.returned (Value.bool b)) (rfl),ai.mem hw⟩⟩
instance aps{x:Sv}{xs:List UInt8}[hx:di w0 L aN 1 x xs]:bZ Tryz.prog 110 w0 L [x.val] (Sv) (fun zz=>zz.val) (fun zz=>own aN 1 zz xs::L) (fun zz=>True) (xs.length<=140737488355328):=⟨fun aG w hw=>Gk (fun zz=>[own aN 1 zz xs]) hw (by
 have hx:=hx.h w hw;have AL:Gv w x aN 1 xs:=⟨hx⟩;refine cC Tryz.func110 rfl Tryz.ntmps110 rfl ?_;refine au ?_;refine ag (uz Tryz.underlying53 rfl) (Gc ?_);refine Gb (fun h0=>?_) fun h0=>?_
 ·
  have e0:xs=[]:=arb.1 (by have:=hx.ok.nil h0;have:=hx.len;omega);refine al ?_;refine Gr fun w1 hw=>?_;exact⟨Sv.none,rfl,trivial,by rw[e0];exact(ai.mem hw:Mem w [] _).dH aN 1⟩
 refine Gc ?_;refine vT aN fun b5=>Gs ?_;refine lN (s:=⟨false,b5,0,0,0,none⟩) (ys:=xs) rfl rfl (by decide) (fun w hw=>ke (s:=x) Tryz.underlying53 (by decide) ((inferInstance:Hd _ _ x aN 1 xs).h w hw)) (by simp only[af0,aqQ,aqS];omega) (by simp only[af0,aqQ,aqS];omega) fun s7 yq wP=>?_;refine ay ?_;refine Gr fun w1 hw=>?_;exact⟨s7,rfl,trivial,by simpa using hw⟩)⟩
instance apt{a:Sl (Sl UInt8)}{b:Sl (Sl UInt8)}[ha:aT w0 L a][hb:aT w0 L b]:bZ Tryz.prog 102 w0 L [a.sv.val,b.sv.val] (Sl It) (fun zz=>zz.sv.val) (fun zz=>Deep.cc zz::L) (fun zz=>zO zz=eW (lx a) (lx b)) (a.xs.length<=1000000/\b.xs.length<=1000000/\ ∀x∈b.xs,x.xs.length<=140737488355328):=⟨fun aG w hw=>Gk (fun zz=>[Deep.cc zz]) hw (by
 have ha:=ha.h w hw;have hb:=hb.h w hw;have KN:cH w a:=⟨ha⟩;have yt:cH w b:=⟨hb⟩;obtain⟨qy,pC,Ay⟩:=aG;refine cQ Tryz.func102 rfl Tryz.ntmps102 rfl ?_;refine ik ?_;refine ag (vL rfl rfl) (ay ?_);refine bT (X:=Nat×Sl It) (fun zz=>[(13, .int .i64 (zz.1:Nat)),(5,zz.2.sv.val),(0,a.sv.val),(1,b.sv.val),(12, .int .i64 (max (a.xs.length:Int) (b.xs.length:Int)))]) (fun zz=>[Deep.cc zz.2]) (fun zz=>zz.1<=max a.xs.length b.xs.length/\zO zz.2=nS (lx a) (lx b) zz.1) (fun zz=>max a.xs.length b.xs.length -zz.1) (0,⟨Sv.none,[]⟩) ⟨oF,rfl⟩ sb (fun w hw=>Mem.zD (enc:=pw) (c:=2) hw) ?_;rintro⟨i,l⟩ ⟨bc,aH⟩;dsimp only;refine al ?_;refine Gb (fun h0=>?_) fun h0=>?_
 ·
  refine Jc ?_;refine Gb (fun h1=>?_) fun h1=>?_
  ·
   refine Gi ?_;refine al ?_;refine bg rfl (by rcases aqX i b.xs.length with h|h;exact Ay _ (by rw[Ep (aqR h)];exact asG h);rw[Er h];exact arn _) fun dG nZ=>?_
   refine ag (iQ rfl) ?_;refine lO (enc:=pw) (vals:=[_]) [(⟨((i:Nat):Int),⟨dG,((tc b i).xs)⟩⟩:It)] rfl rfl rfl (by decide) (by decide) fun fY=>?_;refine W2 (s:=⟨false,fY,0,1,1,none⟩) l [(⟨((i:Nat):Int),⟨dG,((tc b i).xs)⟩⟩:It)] rfl rfl (by decide) (by have:=congrArg List.length aH;have h9:=F3 (lx a) (lx b) i;simp only[zO,arA]at this;simp only[aqQ,aqS];omega) (by have:=congrArg List.length aH;have h9:=F3 (lx a) (lx b) i;simp only[zO,arA]at this;simp only[aqQ,aqS];omega) fun me ad1=>au ?_;refine Gi ?_;exact bn (x:=(i,l)) (i+1,me) ⟨oF,by rw[zO,ad1,art,RA (by rw[←BR,←BR];exact h1),←aH,←BR];rfl⟩ (by simp only;omega) sb (fun w hw=>ai.mem hw)
  refine al ?_;refine Gi ?_;exact bn (x:=(i,l)) (i+1,l) ⟨oF,by rw[Rz (by rw[←BR,←BR];exact h1)];exact aH⟩ (by simp only;omega) sb (fun w hw=>ai.mem hw)
 refine au ?_;refine Gr fun w1 hw=>?_;exact⟨l,rfl,(by rw[aH,eW,xE,xE,show i=max a.xs.length b.xs.length by omega]),ai.mem hw⟩)⟩
instance apu{b:Sv}{bs:List UInt8}[hb:di w0 L aN 1 b bs]:cd Tryz.prog 228 w0 L [b.val] (.tuple #[.agg (aA (rdv bs)), .bool (qx bs)]) (bs.length=20):=⟨fun aG w hw=>by
 have hb:=hb.h w hw;have yt:Gv w b aN 1 bs:=⟨hb⟩;have eg: ∀(i:Nat) e,bs[i]? =some e->bs.getD i 0=e:=fun i e h=>by simp[List.getD,h]
 obtain⟨e6,Tk⟩:=get_some (xs:=bs) (i:=0) oM;have Dj:=eg 0 e6 Tk;refine cC Tryz.func228 rfl Tryz.ntmps228 rfl ?_;refine Gc ?_;refine bt fun b2=>ay ?_;refine bt fun b4=>lj ?_;refine Ec (X:=Unit) (fun zz=>[(0,b.val),(2, .pointer (some ⟨b2,0,none⟩)),(4, .pointer (some ⟨b4,0,none⟩))]) (fun zz=>[ar b4 ((aA iS).setIfInBounds 0 (.int .i64 (if e6=1 then 128 else 32))) 34,ar b2 (aA iS) 34]) (fun zz=>e6<=1) ?_ ?_
 ·
  refine ay ?_;refine ag (ba rfl rfl 0 rfl oM) (ag (bL (j:=0) rfl 0 Tk rfl (by decide)) (au ?_));refine Gb (fun h0=>?_) fun h0=>?_
  ·
   obtain rfl:e6=0:=atc.1 (by simp;omega);refine Gi ?_;refine ay ?_;refine eN rfl rfl (by simp[k8]) rfl rfl (lj ?_);exact vO () (by decide) sb (fun w hw=>hw)
  refine au ?_;refine Gb (fun h1=>?_) fun h1=>?_
  ·
   obtain rfl:e6=1:=atc.1 (by simp;omega);refine Gi ?_;refine ay ?_;refine eN rfl rfl (by simp[k8]) rfl rfl (lj ?_);exact vO () (by decide) sb (fun w hw=>hw)
  have Tl: ¬e6<=1:=fun h=>by rw[UInt8.le_iff_toNat_le]at h;simp at h;omega
  refine Gc ?_;refine ag (iQ rfl) (al ?_);refine Gr fun w1 hw=>?_;exact⟨by rw[show qx bs=false from by rw[qx,Dj];exact decide_eq_false Tl,show rdv bs=iS from if_neg (by rw[qx,Dj];simpa using Tl)],ai.mem hw⟩
 rintro⟨⟩ hJ;refine ay ?_;obtain⟨GR,Tm⟩:=get_some (xs:=bs) (i:=1) oM;refine ag (ba rfl rfl 1 rfl oM) (ag (bL (j:=0) rfl 1 Tm rfl (by decide)) ?_);have eg1:=eg 1 GR Tm;refine ag (vS rfl) (ay ?_);refine eN rfl rfl (by simp[k8]) rfl rfl (Gc ?_);refine jh [5] [[],[],[],[],[],[]] [0,1,2,3,4,5] [] (fun _ hw=>ai.mem hw) oK oK (an rfl (aP (o':=0) rfl rfl) (an rfl (aP (o':=2) rfl rfl) (an rfl (xz rfl) (an rfl (bl rfl) ?_))));have Gx:Rg 2 18 bs.length:=⟨by omega⟩;refine an rfl (Em rfl rfl rfl 2 18 rfl rfl Gx.h.1 Gx.h.2) ?_;refine dN rfl (YC (ys:=(bs.drop 2).take 16) rfl rfl (by simp;omega) (by simp;omega) (by simp[k8];omega) rfl ⟨fun _ hw=>ai.mem hw,?_⟩);refine Gc ?_;refine jh [11] [[],[],[],[],[],[],[],[],[],[],[],[]] [0,1,2,3,4,5,6,7,8,9,10,11] [] (fun _ hw=>ai.mem hw) oK oK (an rfl (bl rfl) ?_);obtain⟨e30,Tn⟩:=get_some (xs:=bs) (i:=18) oM;refine an rfl (ba rfl rfl 18 rfl oM) (an rfl (bL (j:=0) rfl 18 Tn rfl (by decide)) ?_);have ad3:=eg 18 e30 Tn;refine an rfl (vS rfl) (an rfl (NO rfl rfl) (an rfl (bl rfl) ?_));obtain⟨e35,To⟩:=get_some (xs:=bs) (i:=19) oM;refine an rfl (ba rfl rfl 19 rfl oM) (an rfl (bL (j:=0) rfl 19 To rfl (by decide)) ?_);have ad4:=eg 19 e35 To;refine an rfl (vS rfl) (an rfl (NP rfl rfl) (an rfl (aP (o':=18) rfl rfl) ?_));refine dN rfl (zU rfl rfl (by rw[og (by rw[arO,gQ];simp[k8];omega)];simp[k8]) rfl rfl ⟨fun _ hw=>ai.mem hw,?_⟩);refine kE ?_;refine ta [ar b4 (aA (qw bs)) 34,ar b2 (aA iS) 34] (fun w hw=>?_) ?_
 ·
  rw[←abC (b:=bs) aG (if e6=1 then 128 else 32) (by rw[Dj]),eg1,ad3,ad4];exact hw
 refine Gi ?_;refine au ?_;refine Gr fun w1 hw=>?_;exact⟨by rw[show rdv bs=qw bs from if_pos (by rw[qx,Dj];exact decide_eq_true hJ),show qx bs=true from by rw[qx,Dj];exact decide_eq_true hJ],ai.mem hw⟩⟩
instance apv{s:Sv}{xs:List UInt8}{r:Rt}{i:Nat}{L':Sv->List aj}[q:fw L s aN 1 xs i][u: ∀s',fu L i (own aN 1 s' (xs++eV r)) (L' s')]:bZ Tryz.prog 170 w0 L [s.val, .agg (aA r)] Sv (fun s=>s.val) L' (fun _=>True) (xs.length<=1000000):=⟨fun hp w hw=>
 (adR w0 w (L.eraseIdx i) s xs r (hw.perm (oq q.h)) hp).mono fun e w' ⟨s',h1,h2,h3,h4⟩=>⟨s',h1,trivial,by
  rw[←(u s').h];exact h4.perm (set_perm _ L i (At.lt q.h))⟩⟩
instance ad5{a:Sl (Sl UInt8)}[ha:aT w0 L a]:bZ Tryz.prog 182 w0 L [a.sv.val] (Sv) (fun zz=> .tuple #[zz.val, .int .i64 (kP (lx a))]) (fun zz=>own aA 19 zz (jE (lx a))::L) (fun zz=>True) (a.xs.length<=1000/\ ∀x∈a.xs,x.xs.length<=100000):=⟨fun aG w hw=>Gk (fun zz=>[own aA 19 zz (jE (lx a))]) hw (by
 have ha:=ha.h w hw;have KN:cH w a:=⟨ha⟩;obtain⟨qy,pC⟩:=aG;have hl:=xE a;refine cC Tryz.func182 rfl Tryz.ntmps182 rfl ?_;refine rW ?_;refine bT (X:=Nat×Sv×List Rt) (fun zz=>[(11, .int .i64 (zz.1:Nat)),(4,zz.2.1.val),(9,a.sv.val),(10, .int .i64 (a.xs.length:Nat))]) (fun zz=>[own aA 19 zz.2.1 zz.2.2]) (fun zz=>zz.1<=a.xs.length/\gI ((lx a).take zz.1)=some zz.2.2/\zz.2.2.length<=zz.1*100000) (fun zz=>a.xs.length -zz.1) (0,Sv.none,[]) ⟨oF,rfl,by simp⟩ sb (fun w hw=>Mem.dH aA 19 hw) ?_;rintro⟨i,t,q⟩ ⟨bc,aH,bB⟩;dsimp only;simp only at bc aH bB;refine al ?_;refine Gb (fun h0=>?_) fun h0=>?_
 ·
  refine mo ?_;obtain⟨x,hx⟩:=get_some (xs:=a.xs) (i:=i) oM;refine ag (ba rfl rfl i rfl oM) (ag (bL (j:=0) rfl i hx rfl (by decide)) ?_);have SG:Mb x _:=⟨List.mem_of_getElem? hx⟩;have ex:(lx a)[i]? =some x.xs:=by simp[lx,hx]
  have Gw:Mb x _:=⟨List.mem_of_getElem? hx⟩;refine au ?_;refine ag (zx (p:=x.xs.length) (q:=20) rfl rfl rfl rfl oM) (ay ?_);refine Gb (fun h1=>?_) fun h1=>?_
  ·
   have iF:gI (lx a)=none:=Rw (i:=i+1) (by rw[Kr ex,aH,Rv _ x.xs (aqY _) oM];rfl);refine au ?_;refine Gr fun w1 hw=>?_;exact⟨Sv.none,by rw[(F2 iF).2];rfl,trivial,by rw[(F2 iF).1];exact(ai.mem hw:Mem w [] _).dH aA 19⟩
  refine Gc ?_;refine bT (X:=Sv×List UInt8×Sv×List Rt) (fun zz=>[(6,zz.1.val),(4,zz.2.2.1.val),(9,a.sv.val),(10, .int .i64 (a.xs.length:Nat)),(11, .int .i64 (i:Nat))]) (fun zz=>[own aA 19 zz.2.2.1 zz.2.2.2]) (fun zz=> ∃pre,zz.2.2.2=q++pre/\mA x.xs=(mA zz.2.1).map (pre++ ·)/\eJ aN 1 (hp w) zz.1 zz.2.1/\zz.2.1.length%20=0/\zz.2.2.2.length+zz.2.1.length<=(i+1)*100000) (fun zz=>zz.2.1.length) (x.sv,x.xs,t,q) ⟨[],by simp,by cases mA x.xs<;>rfl,(ha.2 x (List.mem_of_getElem? hx)).1,oF,by have:=pC x (List.mem_of_getElem? hx);simp only;omega⟩ sb (fun w hw=>ai.mem hw) ?_;rintro⟨cu,cs,t2,q2⟩ ⟨pre,jn,eA,jo,mH,A3⟩;dsimp only;simp only at jn eA jo mH A3;have gcu:Gv w cu aN 1 cs:=⟨jo⟩;refine aO ?_;refine Gb (fun h2=>?_) fun h2=>?_
  ·
   have ad6:20<=cs.length:=by omega
   have LB:(cs.drop 0).take (20 -0)=cs.take 20:=by simp
   have ec:=Kq ad6;rw[RB]at ec;refine ay ?_;have ad7:Rg 0 20 cs.length:=⟨by omega⟩;refine ag (NR rfl rfl 20 rfl ad7.h.2) (dR (cj rfl (by simp;omega)) (Gs ?_));refine ag (aK (v:= .agg (aA (rdv ((cs.drop 0).take (20 -0))))) rfl rfl) (ag (aK (v:= .bool (qx ((cs.drop 0).take (20 -0)))) rfl rfl) (bt fun b7=>aY ?_));refine Gb (fun h3=>?_) fun h3=>?_
   ·
    rw[LB]at h3;have iF:gI (lx a)=none:=Rw (i:=i+1) (by rw[Kr ex,aH,eA,ec,h3];rfl);refine au ?_;refine Gr fun w1 hw=>?_;exact⟨Sv.none,by rw[(F2 iF).2];rfl,trivial,by rw[(F2 iF).1];exact(ai.mem hw:Mem w [] _).dH aA 19⟩
   rw[LB]at h3;rw[h3]at ec;simp only[if_true,asd]at ec;have ev0:rdv ((cs.drop 0).take (20 -0))=qw (cs.take 20):=by rw[LB,rdv,if_pos h3]
   refine al ?_;refine lO (enc:=aA) (vals:=[_]) [(rdv ((cs.drop 0).take (20 -0)))] rfl rfl rfl (by decide) (by decide) fun Dg=>?_;refine lN (s:=t2) (ys:=[(rdv ((cs.drop 0).take (20 -0)))]) rfl rfl (by decide) (fun w hw=>ke (s:=⟨false,Dg,0,1,1,none⟩) Tryz.underlying22 (by decide) ((inferInstance:Hd _ _ ⟨false,Dg,0,1,1,none⟩ aA 19 [(rdv ((cs.drop 0).take (20 -0)))]).h w hw)) (by simp only[aqQ,aqS];omega) (by simp only[aqQ,aqS];omega) fun s35 apw apx=>?_;refine al ?_;have ad8:Rg 20 cs.length cs.length:=⟨by omega⟩;refine ag (En rfl rfl 20 rfl ad8.h.1) (Gs ?_);refine Gi ?_;exact bn (x:=(cu,cs,t2,q2)) (_,cs.drop 20,s35,q2++[qw (cs.take 20)]) ⟨pre++[qw (cs.take 20)],by simp[jn],by rw[eA,ec];cases mA (cs.drop 20)<;>simp,by have:=jo.sub (lo:=20) (hi:=cs.length) oF (aqY _);rwa [aq5 (by rw[aq9];omega)]at this,by simp only[aq9];omega,by simp only[af0,aq9,aqQ,aqS];omega⟩ (by simp only[aq9];omega) sb (fun w hw=>by rw[ev0]at hw;exact ai.mem hw)
  refine al ?_;refine Gi ?_;exact bn (x:=(i,t,q)) (i+1,t2,q2) ⟨oF,by rw[Kr ex,aH,asd,eA,show cs=[]from arb.1 oF,Ru];simp[jn],by simp only;omega⟩ (by simp only;omega) sb (fun w hw=>ai.mem hw)
 refine YU ?_;have dS:gI (lx a)=some q:=by rw[←aH,aq5 oM]
 refine Gi ?_;refine au ?_;refine Gb (fun h4=>?_) fun h4=>?_
 ·
  refine au ?_;refine Gr fun w1 hw=>?_;exact⟨Sv.none,by rw[(Rx dS h4).2];rfl,trivial,by rw[(Rx dS h4).1];exact(ai.mem hw:Mem w [] _).dH aA 19⟩
 refine aO ?_;refine Gr fun w1 hw=>?_;exact⟨t,by rw[(Ks dS h4).2],trivial,by rw[(Ks dS h4).1];exact hw⟩)⟩
instance apy{t:Sv}{ts:List Rt}{ids:Int}{room:Int}[ht:di w0 L aA 19 t ts]:bZ Tryz.prog 101 w0 L [t.val, .int .i64 ids, .int .i64 room] (Sl (Sl UInt8)) (fun zz=> .tuple #[zz.sv.val, .int .i64 (jZ ts ids room)]) (fun zz=>Deep.cc zz::L) (fun zz=>lx zz=kO ts ids room) (True):=⟨fun aG w hw=>Gk (fun zz=>[Deep.cc zz]) hw (by
 have ht:=ht.h w hw;have wV:Gv w t aA 19 ts:=⟨ht⟩;refine wi Tryz.func101 rfl Tryz.ntmps101 rfl ?_;refine Jb ?_;refine bP rfl rfl rfl (fun hg=>cj (eC (aE hg rfl) iI) trivial) (bP rfl rfl rfl (fun hg=>(Ry.yl (nj (aE hg rfl)))) (ay ?_));refine Gb (fun h0=>?_) fun h0=>?_
 ·
  refine au ?_;refine Gr fun w1 hw=>?_;exact⟨⟨Sv.none,[]⟩,by rw[(RC h0).1];rfl,(RC h0).2.symm,Mem.zD (enc:=ca) (c:=1) (ai.mem hw)⟩
 obtain⟨GS,LC⟩:=h0;have hm:=F0 GS;obtain⟨k,hk⟩: ∃k:Nat,ids=k:=⟨ids.toNat,by omega⟩;obtain⟨n,hn⟩: ∃n:Nat,room/20=n:=⟨(room/20).toNat,by omega⟩;have qD:ids*(room/20)=((k*n:Nat):Int):=by rw[hk,hn,Int.natCast_mul]
 have ek:ids.toNat=k:=by omega
 have en:(room/20).toNat=n:=by omega
 refine aY ?_;refine Gb (fun h1=>?_) fun h1=>?_
 ·
  refine au ?_;refine Gr fun w1 hw=>?_;exact⟨⟨Sv.none,[]⟩,by rw[(RD GS LC h1).1];rfl,(RD GS LC h1).2.symm,Mem.zD (enc:=ca) (c:=1) (ai.mem hw)⟩
 have hE:=Kt GS LC h1;rw[ek,en]at hE;have tL:ts.length<=k*n:=by omega
 have hl:=ht.bd;refine ay ?_;refine W3 (τ:=UInt8) (n:=k) (cap:=k) rfl rfl oM oM oM oM oM fun dG ad9=>aY ?_;refine bT (X:=Nat×Sl (Sl UInt8)) (fun zz=>[(31, .int .i64 (zz.1:Nat)),(9,zz.2.sv.val),(2, .int .i64 room),(29,t.val),(30, .int .i64 (ts.length:Nat))]) (fun zz=>[Deep.cc zz.2]) (fun zz=>zz.1<=ts.length/\lx zz.2=lC (ts.take zz.1) k n) (fun zz=>ts.length -zz.1) (0,dG) ⟨oF,by rw[abz];show List.map _ _=_;rw[ad9];simp⟩ sb (fun w hw=>ai.mem hw) ?_;rintro⟨i,a⟩ ⟨bc,aH⟩;dsimp only;simp only at bc aH;refine al ?_;refine Gb (fun h2=>?_) fun h2=>?_
 ·
  refine ay ?_;obtain⟨vt,LD⟩:=get_some (xs:=ts) (i:=i) oM;refine ag (ba rfl rfl i rfl oM) (ag (iK rfl i LD rfl) (bt fun oX=>aO ?_));refine ag (mj rfl rfl oM oM) (ag (mj rfl rfl oM oM) (Gs ?_));refine lj ?_;have bb:i/n<k:=atG (by rw[asj];omega);have LF:i/n<a.xs.length:=by rw[←xE,aH,wK];exact bb
  obtain⟨x,hx⟩:=get_some (xs:=a.xs) (i:=i/n) LF;have ex:(lx a)[i/n]? =some x.xs:=by simp[lx,hx]
  have Tp:((i:Nat):Int)/(room/20)=((i/n:Nat):Int):=by rw[hn];exact(Int.natCast_ediv i n).symm
  have Fv:x.xs.length<=240:=by
   rw[aH,lC,aq1]at ex;obtain⟨j,_,hj⟩:=asI.1 ex;have:=Ko (ts.take i) n j;rw[hj]at this;omega
  refine ta (own ca 1 a.sv a.xs::own aN 1 x.sv x.xs::ar oX (aA vt) 34::(a.xs.eraseIdx (i/n)).map Deep.cc) (fun w hw=>(Tr.W4 (B:=[ar oX (aA vt) 34]) hx).mem hw) (Nv 9 [7] [own ca 1 a.sv a.xs,ar oX (aA vt) 34] (fun w hw=>ai.mem hw) oK oK ?_);simp only[ar6,arz];refine au ?_;refine bH (ba rfl rfl (i/n) Tp LF) (bH (bL (j:=0) rfl (i/n) hx rfl (by decide)) ?_);have apz:Mb x _:=⟨List.mem_of_getElem? hx⟩;refine Gq ?_;refine Ns (bH (ba rfl rfl (i/n) Tp LF) (uo ?_ (fun _ hw=>ai.mem hw)));refine WW rfl rfl oM (fun _ w hw=>ai.mem hw) fun lI wY=>uq ?_;simp only[asK,ase];refine Es (k:=i/n) ⟨lI,x.xs++eV vt⟩ oK rfl rfl rfl hx (al ?_);refine Gi ?_;exact bn (x:=(i,a)) (i+1,⟨a.sv,a.xs.set (i/n) ⟨lI,x.xs++eV vt⟩⟩) ⟨oF,by rw[abD,aby oF LD (by rw[←aH];exact ex),←aH];rfl⟩ oF sb (fun w hw=>ai.mem ((Tr.W5 (B:=[ar oX (aA vt) 34]) (enc:=aN) (c:=1) (by rw[←xE,aH,wK];exact bb)).mem hw))
 refine aO ?_;refine Gr fun w1 hw=>?_;exact⟨a,by rw[hE.1],by rw[aH,hE.2,aq5 oM],hw⟩)⟩
open Go.RowKit
instance:eI Tryz.prog 65 (.agg (dv nT)):=⟨by kernel_rfl⟩
theorem LG(v:cl)(t:Sl Rt)(w:World):(Instr.build 65 #[(0, .agg (cn v)),(1,t.sv.val)]).run Tryz.prog w= .ok (.agg (dv ⟨v,t⟩)) w:=by
 obtain⟨s,xs⟩:=t;obtain⟨⟨a1,a2,⟨a3,a4⟩,a5,a6,⟨a7,a8⟩⟩,⟨a9,a10⟩,a11,a12⟩:=v;unfold dv;obtain⟨e,b,o,l,c,p⟩:=s;obtain⟨e3,b3,o3,l3,c3,p3⟩:=a3;obtain⟨e7,b7,o7,l7,c7,p7⟩:=a7;obtain⟨e9,b9,o9,l9,c9,p9⟩:=a9
 cases e<;>cases e3<;>cases e7<;>cases e9<;>kernel_rfl
instance apA{b:Int}{p:Int}{s:Int}:cd Tryz.prog 75 w0 L [.int .i64 b, .int .i64 p, .int .i64 s] (.int .i64 (yo b p s)) (True):=⟨fun aG w hw=>by
 have LA:=ack b p;have Sy:=Sm s;refine wi Tryz.func75 rfl Tryz.ntmps75 rfl ?_;refine aY ?_;refine ag (mj rfl rfl oM oM) (ay ?_);refine ag (H3 rfl rfl) (ay ?_);refine Gr fun w1 hw=>?_;exact⟨congrArg (fun b=>Ending.returned (Value.int .i64 b)) ((by rw[yo])),ai.mem hw⟩⟩
instance apB{b:Int}{p:Int}{s:Int}:cd Tryz.prog 25 w0 L [.int .i64 b, .int .i64 p, .int .i64 s] (.int .i64 (AE b p s)) (True):=⟨fun aG w hw=>by
 refine wi Tryz.func25 rfl Tryz.ntmps25 rfl ?_;refine Cb ?_;refine Gr fun w1 hw=>?_;exact⟨congrArg (fun b=>Ending.returned (Value.int .i64 b)) ((by rw[AE])),ai.mem hw⟩⟩
instance apC{c:Cp}[hc:aT w0 L c]:cd Tryz.prog 98 w0 L [.agg (aS c)] (.int .i64 (ez (cv c))) (True):=⟨fun aG w hw=>by
 have hc:=hc.h w hw;have kT:cH w c:=⟨hc⟩;refine cC Tryz.func98 rfl Tryz.ntmps98 rfl ?_;refine Gc ?_;refine bY rfl fun b1=>Cb ?_;refine Gr fun w1 hw=>?_;exact⟨congrArg (fun b=>Ending.returned (Value.int .i64 b)) ((by simp only[ez,cv,gU])),ai.mem hw⟩⟩
instance apD{c:Cp}[hc:aT w0 L c]:cd Tryz.prog 95 w0 L [.agg (aS c)] (.int .i64 (ei (cv c))) (True):=⟨fun aG w hw=>by
 have hc:=hc.h w hw;have kT:cH w c:=⟨hc⟩;refine cC Tryz.func95 rfl Tryz.ntmps95 rfl ?_;refine Gc ?_;refine bY rfl fun b1=>Cb ?_;refine Gr fun w1 hw=>?_;exact⟨congrArg (fun b=>Ending.returned (Value.int .i64 b)) ((by simp only[ei,cv,gU])),ai.mem hw⟩⟩
instance apE{v:cl}{id:Nat}[hv:aT w0 L v]:bZ Tryz.prog 181 w0 L [.agg (cn v), .int .i64 (id:Nat)] (Sv) (fun zz=>zz.val) (fun zz=>own aN 1 zz (eK (cv v.ae) (v.at_.xs.getD id 0))::L) (fun zz=>True) (aX (cv v.ae)=true/\id<v.at_.xs.length/\ ∀y∈v.at_.xs,0<=y/\y<=65535/\(y≠0->kI (cv v.ae) (y -1)=true)):=⟨fun aG w hw=>Gk (fun zz=>[own aN 1 zz (eK (cv v.ae) (v.at_.xs.getD id 0))]) hw (by
 have hv:=hv.h w hw;have CU:cH w v:=⟨hv⟩;obtain⟨hk,hid,iG⟩:=aG;obtain⟨y,hy⟩:=get_some (xs:=v.at_.xs) (i:=id) hid;have oW:v.at_.xs.getD id 0=y:=pI hy;obtain⟨nr,Gn,bS⟩:=iG y (anc hy);refine cQ Tryz.func181 rfl Tryz.ntmps181 rfl ?_;refine Gc ?_;refine bY rfl fun b2=>aO ?_;refine ag (ba rfl rfl id rfl oM) (ag (bL (j:=0) rfl id hy rfl (by decide)) (aY ?_));refine Gb (fun h0=>?_) fun h0=>?_
 ·
  have hE:(eK (cv v.ae) (v.at_.xs.getD id 0))=[]:=by rw[oW,eK,if_pos oM]
  refine al ?_;refine Gr fun w1 hw=>?_;exact⟨Sv.none,rfl,trivial,by rw[hE];exact Mem.dH aN 1 (ai.mem hw:Mem w [] _)⟩
 have h1y:1<=y:=by omega
 obtain⟨g1,g2,g3⟩:=mu.1 (bS oM);have dP:=gU v.ae.blocks.xs;have iB:=lR.1 (fy.1 hk).1;simp only[cv,dP]at iB;have CX:0<=((y -1)/v.ae.pages):=asW oM oM;have nW:0<=((y -1)%v.ae.pages):=asZ _ oM;have pN:((y -1)%v.ae.pages)<v.ae.pages:=as5 _ oM;have pO:=xX (c:=v.ae) (b:=((y -1)/v.ae.pages));change 2<=((y -1)/v.ae.pages)at g1;change((y -1)/v.ae.pages)<((iU v.ae.blocks.xs).length:Int)at g2;rw[dP]at g2;obtain⟨B,hB⟩:=get_some (xs:=v.ae.blocks.xs) (i:=((y -1)/v.ae.pages).toNat) oM;have sD:Mb B v.ae.blocks:=⟨List.mem_of_getElem? hB⟩;have eX:bv B=ak (cv v.ae) ((y -1)/v.ae.pages):=by rw[←pO];simp[List.getD,hB]
 have gm:=fc.1 ((fy.1 hk).2.2.2.2 (bv B) (anc (mW hB)));have iY:=oA B.pages.xs;have CY:(B.pages.xs.length:Int)=v.ae.pages:=by have:=gm.1;simp only[bv,cv,iY]at this;exact this
 obtain⟨z,hz⟩:=get_some (xs:=B.pages.xs) (i:=((y -1)%v.ae.pages).toNat) oM;have wS:Mb z B.pages:=⟨List.mem_of_getElem? hz⟩;have qy:bK (cv v.ae) (y -1)=z.xs:=by
  show(ak (cv v.ae) ((y -1)/v.ae.pages)).pages.getD ((y -1)%v.ae.pages).toNat []=z.xs;rw[←eX];simp[bv,List.getD,qm hz]
 have hI:(eK (cv v.ae) (v.at_.xs.getD id 0))=iV (cv v.ae) y:=by rw[oW,eK,if_neg oM]
 refine Gc ?_;refine uL [18,22,23,2022,4018] [[],[],[],[],[],[],[],[],[],[],[],[],[],[],[],[],[],[],[],[18],[18],[18],[],[18,22],[18,22,23]] [0,1,2,3,4,5,6,7,8,9,10,11,12,13,14,15,16,17,18,19,20,21,22,23,24] [ar b2 (cn v) 63] [(22,ov Tryz.prog 324)] oK (fun _ hw=>ai.mem hw) oK oK (an rfl (aP (o':=0) rfl rfl) (an rfl (aP (o':=2) rfl rfl) (an rfl (bW rfl) (an rfl (bl rfl) (an rfl (aP (o':=0) rfl rfl) (an rfl (aP (o':=0) rfl rfl) (an rfl (bW rfl) (an rfl (mj rfl rfl oM oM) (an rfl (ba rfl rfl (((y -1)/v.ae.pages).toNat) oM oM) (an rfl (aP rfl rfl) (an rfl (bL (j:=0) rfl (((y -1)/v.ae.pages).toNat) hB rfl (by decide)) (an rfl (bl rfl) ?_))))))))))));refine an rfl (aP (o':=0) rfl rfl) (an rfl (aP (o':=0) rfl rfl) (an rfl (bW rfl) (an rfl (zl rfl rfl oM oM) (an rfl (ba rfl rfl (((y -1)%v.ae.pages).toNat) oM oM) (an rfl (bL (j:=0) rfl (((y -1)%v.ae.pages).toNat) hz rfl (by decide)) ?_)))));refine xN rfl rfl trivial (fun e x w hw=>ai.mem hw) (Cert.one (i:=22) rfl rfl rfl nF (Cert.none rfl)) fun Db S6=>⟨fun _ hw=>ai.mem hw,?_⟩;have e1:Db.body.xs=(cD z.xs).1.body:=congrArg PV.body S6;refine an rfl (bl rfl) (an rfl (aK (v:= .agg (cX Db)) rfl rfl) (an rfl (aK (v:= .int .i64 ((cD z.xs).2)) rfl rfl) (tp (m:=ov Tryz.prog 324) rfl rfl nF (Cert.none rfl) fun b6=>?_)));change Ln _ _ _ _ _ _ _ _ (cB _ _ (.pointer (some ⟨b6,0,none⟩))) (ar b6 (cX oH) 324::_) _;refine dN rfl (qX rfl rfl ⟨fun _ hw=>ai.mem hw,?_⟩);refine an rfl (ie rfl) (au ?_);refine Gb (fun h1=>?_) fun h1=>?_
 ·
  have hE:(eK (cv v.ae) (v.at_.xs.getD id 0))=[]:=by rw[hI,iV,qy,if_neg h1]
  refine al ?_;refine Gr fun w1 hw=>?_;exact⟨Sv.none,rfl,trivial,by rw[hE];exact Mem.dH aN 1 (ai.mem hw:Mem w [] _)⟩
 have A5:(cD z.xs).2=0:=h1;have hE:(eK (cv v.ae) (v.at_.xs.getD id 0))=Db.body.xs:=by rw[hI,iV,qy,if_pos A5,e1]
 refine aO ?_;refine Gr fun w1 hw=>?_;exact⟨Db.body.sv,rfl,trivial,by rw[hE];exact ai.mem hw⟩)⟩
instance apF{s:Sl (Sl UInt8)}[hs:aT w0 L s]:bZ Tryz.prog 163 w0 L [s.sv.val] (Sv) (fun zz=>zz.val) (fun zz=>own (ca (τ:=UInt8)) 1 zz s.xs::L) (fun zz=>True) (s.xs.length<=1000000):=⟨fun aG w hw=>Gk (fun zz=>[own (ca (τ:=UInt8)) 1 zz s.xs]) hw (by
 have hs:=hs.h w hw;have yp:cH w s:=⟨hs⟩;refine cC Tryz.func163 rfl Tryz.ntmps163 rfl ?_;refine au ?_;refine ag (uz Tryz.underlying178 rfl) (Gc ?_);refine Gb (fun h0=>?_) fun h0=>?_
 ·
  have e0:s.xs=[]:=arb.1 (by have:=hs.1.ok.nil h0;have:=hs.1.len;omega);refine al ?_;refine Gr fun w1 hw=>?_;exact⟨Sv.none,rfl,trivial,by rw[e0];exact(ai.mem hw:Mem w [] _).dH (ca (τ:=UInt8)) 1⟩
 refine Gc ?_;refine vT (ca (τ:=UInt8)) fun b5=>Gs ?_;refine lN (s:=⟨false,b5,0,0,0,none⟩) (enc:=(ca (τ:=UInt8))) (ys:=s.xs) rfl rfl (by decide) (fun w hw=>ke (s:=s.sv) Tryz.underlying178 (by decide) ((inferInstance:di _ _ (ca (τ:=UInt8)) 1 s.sv s.xs).h w hw)) (by simp only[aqS];omega) (by simp only[aqS];omega) fun s7 yq wP=>?_;refine ay ?_;refine Gr fun w1 hw=>?_;exact⟨s7,rfl,trivial,by rw[arJ]at hw;exact ai.mem hw⟩)⟩
instance apG{c:Cp}[hc:aT w0 L c]:bZ Tryz.prog 96 w0 L [.agg (aS c)] (Cp) (fun zz=> .agg (aS zz)) (fun zz=>fz zz::L) (fun zz=>cv zz=cv c) (gg c):=⟨fun aG w hw=>Gk (fun zz=>[fz zz]) hw (by
 have hc:=hc.h w hw;have kT:cH w c:=⟨hc⟩;obtain⟨gL,gZ,kU⟩:=aG;refine cC Tryz.func96 rfl Tryz.ntmps96 rfl ?_;refine Gc ?_;refine bY rfl fun b1=>bt fun b2=>al ?_;refine bg rfl oM fun x9 CT=>Gs ?_;refine eN (cs':=aS (⟨c.pages,c.size,⟨x9,c.blocks.xs⟩,c.ops,c.off,c.aU⟩:Cp)) rfl rfl (by show 2<6;decide) (by first|rfl|exact Sv.one _) rfl (aY ?_);refine bT (X:=Nat×List Bk) (fun zz=>[(14, .int .i64 (zz.1:Nat)),(1, .pointer (some ⟨b1,0,none⟩)),(2, .pointer (some ⟨b2,0,none⟩)),(12,x9.val),(13, .int .i64 (c.blocks.xs.length:Nat))]) (fun zz=>[own bV 4 x9 zz.2,aj.all ((zz.2.take zz.1).map fun b:Bk=>fz b.pages),ar b2 (aS gF) 59,ar b1 (aS (⟨c.pages,c.size,⟨x9,zz.2⟩,c.ops,c.off,c.aU⟩:Cp)) 59]) (fun zz=>zz.1<=c.blocks.xs.length/\zz.2.length=c.blocks.xs.length/\iU zz.2=iU c.blocks.xs/\ ∀j,zz.1<=j->zz.2[j]? =c.blocks.xs[j]?) (fun zz=>c.blocks.xs.length -zz.1) (0,c.blocks.xs) ⟨Nat.zero_le _,rfl,rfl,fun _ _=>rfl⟩ sb (fun w hw=>by
  simp only[arz,arZ];exact ai.mem (Mem.xP hw)) ?_
 rintro⟨i,zs⟩ ⟨bc,aH,bB,cT⟩;dsimp only;simp only at bc aH bB cT;refine al ?_;refine Gb (fun h0=>?_) fun h0=>?_
 ·
  obtain⟨z,hz⟩:=get_some (xs:=zs) (i:=i) oM;have wS:Mb z c.blocks:=⟨List.mem_of_getElem? (by rw[←cT i (aqY _)];exact hz)⟩;have eZ:=kU z wS.h;obtain⟨aea,apH⟩:=eZ;rw[oA]at aea;refine ay ?_;refine ag (ba rfl rfl i rfl oM) (ag (iK rfl i hz rfl) (bt fun b4=>aO ?_));refine bg rfl oM fun hH C5=>aY ?_;refine bT (X:=Nat×List (Sl UInt8)) (fun zz=>[(24, .int .i64 (zz.1:Nat)),(5,hH.val),(1, .pointer (some ⟨b1,0,none⟩)),(2, .pointer (some ⟨b2,0,none⟩)),(3, .int .i64 (i:Nat)),(12,x9.val),(13, .int .i64 (c.blocks.xs.length:Nat)),(14, .int .i64 (i:Nat)),(23, .int .i64 (z.pages.xs.length:Nat))]) (fun zz=>[own (ca (τ:=UInt8)) 1 hH zz.2,aj.all ((zz.2.take zz.1).map fun b:Sl UInt8=>fz b),ar b4 (bV z) 180,own bV 4 x9 zs,aj.all ((zs.take i).map fun b:Bk=>fz b.pages),ar b2 (aS gF) 59,ar b1 (aS (⟨c.pages,c.size,⟨x9,zs⟩,c.ops,c.off,c.aU⟩:Cp)) 59]) (fun zz=>zz.1<=z.pages.xs.length/\zz.2.length=z.pages.xs.length/\aL zz.2=aL z.pages.xs/\ ∀k,zz.1<=k->zz.2[k]? =z.pages.xs[k]?) (fun zz=>z.pages.xs.length -zz.1) (0,z.pages.xs) ⟨Nat.zero_le _,rfl,rfl,fun _ _=>rfl⟩ sb (fun w hw=>by
   simp only[arz,arZ];exact ai.mem (Mem.xP hw)) ?_
  rintro⟨j,qs⟩ ⟨jn,eA,jo,mH⟩;dsimp only;simp only at jn eA jo mH;refine al ?_;refine Gb (fun h1=>?_) fun h1=>?_
  ·
   obtain⟨y,hy⟩:=get_some (xs:=qs) (i:=j) oM;have LH:z.pages.xs[j]? =some y:=by rw[←mH j (aqY _)];exact hy
   have KV:Mb y z.pages:=⟨List.mem_of_getElem? LH⟩;have tL:=Co (qm LH);have iY:=Cq (aL z.pages.xs) (j+1);have hyl:y.xs.length<=140737488355328:=by rw[tL]at iY;omega
   refine al ?_;refine lj ?_;refine EW (s:=hH) (enc:=ca (τ:=UInt8)) (c:=1) (xs:=qs) inferInstance oM fun apI apJ aeb apK=>?_;refine Gi ?_;refine au ?_;refine ag (ba rfl rfl j rfl oM) (ag (bL (j:=0) rfl j hy rfl (by decide)) (bg rfl hyl fun kt wX=>?_));obtain⟨vt,LD⟩:=get_some (xs:=qs) (i:=j) oM;refine ag (mn (s:=hH) (i:=j) rfl rfl rfl aeb oM) (Es (s:=hH) (xs:=qs) (k:=j) (a:=y) (⟨kt,y.xs⟩:Sl UInt8) oK rfl rfl rfl hy (al ?_));refine Gi ?_;exact bn (x:=(j,qs)) (j+1,qs.set j (⟨kt,y.xs⟩:Sl UInt8)) ⟨oF,by rw[aru];exact eA,by rw[aL,atd,←aL,jo];exact wx (z:=y.xs) (qm LH),fun k hk=>by rw[arj oF];exact mH k oF⟩ (by simp only;omega) sb (fun w hw=>by
    have h1:=JA (a:=(⟨kt,y.xs⟩:Sl UInt8)) (ai.mem hw:Mem _ (own aN 1 kt y.xs::[own (ca (τ:=UInt8)) 1 hH (qs.set j (⟨kt,y.xs⟩:Sl UInt8)),aj.all ((qs.take j).map fun b:Sl UInt8=>fz b),ar b4 (bV z) 180,own bV 4 x9 zs,aj.all ((zs.take i).map fun b:Bk=>fz b.pages),ar b2 (aS gF) 59,ar b1 (aS (⟨c.pages,c.size,⟨x9,zs⟩,c.ops,c.off,c.aU⟩:Cp)) 59]) _);have h3:=Mem.Ag (ai.mem h1:Mem _ (fz (⟨kt,y.xs⟩:Sl UInt8)::aj.all ((qs.take j).map fun b:Sl UInt8=>fz b)::[own (ca (τ:=UInt8)) 1 hH (qs.set j (⟨kt,y.xs⟩:Sl UInt8)),ar b4 (bV z) 180,own bV 4 x9 zs,aj.all ((zs.take i).map fun b:Bk=>fz b.pages),ar b2 (aS gF) 59,ar b1 (aS (⟨c.pages,c.size,⟨x9,zs⟩,c.ops,c.off,c.aU⟩:Cp)) 59]) _);rw[JI (z':=(⟨kt,y.xs⟩:Sl UInt8)) hy]at h3;exact ai.mem h3)
  obtain rfl:j=qs.length:=by omega
  rw[aq5 (aqY _)]at*;refine YT ?_;refine EW (s:=x9) (enc:=bV) (c:=4) (xs:=zs) inferInstance oM fun hn9 hs9 ho9 hl9=>?_;refine Gi ?_;refine au ?_;obtain⟨e40,aec⟩:=get_some (xs:=zs) (i:=i) oM;refine ag (mn (s:=x9) (i:=i) rfl rfl rfl ho9 oM) (ag (aP rfl rfl) (kz (n:=1) (k:=i) (j:=0) (a:=z) (a':=({z with pages:=⟨hH,qs⟩}:Bk)) (xs:=zs) (enc:=bV) (c:=4) (v:=hH.val) oK rfl rfl rfl hz (by rw[Sv.jw];simp[Sv.one]) (by rw[Sv.jw];rfl) (by decide) (by rw[Sv.jw];rfl) (al ?_)))
  refine Gi ?_;exact bn (x:=(i,zs)) (i+1,zs.set i ({z with pages:=⟨hH,qs⟩}:Bk)) ⟨oF,by rw[aru];exact aH,by rw[xW,←bB,show bv ({z with pages:=⟨hH,qs⟩}:Bk)=bv z from by rw[bv,bv,jo],←xW,wx hz],fun j hj=>by rw[arj oF];exact cT j oF⟩ (by simp only;omega) sb (fun w hw=>by
   have h1:=JH (ai.mem hw:Mem _ (own (ca (τ:=UInt8)) 1 hH qs::aj.all (qs.map fun b:Sl UInt8=>fz b)::[own bV 4 x9 (zs.set i ({z with pages:=⟨hH,qs⟩}:Bk)),aj.all ((zs.take i).map fun b:Bk=>fz b.pages),ar b2 (aS gF) 59,ar b1 (aS (⟨c.pages,c.size,⟨x9,zs⟩,c.ops,c.off,c.aU⟩:Cp)) 59]) _)
   have h3:=Mem.Ag (ai.mem h1:Mem _ (fz (⟨hH,qs⟩:Sl (Sl UInt8))::aj.all ((zs.take i).map fun b:Bk=>fz b.pages)::[own bV 4 x9 (zs.set i ({z with pages:=⟨hH,qs⟩}:Bk)),ar b2 (aS gF) 59,ar b1 (aS (⟨c.pages,c.size,⟨x9,zs⟩,c.ops,c.off,c.aU⟩:Cp)) 59]) _)
   rw[Ql (z':=({z with pages:=⟨hH,qs⟩}:Bk)) hz]at h3
   exact(ai.mem h3:Mem _ [own bV 4 x9 (zs.set i ({z with pages:=⟨hH,qs⟩}:Bk)),aj.all (((zs.set i ({z with pages:=⟨hH,qs⟩}:Bk)).take (i+1)).map fun b:Bk=>fz b.pages),ar b2 (aS gF) 59,ar b1 (aS (⟨c.pages,c.size,⟨x9,zs⟩,c.ops,c.off,c.aU⟩:Cp)) 59] _))
 obtain rfl:i=zs.length:=by omega
 rw[aq5 (aqY _)]at*;refine ay ?_;refine ag (Ry.to (v':=c.aU.sv.val) (bW rfl) rfl) (bg rfl oM fun sH Tq=>Gs ?_);refine eN (cs':=aS (⟨c.pages,c.size,⟨x9,zs⟩,c.ops,c.off,⟨sH,c.aU.xs⟩⟩:Cp)) rfl rfl (by show 5<6;decide) (by first|rfl|exact Sv.one _) rfl (au ?_);refine Gr fun w1 hw=>?_;exact⟨(⟨c.pages,c.size,⟨x9,zs⟩,c.ops,c.off,⟨sH,c.aU.xs⟩⟩:Cp),rfl,by simp only[cv,bB],Fp (d:=(⟨c.pages,c.size,⟨x9,zs⟩,c.ops,c.off,⟨sH,c.aU.xs⟩⟩:Cp)) ((P1 (a:=(⟨sH,c.aU.xs⟩:Sl Ft)) ((Qi (ai.mem hw:Mem w (own bV 4 x9 zs::aj.all (zs.map fun b:Bk=>fz b.pages)::[own eG 4 sH c.aU.xs]) _)).perm (List.Perm.swap _ _ _))).perm (List.Perm.swap _ _ _))⟩)⟩
instance apL{c:Cp}[hc:aT w0 L c]:bZ Tryz.prog 108 w0 L [.agg (aS c)] (dr×Sl (Sl UInt8)) (fun zz=> .tuple #[.agg (dv zz.1),zz.2.sv.val, .int .i64 ((dF (cv c)).2)]) (fun zz=>fz zz.1::fz zz.2::L) (fun zz=>ck zz.1=(dF (cv c)).1/\lx zz.2=kS (cv c)) (True):=⟨fun aG w hw=>Gk (fun zz:dr×Sl (Sl UInt8)=>[fz zz.1,fz zz.2]) hw (by
 have hc:=hc.h w hw;have kT:cH w c:=⟨hc⟩;refine cC Tryz.func108 rfl Tryz.ntmps108 rfl ?_;refine Gc ?_;refine bY rfl fun b1=>bt fun b2=>c6 ?_;refine Gb (fun h0=>?_) fun h0=>?_
 ·
  have hE:=Se h0;refine Gc ?_;refine ag (da (v:= .agg (dv nT)) rfl (fun w=>by kernel_rfl)) (au ?_);refine Gr fun w1 hw=>?_;exact⟨(nT,⟨Sv.none,[]⟩),by rw[hE.1];rfl,⟨by rw[hE.1];rfl,by rw[hE.2];rfl⟩,Gj (AF (ai.mem hw:Mem w [] _))⟩
 refine ay ?_;refine bg rfl trivial fun aD kV=>?_;have aed:=QJ (cv c);rw[abt]at kV;have GU:aD.at_.xs=(bE (cv c)).1.at_:=congrArg VV.at_ kV;rw[←GU]at aed;have apM: ∀(L:List aj) [Hd w L aD.at_.sv bw 1 aD.at_.xs],aT w L aD.at_:=fun L q=>⟨fun w h=>⟨q.h w h,fun _ _=>trivial⟩⟩;have apN: ∀(L:List aj) [aT w L aD.ae] [aT w L aD.at_],aT w L aD:=fun L p q=>⟨fun w h=>⟨p.h w h,q.h w h⟩⟩;refine Gs ?_;refine ag (aK (v:= .agg (cn aD)) rfl rfl) (ag (aK (v:= .int .i64 ((bE (cv c)).2)) rfl rfl) (bt fun b5=>aY ?_));refine Gb (fun h1=>?_) fun h1=>?_
 ·
  have hE:=Sg h0 h1;refine Gc ?_;refine ag (da (v:= .agg (dv nT)) rfl (fun w=>by kernel_rfl)) (aO ?_);refine Gr fun w1 hw=>?_;exact⟨(nT,⟨Sv.none,[]⟩),by rw[hE.1];rfl,⟨by rw[hE.1];rfl,by rw[hE.2];rfl⟩,Gj (AF (ai.mem hw:Mem w [] _))⟩
 have A5:(bE (cv c)).2=0:=h1;have LK:lY (vv aD)=true:=by rw[kV];exact acn A5
 have Bx:cv aD.ae=(vv aD).ae:=rfl;have Ts:aX (cv aD.ae)=true:=(Cy LK).1;have hby: ∀y∈aD.at_.xs,0<=y/\y<=65535/\(y≠0->kI (cv aD.ae) (y -1)=true):=fun y hy=>by
  obtain⟨g1,g2⟩:=(Cy LK).2.2 y hy;obtain⟨j,hj⟩:=arc hy;exact⟨g1,g2,fun g=>(QL LK hj g).2.2⟩
 refine Gc ?_;refine gO oK oK (au ?_);refine sW (cj rfl trivial) (ay ?_);refine Gb (fun h2=>?_) fun h2=>?_
 ·
  have Dk:(((bE (cv c)).1.at_.length:Nat):Int)≠ez (cv c):=by rw[←GU];exact h2
  have hE:=Sh h0 A5 Dk;refine Gc ?_;refine ag (da (v:= .agg (dv nT)) rfl (fun w=>by kernel_rfl)) (au ?_);refine Gr fun w1 hw=>?_;exact⟨(nT,⟨Sv.none,[]⟩),by rw[hE.1];rfl,⟨by rw[hE.1];rfl,by rw[hE.2];rfl⟩,Gj (AF (ai.mem hw:Mem w [] _))⟩
 have Dk:(((bE (cv c)).1.at_.length:Nat):Int)=ez (cv c):=by rw[←GU];exact h2
 have apO:aD.at_.xs.length<=64:=by have:=KD (cv c);rw[←GU]at Dk;omega
 refine au ?_;refine rJ (enc:=ca (τ:=UInt8)) (n:=aD.at_.xs.length) (cap:=aD.at_.xs.length) (⟨Sv.none,[]⟩:Sl UInt8) rfl rfl rfl rfl rfl oM oM oM fun jb=>aY ?_;refine bT (X:=Nat×List (Sl UInt8)) (fun zz=>[(36, .int .i64 (zz.1:Nat)),(7,(⟨false,jb,0,aD.at_.xs.length,aD.at_.xs.length,none⟩:Sv).val),(2, .pointer (some ⟨b2,0,none⟩)),(5, .pointer (some ⟨b5,0,none⟩)),(35, .int .i64 ((List.replicate aD.at_.xs.length (⟨Sv.none,[]⟩:Sl UInt8)).length:Nat))]) (fun zz=>[own (ca (τ:=UInt8)) 1 ⟨false,jb,0,aD.at_.xs.length,aD.at_.xs.length,none⟩ zz.2,aj.all ((zz.2.take zz.1).map fun b:Sl UInt8=>fz b),ar b5 (cn aD) 63,fz aD.ae,own bw 1 aD.at_.sv aD.at_.xs,ar b2 (dv nT) 65,ar b1 (aS c) 59]) (fun zz=>zz.1<=aD.at_.xs.length/\zz.2.length=aD.at_.xs.length/\aL (zz.2.take zz.1)=(aD.at_.xs.take zz.1).map (eK (cv aD.ae))) (fun zz=>aD.at_.xs.length -zz.1) (0,List.replicate aD.at_.xs.length (⟨Sv.none,[]⟩:Sl UInt8)) ⟨Nat.zero_le _,by simp,by simp[aL]⟩ sb (fun w hw=>by
  simp only[arz,arZ];exact ai.mem (Mem.xP hw)) ?_
 rintro⟨i,qs⟩ ⟨bc,aH,bB⟩;dsimp only;simp only at bc aH bB;refine al ?_;refine Gb (fun h3=>?_) fun h3=>?_
 ·
  rw[arK]at h3;obtain⟨q,hq⟩:=get_some (xs:=qs) (i:=i) oM;obtain⟨y,hy⟩:=get_some (xs:=aD.at_.xs) (i:=i) oM;have oW:aD.at_.xs.getD i 0=y:=pI hy;refine al ?_;refine lj ?_;have aee:=FC (b:=jb) (n:=aD.at_.xs.length) oM;refine Gi ?_;refine au ?_;refine bg rfl ⟨Ts,by omega,hby⟩ fun j9 rz=>?_;obtain⟨e44,apP⟩:=get_some (xs:=qs) (i:=i) oM;refine ag (mn (s:=⟨false,jb,0,aD.at_.xs.length,aD.at_.xs.length,none⟩) (i:=i) rfl rfl rfl aee (by simp only;omega)) (Es (s:=⟨false,jb,0,aD.at_.xs.length,aD.at_.xs.length,none⟩) (xs:=qs) (k:=i) (a:=q) (⟨j9,eK (cv aD.ae) (aD.at_.xs.getD i 0)⟩:Sl UInt8) oK rfl rfl oM hq (al ?_));refine Gi ?_;exact bn (x:=(i,qs)) (i+1,qs.set i (⟨j9,eK (cv aD.ae) (aD.at_.xs.getD i 0)⟩:Sl UInt8)) ⟨oF,by rw[aru];exact aH,by rw[aL,FB hq,←aL,bB,aq0,hy,art,oW];rfl⟩ (by simp only;omega) sb (fun w hw=>by
   have h1:=JA (a:=(⟨j9,eK (cv aD.ae) (aD.at_.xs.getD i 0)⟩:Sl UInt8)) (ai.mem hw:Mem _ (own aN 1 j9 (eK (cv aD.ae) (aD.at_.xs.getD i 0))::[own (ca (τ:=UInt8)) 1 ⟨false,jb,0,aD.at_.xs.length,aD.at_.xs.length,none⟩ (qs.set i (⟨j9,eK (cv aD.ae) (aD.at_.xs.getD i 0)⟩:Sl UInt8)),aj.all ((qs.take i).map fun b:Sl UInt8=>fz b),ar b5 (cn aD) 63,fz aD.ae,own bw 1 aD.at_.sv aD.at_.xs,ar b2 (dv nT) 65,ar b1 (aS c) 59]) _);have h3:=Mem.Ag (ai.mem h1:Mem _ (fz (⟨j9,eK (cv aD.ae) (aD.at_.xs.getD i 0)⟩:Sl UInt8)::aj.all ((qs.take i).map fun b:Sl UInt8=>fz b)::[own (ca (τ:=UInt8)) 1 ⟨false,jb,0,aD.at_.xs.length,aD.at_.xs.length,none⟩ (qs.set i (⟨j9,eK (cv aD.ae) (aD.at_.xs.getD i 0)⟩:Sl UInt8)),ar b5 (cn aD) 63,fz aD.ae,own bw 1 aD.at_.sv aD.at_.xs,ar b2 (dv nT) 65,ar b1 (aS c) 59]) _);rw[JI (z':=(⟨j9,eK (cv aD.ae) (aD.at_.xs.getD i 0)⟩:Sl UInt8)) hq]at h3;exact ai.mem h3)
 rw[arK]at h3;obtain rfl:i=qs.length:=by omega
 rw[aq5 (aqY _)]at*;rw[aq5 oM]at bB;have ve:lx (⟨⟨false,jb,0,aD.at_.xs.length,aD.at_.xs.length,none⟩,qs⟩:Sl (Sl UInt8))=cq (bE (cv c)).1:=by rw[←kV];exact bB
 have dP: ∀x∈qs,x.xs.length<=100000:=fun x hx=>by
  have hm:x.xs∈aL qs:=ard (f:=fun x:Sl UInt8=>x.xs) hx;rw[bB]at hm;obtain⟨y,_,hye⟩:=ar0.1 hm;rw[←hye];exact atu (acp _ _) (by decide)
 refine mo ?_;refine ta [fz (⟨⟨false,jb,0,aD.at_.xs.length,aD.at_.xs.length,none⟩,qs⟩:Sl (Sl UInt8)),ar b5 (cn aD) 63,fz aD.ae,own bw 1 aD.at_.sv aD.at_.xs,ar b2 (dv nT) 65,ar b1 (aS c) 59] (fun w hw=>ai.mem (JH (ai.mem hw:Mem _ (own (ca (τ:=UInt8)) 1 ⟨false,jb,0,aD.at_.xs.length,aD.at_.xs.length,none⟩ qs::aj.all (qs.map fun b:Sl UInt8=>fz b)::[ar b5 (cn aD) 63,fz aD.ae,own bw 1 aD.at_.sv aD.at_.xs,ar b2 (dv nT) 65,ar b1 (aS c) 59]) _))) (Gi ?_);refine Gs ?_;refine bg (hc:=ad5 (a:=(⟨⟨false,jb,0,aD.at_.xs.length,aD.at_.xs.length,none⟩,qs⟩:Sl (Sl UInt8)))) rfl ⟨by show qs.length<=1000;omega,dP⟩ fun xe S7=>Gs ?_;refine ag (aK (v:=xe.val) rfl rfl) (ag (aK (v:= .int .i64 (kP (lx (⟨⟨false,jb,0,aD.at_.xs.length,aD.at_.xs.length,none⟩,qs⟩:Sl (Sl UInt8))))) rfl rfl) (aY ?_));refine Gb (fun h4=>?_) fun h4=>?_
 ·
  rw[ve]at h4;have hE:=Si h0 A5 Dk h4;refine Gc ?_;refine ag (da (v:= .agg (dv nT)) rfl (fun w=>by kernel_rfl)) (au ?_);refine Gr fun w1 hw=>?_;exact⟨(nT,⟨Sv.none,[]⟩),by rw[hE.1];rfl,⟨by rw[hE.1];rfl,by rw[hE.2];rfl⟩,Gj (AF (ai.mem hw:Mem w [] _))⟩
 have Tt:=h4;rw[ve]at Tt;have hE:=CL h0 A5 Dk Tt;refine al ?_;refine ag (da (v:= .agg (dv (⟨aD,⟨xe,jE (lx (⟨⟨false,jb,0,aD.at_.xs.length,aD.at_.xs.length,none⟩,qs⟩:Sl (Sl UInt8)))⟩⟩:dr))) rfl (LG aD ⟨xe,jE (lx (⟨⟨false,jb,0,aD.at_.xs.length,aD.at_.xs.length,none⟩,qs⟩:Sl (Sl UInt8)))⟩)) (aO ?_);refine Gr fun w1 hw=>?_;exact⟨((⟨aD,⟨xe,jE (lx (⟨⟨false,jb,0,aD.at_.xs.length,aD.at_.xs.length,none⟩,qs⟩:Sl (Sl UInt8)))⟩⟩:dr),(⟨⟨false,jb,0,aD.at_.xs.length,aD.at_.xs.length,none⟩,qs⟩:Sl (Sl UInt8))),by rw[hE.1],⟨by rw[hE.1];simp only[ck,ve,kV],by rw[hE.2];exact ve⟩,Sk (f:=(⟨aD,⟨xe,jE (lx (⟨⟨false,jb,0,aD.at_.xs.length,aD.at_.xs.length,none⟩,qs⟩:Sl (Sl UInt8)))⟩⟩:dr)) (ai.mem hw:Mem w [fz aD.ae,own bw 1 aD.at_.sv aD.at_.xs,own aA 19 xe (jE (lx (⟨⟨false,jb,0,aD.at_.xs.length,aD.at_.xs.length,none⟩,qs⟩:Sl (Sl UInt8)))),fz (⟨⟨false,jb,0,aD.at_.xs.length,aD.at_.xs.length,none⟩,qs⟩:Sl (Sl UInt8))] _)⟩)⟩
instance apQ{x:Sv}{xs:List Rt}{y:Sv}{ys:List Rt}[hx:di w0 L aA 19 x xs][hy:di w0 L aA 19 y ys]:cd Tryz.prog 168 w0 L [x.val,y.val] (.bool (decide (xs=ys))) (True):=⟨fun aG w hw=>by
 have hx:=hx.h w hw;have hy:=hy.h w hw;have AL:Gv w x aA 19 xs:=⟨hx⟩;have SK:Gv w y aA 19 ys:=⟨hy⟩;have hbx:=hx.bd;refine cQ Tryz.func168 rfl Tryz.ntmps168 rfl ?_;refine ik ?_;refine Gb (fun h0=>?_) fun h0=>?_
 ·
  have hz:decide (xs=ys)=false:=decide_eq_false fun e=>h0 (by rw[e]);refine al ?_;refine Gr fun w1 hw=>?_;exact Ge (hz.symm) hw
 have oE:xs.length=ys.length:=by omega
 refine aO ?_;refine bT (X:=Nat) (fun zz=>[(13, .int .i64 (zz:Nat)),(0,x.val),(1,y.val),(12, .int .i64 (xs.length:Nat))]) (fun zz=>[]) (fun zz=>zz<=xs.length/\ ∀j,j<zz->xs[j]? =ys[j]?) (fun zz=>xs.length -zz) 0 ⟨Nat.zero_le _,fun j hj=>by first|omega|(simp only[];omega)⟩ sb (fun w hw=>ai.mem hw) ?_;rintro i ⟨bc,aH⟩;refine al ?_;refine Gb (fun h1=>?_) fun h1=>?_
 ·
  obtain⟨p,kD⟩:=get_some (xs:=xs) (i:=i) oM;obtain⟨q,vi⟩:=get_some (xs:=ys) (i:=i) oM;refine au ?_;refine gO oK oK (ay ?_);refine bH (ba rfl rfl i rfl oM) (bH (iK rfl i kD rfl) (ay ?_));refine bH (ba rfl rfl i rfl oM) (bH (iK rfl i vi rfl) (bH (D4 rfl rfl) (Gc ?_)));refine Gb (fun h2=>?_) fun h2=>?_
  ·
   have hz:decide (xs=ys)=false:=decide_eq_false fun e=>h2 (by rw[e]at kD;rw[kD]at vi;cases vi;rfl);refine al ?_;refine Gr fun w1 hw=>?_;exact Ge (hz.symm) hw
  refine al ?_;refine Gi ?_;exact bn (x:=(i)) (i+1) ⟨oF,fun j hj=>if e:j=i then(by subst e;rw[kD,vi,h2])else aH j oF⟩ oF sb (fun w hw=>ai.mem hw)
 obtain rfl:i=xs.length:=by omega
 have hz:decide (xs=ys)=true:=decide_eq_true (arS fun j=>by
  rcases aqX j xs.length with hj|hj
  ·
   exact aH j hj
  rw[aqV hj,aqV oM])
 refine al ?_;refine Gr fun w1 hw=>?_;exact⟨congrArg (fun b=>Ending.returned (Value.bool b)) (hz.symm),ai.mem hw⟩⟩
instance apR{f:dr}[hf:aT w0 L f]:bZ Tryz.prog 99 w0 L [.agg (dv f)] (Sl (Sl UInt8)) (fun zz=> .tuple #[zz.sv.val, .bool (jm (ck f))]) (fun zz=>fz zz::L) (fun zz=>jm (ck f)=true->lx zz=kS {(ck f).aq.ae with off:=false}) (True):=⟨fun aG w hw=>Gk (fun zz=>[fz zz]) hw (by
 have hf:=hf.h w hw;have LL:cH w f:=⟨hf⟩;refine cC Tryz.func99 rfl Tryz.ntmps99 rfl ?_;refine Gc ?_;refine bY rfl fun b1=>aO ?_;refine ag (iJ rfl) (bt fun b4=>al ?_);refine eN (cs':=aS (⟨f.aq.ae.pages,f.aq.ae.size,f.aq.ae.blocks,f.aq.ae.ops,false,f.aq.ae.aU⟩:Cp)) rfl rfl (by show 4<6;decide) (by first|rfl|exact Sv.one _) rfl (ay ?_);refine bg rfl trivial fun ku yC=>?_;have GV:ck ku.1=(dF {(ck f).aq.ae with off:=false}).1:=yC.1
 have g1:ku.1.aq.gen.toNat=(dF {(ck f).aq.ae with off:=false}).1.aq.gen:=congrArg (fun z:FV=>z.aq.gen) GV
 have g2:ku.1.aq.last=(dF {(ck f).aq.ae with off:=false}).1.aq.last:=congrArg (fun z:FV=>z.aq.last) GV
 have g3:ku.1.aq.at_.xs=(dF {(ck f).aq.ae with off:=false}).1.aq.at_:=congrArg (fun z:FV=>z.aq.at_) GV
 have g4:ku.1.table.xs=(dF {(ck f).aq.ae with off:=false}).1.table:=congrArg FV.table GV
 have hS:jm (ck f)=true↔(dF {(ck f).aq.ae with off:=false}).2=0/\f.aq.gen.toNat=ku.1.aq.gen.toNat/\f.aq.last=ku.1.aq.last/\f.aq.at_.xs=ku.1.aq.at_.xs/\f.table.xs=ku.1.table.xs:=by rw[Ga,g1,g2,g3,g4];rfl
 refine Gs ?_;refine ag (aK (v:= .agg (dv ku.1)) rfl rfl) (ag (aK (v:=ku.2.sv.val) rfl rfl) (ag (aK (v:= .int .i64 ((dF (cv (⟨f.aq.ae.pages,f.aq.ae.size,f.aq.ae.blocks,f.aq.ae.ops,false,f.aq.ae.aU⟩:Cp))).2)) rfl rfl) (bt fun b5=>fx ?_)));refine bP rfl rfl rfl (fun hg=>(Ry.yl (aP (o':=7) (aE hg rfl) rfl))) (ay ?_);refine bP rfl rfl rfl (fun hg=>(Ry.yl (aP (o':=7) (aE hg rfl) rfl))) (aO ?_);refine bP rfl rfl rfl (fun hg=>(Ry.yl (aP (o':=8) (aE hg rfl) rfl))) (ay ?_);refine bP rfl rfl rfl (fun hg=>(Ry.yl (aP (o':=8) (aE hg rfl) rfl))) (au ?_);refine Gb (fun h0=>?_) fun h0=>?_
 ·
  have hE:jm (ck f)=false:=by
   cases hk:jm (ck f)with
   |false=>rfl
   |true=>
    obtain⟨q1,q2,q3,q4,q5⟩:=hS.1 hk;rcases h0 with(h|h)|h
    ·
     exact absurd q1 h
    ·
     omega
    exact absurd q3 h
  refine au ?_;refine Gr fun w1 hw=>?_;exact⟨⟨Sv.none,[]⟩,by rw[hE];rfl,(fun h=>by rw[hE]at h;cases h),AF (ai.mem hw:Mem w [] _)⟩
 refine Pc ?_;refine bP rfl rfl rfl (fun hg=>cj (eC (aE hg rfl) (eC (aE hg rfl) iI)) trivial) (bP rfl rfl rfl (fun hg=>(Ry.yl (nj (aE hg rfl)))) (ay ?_));refine Gb (fun h1=>?_) fun h1=>?_
 ·
  have hE:jm (ck f)=false:=by
   cases hk:jm (ck f)with
   |false=>rfl
   |true=>
    obtain⟨q1,q2,q3,q4,q5⟩:=hS.1 hk;rcases h1 with h|h
    ·
     exact absurd q4 h
    exact absurd q5 h
  refine au ?_;refine Gr fun w1 hw=>?_;exact⟨⟨Sv.none,[]⟩,by rw[hE];rfl,(fun h=>by rw[hE]at h;cases h),AF (ai.mem hw:Mem w [] _)⟩
 have hE:jm (ck f)=true:=hS.2 ⟨h0.1.1,by have:=h0.1.2;omega,h0.2,h1.1,h1.2⟩;refine aO ?_;refine Gr fun w1 hw=>?_;exact⟨ku.2,by rw[hE],(fun _=>yC.2),ai.mem hw⟩)⟩
instance apS{f:dr}[hf:aT w0 L f]:cd Tryz.prog 51 w0 L [.agg (dv f)] (.bool (jm (ck f))) (True):=⟨fun aG w hw=>by
 have hf:=hf.h w hw;have LL:cH w f:=⟨hf⟩;refine cC Tryz.func51 rfl Tryz.ntmps51 rfl ?_;refine Gc ?_;refine bY rfl fun b1=>al ?_;refine bg rfl trivial fun x7 hp7=>Gs ?_;refine ag (aK (v:=x7.sv.val) rfl rfl) (ag (aK (v:= .bool (jm (ck f))) rfl rfl) (aY ?_));refine Gr fun w1 hw=>?_;exact⟨congrArg (fun b=>Ending.returned (Value.bool b)) (rfl),ai.mem hw⟩⟩
instance apT{c:Cp}[hc:aT w0 L c]:bZ Tryz.prog 43 w0 L [.agg (aS c)] (dr) (fun zz=> .tuple #[.agg (dv zz), .int .i64 ((dF (cv c)).2)]) (fun zz=>fz zz::L) (fun zz=>ck zz=(dF (cv c)).1) (True):=⟨fun aG w hw=>Gk (fun zz=>[fz zz]) hw (by
 have hc:=hc.h w hw;have kT:cH w c:=⟨hc⟩;refine cC Tryz.func43 rfl Tryz.ntmps43 rfl ?_;refine Gc ?_;refine bY rfl fun b1=>bt fun b2=>al ?_;refine bg rfl trivial fun x9 CT=>Gs ?_;refine ag (aK (v:= .agg (dv x9.1)) rfl rfl) (ag (aK (v:=x9.2.sv.val) rfl rfl) (ag (aK (v:= .int .i64 ((dF (cv c)).2)) rfl rfl) (bt fun b4=>ik ?_)));refine Gr fun w1 hw=>?_;exact⟨x9.1,rfl,CT.1,ai.mem hw⟩)⟩
theorem Tu(v:cl)(w:World):(Instr.build 65 #[(0, .agg (cn v))]).run Tryz.prog w= .ok (.agg (dv ⟨v,⟨Sv.none,[]⟩⟩)) w:=by
 obtain⟨⟨a1,a2,⟨a3,a4⟩,a5,a6,⟨a7,a8⟩⟩,⟨a9,a10⟩,a11,a12⟩:=v;unfold dv cn;obtain⟨e3,b3,o3,l3,c3,p3⟩:=a3;obtain⟨e7,b7,o7,l7,c7,p7⟩:=a7;obtain⟨e9,b9,o9,l9,c9,p9⟩:=a9
 cases e3<;>cases e7<;>cases e9<;>kernel_rfl
theorem Tw{w0 w:World}{L:List aj}{v:cl}(h:Mem w0 (fz v.ae::fz v.at_::L) w):Mem w0 (fz (⟨v,⟨Sv.none,[]⟩⟩:dr)::L) w:=
 Gd (f:=⟨v,⟨Sv.none,[]⟩⟩) ((CN (a:=⟨Sv.none,[]⟩) (Mem.dH aA 19 h)).perm ((List.Perm.swap _ _ _).trans (List.Perm.cons _ (List.Perm.swap _ _ _))))
instance apU{c:Cp}[hc:aT w0 L c]:bZ Tryz.prog 38 w0 L [.agg (aS c)] (dr) (fun zz=> .tuple #[.agg (dv zz), .int .i64 ((pK (cv c)).2)]) (fun zz=>fz zz::L) (fun zz=>ck zz=(pK (cv c)).1) (gg c):=⟨fun aG w hw=>Gk (fun zz=>[fz zz]) hw (by
 have hc:=hc.h w hw;have kT:cH w c:=⟨hc⟩;have lF:gg c:=aG;refine cC Tryz.func38 rfl Tryz.ntmps38 rfl ?_;refine Gc ?_;refine bY rfl fun b1=>bt fun b2=>aY ?_;refine Gb (fun h0=>?_) fun h0=>?_
 ·
  have hE:pK (cv c)=(⟨⟨cv c,[],0,0⟩,[]⟩,1):=by rw[pK,if_pos h0]
  refine ay ?_;refine bg rfl (by assumption) fun yL aef=>ag (da (v:= .agg (cn (⟨yL,⟨Sv.none,[]⟩,0,0⟩:cl))) rfl (De yL)) (ag (da (v:= .agg (dv (⟨(⟨yL,⟨Sv.none,[]⟩,0,0⟩:cl),⟨Sv.none,[]⟩⟩:dr))) rfl (Tu (⟨yL,⟨Sv.none,[]⟩,0,0⟩:cl))) (al ?_));refine Gr fun w1 hw=>?_;exact⟨(⟨(⟨yL,⟨Sv.none,[]⟩,0,0⟩:cl),⟨Sv.none,[]⟩⟩:dr),by rw[hE],by rw[hE];simp only[ck,vv,aef];rfl,Tw (v:=(⟨yL,⟨Sv.none,[]⟩,0,0⟩:cl)) (ai.mem (Df (ai.mem hw:Mem w [fz yL] _)))⟩
 have hE:pK (cv c)=(⟨(oR (cv c) (ez (cv c))).1,[]⟩,(oR (cv c) (ez (cv c))).2):=by rw[pK,if_neg h0]
 refine Gc ?_;refine uL [3,7,8,2007,4003] [[],[],[],[],[3],[3],[3],[],[3,7],[3,7,8]] [0,1,2,3,4,5,6,7,8,9] [ar b1 (aS c) 59] [(7,ov Tryz.prog 63)] oK (fun _ hw=>ai.mem hw) oK oK (an rfl (jO rfl) (an rfl (jO rfl) (xM rfl (cj rfl trivial) ?_)));refine xN rfl rfl (by assumption) (fun e x w hw=>ai.mem hw) (Cert.one (i:=7) rfl rfl rfl nF (Cert.none rfl)) fun iN Lj=>⟨fun _ hw=>ai.mem hw,?_⟩;refine an rfl (bl rfl) (an rfl (aK (v:= .agg (cn (⟨iN.1,iN.2.1,iN.2.2.1,iN.2.2.2⟩:cl))) rfl rfl) (an rfl (aK (v:= .int .i64 ((oR (cv c) (ez (cv c))).2)) rfl rfl) (tp (m:=ov Tryz.prog 63) rfl rfl nF (Cert.none rfl) fun b4=>?_)));change Ln _ _ _ _ _ _ _ _ (cB _ _ (.pointer (some ⟨b4,0,none⟩))) (ar b4 (cn lV) 63::_) _;refine dN rfl (qX rfl rfl ⟨fun _ hw=>ai.mem hw,?_⟩);refine an rfl (ie rfl) (ay ?_);refine ag (da (v:= .agg (dv (⟨(⟨iN.1,iN.2.1,iN.2.2.1,iN.2.2.2⟩:cl),⟨Sv.none,[]⟩⟩:dr))) rfl (Tu (⟨iN.1,iN.2.1,iN.2.2.1,iN.2.2.2⟩:cl))) (au ?_);refine Gr fun w1 hw=>?_;exact⟨(⟨(⟨iN.1,iN.2.1,iN.2.2.1,iN.2.2.2⟩:cl),⟨Sv.none,[]⟩⟩:dr),by rw[hE],by rw[hE];simp only[ck,vv,Lj],Tw (v:=(⟨iN.1,iN.2.1,iN.2.2.1,iN.2.2.2⟩:cl)) (ai.mem hw)⟩)⟩
theorem aeg{w0 w:World}{L:List aj}{f:dr}{a:Sl Rt}(h:Mem w0 (fz f::own aA 19 a.sv a.xs::L) w):Mem w0 (fz (⟨f.aq,a⟩:dr)::L) w:=by
 have h2:=(CN (a:=a) (h.perm (List.Perm.swap _ _ _))).perm (List.Perm.swap _ _ _);refine Mem.freeze (es:=[fz f,fz a]) (⟨f.aq,a⟩:dr) ⟨(h2.sat (fz f) (by simp)).1,h2.sat (fz a) (by simp)⟩ (fun k hk=>?_) h2;rcases hk with hk|hk
 ·
  exact⟨fz f,by simp, .inl hk⟩
 exact⟨fz a,by simp,hk⟩
instance apV{f:dr}[hf:aT w0 L f]:bZ Tryz.prog 100 w0 L [.agg (dv f)] (dr) (fun zz=> .agg (dv zz)) (fun zz=>fz zz::L) (fun zz=>ck zz=ck f) (gg f.aq.ae/\f.aq.at_.xs.length<=1000000/\f.table.xs.length<=1000000):=⟨fun aG w hw=>Gk (fun zz=>[fz zz]) hw (by
 have hf:=hf.h w hw;have LL:cH w f:=⟨hf⟩;obtain⟨gL,gZ,kU⟩:=aG;refine cC Tryz.func100 rfl Tryz.ntmps100 rfl ?_;refine Gc ?_;refine bY rfl fun b1=>bt fun b2=>al ?_;refine ag (iJ rfl) (bg rfl gL fun x6 Sz=>ay ?_);refine BG (cs':=dv ({f with aq:=({f.aq with ae:=x6}:cl)}:dr)) rfl rfl (by show 0+6<=10;decide) rfl (au ?_)
 refine bg rfl gZ fun A2 adz=>ay ?_;refine eN (cs':=dv ({f with aq:=({f.aq with ae:=x6,at_:=⟨A2,f.aq.at_.xs⟩}:cl)}:dr)) rfl rfl (by show 6<10;decide) (by first|rfl|exact Sv.one _) rfl (al ?_)
 refine bg rfl kU fun iN Lj=>Gs ?_;refine eN (cs':=dv (⟨({f.aq with ae:=x6,at_:=⟨A2,f.aq.at_.xs⟩}:cl),⟨iN,f.table.xs⟩⟩:dr)) rfl rfl (by show 9<10;decide) (by first|rfl|exact Sv.one _) rfl (au ?_)
 refine Gr fun w1 hw=>?_;exact⟨(⟨({f.aq with ae:=x6,at_:=⟨A2,f.aq.at_.xs⟩}:cl),⟨iN,f.table.xs⟩⟩:dr),rfl,by simp only[ck,vv,Sz],Sk (f:=(⟨({f.aq with ae:=x6,at_:=⟨A2,f.aq.at_.xs⟩}:cl),⟨iN,f.table.xs⟩⟩:dr)) (ai.mem hw)⟩)⟩
end Go.Proofs.YtkggjjnhnjjokaaGreatDoor
namespace Go.Kb
open Go.ax
theorem Tx{p q:bo}(h:dt p q=true):bj p=true/\bj q=true:=by
 simp only[dt,alM]at h;exact⟨h.1.1,h.1.2⟩
theorem aeh{p q r:bo}(h:dt p q=true)(h':dt q r=true):dt p r=true:=by
 obtain⟨hp,hq⟩:=Tx h;obtain⟨_,hr⟩:=Tx h';rw[mS hp hq]at h;rw[mS hq hr]at h';rw[mS hp hr];omega
def tok(ps:List bo):Prop:=ps.length<=256/\(∀p∈ps,bj p=true)/\ps.Pairwise fun p q=>dt p q=true
theorem Ty(xs:List Rt): ∀n,n<=xs.length->(rO xs n=true↔(∀p∈(xs.take n).map (·.p),bj p=true)/\((xs.take n).map (·.p)).Pairwise fun p q=>dt p q=true)
 |0,_=>by simp[Oh]
 |n+1,h=>by
  obtain⟨r,hr⟩:=get_some (xs:=xs) (i:=n) (by omega);have e:xs.take (n+1)=xs.take n++[r]:=by rw[aq0,hr];rfl
  rw[IH,alM,Ty xs n (by omega),e,art,as6];simp only[arh,arZ,aqZ,arp,arl,atf,false_implies,implies_true,List.Pairwise.nil,and_self,true_and,and_true]
  cases n with
  |zero=>rw[II hr];simp
  |succ m=>
   obtain⟨q,hq⟩:=get_some (xs:=xs) (i:=m) (by omega);rw[ED hr hq,alM];have e2:xs.take (m+1)=xs.take m++[q]:=by rw[aq0,hq];rfl
   constructor
   ·
    rintro⟨⟨h1,h2⟩,h3,h4⟩;refine⟨fun p hp=>hp.elim (h1 p) (fun e=>e▸h3),h2,fun p hp b hb=>?_⟩;subst hb;rw[e2,art]at hp h2;rcases aqZ.1 hp with hp|hp
    ·
     have:=(as6.1 h2).2.2 p hp q.p (by simp);exact aeh this h4
    have:p=q.p:=by simpa using hp
    rw[this];exact h4
   rintro⟨h1,h2,h3⟩;refine⟨⟨fun p hp=>h1 p (.inl hp),h2⟩,h1 _ (.inr rfl),h3 q.p ?_ _ rfl⟩;rw[e2];simp
theorem aei(xs:List Rt):bJ xs=true↔tok (xs.map (·.p)):=by
 rw[bJ,alM,Ty xs _ (aqY _),ark,decide_eq_true_iff];simp[tok]
theorem aej{xs:List Rt}(h:bJ xs=true): ∀r∈xs,bj r.p=true:=fun r hr=>((aei xs).1 h).2.1 r.p (ard hr)
theorem aek{r:Rt}(h:bj r.p=true):rd (eV r)=some r:=by
 obtain⟨h1,h2,h3,-⟩:=(rM r.p).1 h;have e0:(eV r).getD 0 0=if r.p.bits=128 then 1 else 0:=by simp[List.getD,Qo]
 have e1:(eV r).getD 1 0=cO r.p.len:=by simp[List.getD,Qp]
 have GR:(eV r).getD 18 0=b8 (r.cx.toNat/256):=by simp[List.getD,Qr]
 have Tz:(eV r).getD 19 0=b8 r.cx.toNat:=by simp[List.getD,Qs]
 have ok:qx (eV r)=true:=by
  rw[qx,e0];split<;>decide
 rw[RB,if_pos ok];congr 1;obtain⟨⟨b,l,k⟩,cx⟩:=r;simp only at h1 h2 h3 e0 e1 GR Tz;have ek:(nw fun i=>((eV ⟨⟨b,l,k⟩,cx⟩).getD (2+i) 0).toNat)=k:=by
  refine td fun i hi=>?_;rw[te _ _ hi];simp only[List.getD,Qq _ i hi,as3,rK];have:=gR k i;omega
 have el:((cO l).toNat:Int)=l:=by
  obtain⟨n,rfl⟩: ∃n:Nat,l=n:=⟨l.toNat,by omega⟩;rw[aaD,rK];omega
 have eh:s9 (b8 (cx.toNat/256)) (b8 cx.toNat)=cx:=by
  apply UInt16.toNat_inj.1;have:=cx.toNat_lt;rw[Iq,rK,rK];omega
 show(⟨⟨if(eV ⟨⟨b,l,k⟩,cx⟩).getD 0 0=1 then 128 else 32,((eV ⟨⟨b,l,k⟩,cx⟩).getD 1 0).toNat,nw fun i=>((eV ⟨⟨b,l,k⟩,cx⟩).getD (2+i) 0).toNat⟩,s9 ((eV ⟨⟨b,l,k⟩,cx⟩).getD 18 0) ((eV ⟨⟨b,l,k⟩,cx⟩).getD 19 0)⟩:Rt)=_;rw[ek,e0,e1,GR,Tz,el,eh];congr 2;rcases h1 with rfl|rfl<;>simp
theorem TA: ∀{l:List Rt},(∀r∈l,bj r.p=true)->mA (l.flatMap eV)=some l
 |[],_=>Ru
 |r::l,h=>by
  rw[atB,Kq (by rw[af0,qq];omega),List.take_left' (qq r),List.drop_left' (qq r),aek (h r (by simp)),TA fun r hr=>h r (by simp[hr])];rfl
theorem TB{t:List Rt}(n:Nat)(h: ∀r∈t,bj r.p=true): ∀k,gI (lC t k n)=some (t.take (k*n))
 |0=>by simp[lC,gI]
 |k+1=>by
  rw[abA,F1,TB n h k,asd,gI,gI,rl,TA fun r hr=>h r (List.mem_of_mem_drop (asN hr))];simp only[arE,asd,arL,asu];rw[ars,Nat.one_mul,List.take_add]
theorem TC{t:List Rt}{ids room:Int}(h:jZ t ids room=0):jE (kO t ids room)=t/\kP (kO t ids room)=0:=by
 obtain⟨h1,h2,h3⟩: ¬jl ids room=0/\bJ t=true/\ ¬jl ids room<t.length:=by
  unfold jZ at h;split at h
  ·
   cases h
  rename_i hn;split at h
  ·
   cases h
  rename_i hm;exact⟨fun e=>hn (.inr e),by cases hr:bJ t;exact absurd (.inl hr) hn;rfl,hm⟩
 have hm:=F0 h1;obtain⟨_,hV⟩:=Kt h1 h2 h3;have qD:ids*(room/20)=((ids.toNat*(room/20).toNat:Nat):Int):=by
  rw[Int.natCast_mul,arY (by omega),arY (by omega)]
 have hu:gI (kO t ids room)=some t:=by
  rw[hV,TB _ (aej h2),aq5 (by omega)]
 exact Ks hu h2
theorem LM{t:List Rt}{ids room:Int}(h:jZ t ids room=0): ¬jl ids room=0/\bJ t=true/\ ¬jl ids room<t.length/\kO t ids room=lC t ids.toNat (room/20).toNat:=by
 unfold jZ at h;split at h
 ·
  cases h
 rename_i hn;split at h
 ·
  cases h
 rename_i hm;have h1: ¬jl ids room=0:=fun e=>hn (.inr e);have h2:bJ t=true:=by cases hr:bJ t;exact absurd (.inl hr) hn;rfl
 exact⟨h1,h2,hm,(Kt h1 h2 hm).2⟩
theorem ael{t:List Rt}{ids room:Int}(h: ¬jZ t ids room=0):kO t ids room=[]:=by rw[kO,if_neg h]
theorem Dl{t:List Rt}{ids room:Int}(h:jZ t ids room=0):((kO t ids room).length:Int)=ids/\1<=ids/\ids<=64:=by
 obtain⟨h1,_,_,hV⟩:=LM h;have:=F0 h1;rw[hV,wK];omega
theorem aem{t:List Rt}{ids room:Int}:(kO t ids room).length<=64/\ ∀x∈kO t ids room,x.length<=240:=by
 by_cases h:jZ t ids room=0
 ·
  have h2:=Dl h;obtain⟨h1,_,_,hV⟩:=LM h;have hm:=F0 h1;refine⟨by omega,fun x hx=>?_⟩;rw[hV]at hx;obtain⟨j,_,rfl⟩:=ar0.1 hx;have:=Ko t (room/20).toNat j;omega
 rw[ael h];simp
theorem TD(a:List (List UInt8)):eW a a=[]:=by
 rw[eW,nS,List.filterMap_eq_nil_iff];intro i _;rw[tI,if_pos rfl]
theorem aen{a b:List (List UInt8)}(hl:a.length=b.length):eW a b=[]↔a=b:=by
 refine⟨fun h=>?_,fun h=>by rw[h,TD]⟩;rw[eW,nS,List.filterMap_eq_nil_iff,hl,Nat.max_self]at h;refine arS fun i=>?_
 by_cases hi:i<b.length
 ·
  have:=h i (arw.2 hi);unfold tI at this;split at this
  ·
   rename_i he;rw[aqR (by omega),aqR hi];simpa[List.getD,hi,show i<a.length by omega]using he
  cases this
 rw[aqV (by omega),aqV (by omega)]
theorem LN{a b:List (List UInt8)}{n:Nat}{p:Int×List UInt8}(h:p∈nS a b n): ∃i:Nat,i<n/\p=((i:Int),b.getD i [])/\ ¬a.getD i []=b.getD i []:=by
 rw[nS,List.mem_filterMap]at h;obtain⟨i,hi,he⟩:=h;unfold tI at he;split at he
 ·
  cases he
 rename_i hn;exact⟨i,arw.1 hi,(aqP he).symm,hn⟩
theorem GW(a b:List (List UInt8)): ∀n,(nS a b n).Pairwise fun p q=>p.1<q.1
 |0=>List.Pairwise.nil
 |n+1=>by
  by_cases h:a.getD n []=b.getD n []
  ·
   rw[Rz h];exact GW a b n
  rw[RA h,as6];refine⟨GW a b n,List.pairwise_singleton _ _,fun p hp q hq=>?_⟩;obtain⟨i,hi,rfl,_⟩:=LN hp;obtain rfl:=arp.1 hq;simp only;omega
end Go.Kb
namespace Go.Proofs.YtkggjjnhnjjokaaGreatDoor
open Go.ax Go.Kb Go.RowKit
variable {w0:World}{L:List aj}
instance apW{f:dr}{l:Sv}{ls:List Ch}[hf:aT w0 L f][hl:di w0 L ia 20 l ls]:bZ Tryz.prog 39 w0 L [.agg (dv f),l.val] (dr) (fun zz=> .tuple #[.agg (dv zz), .int .i64 ((cA (ck f) ls).2)]) (fun zz=>fz zz::L) (fun zz=>ck zz=(cA (ck f) ls).1) (gg f.aq.ae/\f.aq.at_.xs.length<=1000000/\f.table.xs.length<=1000000):=⟨fun aG w hw=>Gk (fun zz=>[fz zz]) hw (by
 have hf:=hf.h w hw;have hl:=hl.h w hw;have LL:cH w f:=⟨hf⟩;have qC:Gv w l ia 20 ls:=⟨hl⟩;have yZ:=aG;obtain⟨gL,gZ,kU⟩:=aG;refine cQ Tryz.func39 rfl Tryz.ntmps39 rfl ?_;refine Gc ?_;refine bY rfl fun b2=>bt fun b4=>al ?_;refine bg rfl trivial fun LO aeo=>Gs ?_;refine ag (aK (v:=LO.sv.val) rfl rfl) (ag (aK (v:= .bool (jm (ck f))) rfl rfl) (aY ?_));refine Gb (fun h0=>?_) fun h0=>?_
 ·
  have hE:(cA (ck f) ls)=(ck f,1):=acr h0;refine ay ?_;refine bg rfl yZ fun hH C5=>al ?_;refine Gr fun w1 hw=>?_;exact⟨hH,by rw[hE],by rw[hE];exact C5,ai.mem hw⟩
 have v7:lx LO=eL (ck f):=aeo h0;refine au ?_;refine bg rfl kU fun iZ qG=>Gs ?_;refine ag (aK (v:=iZ.val) rfl rfl) (ag (aK (v:= .int .i64 (dm f.table.xs ls)) rfl rfl) (aY ?_));refine Gb (fun h1=>?_) fun h1=>?_
 ·
  have hE:(cA (ck f) ls)=(ck f,dm f.table.xs ls):=So h0 h1;refine ay ?_;refine bg rfl yZ fun aB w7=>au ?_;refine Gr fun w1 hw=>?_;exact⟨aB,by rw[hE],by rw[hE];exact w7,ai.mem hw⟩
 refine Gc ?_;refine jh [10] [[],[],[],[],[],[],[],[],[],[],[],[10],[10],[10],[10],[10]] [0,1,2,3,4,5,6,7,8,9,10,11,12,13,14,15] _ (fun _ hw=>hw) oK oK (an rfl (bl rfl) (an rfl (aP (o':=0) rfl rfl) (an rfl (aP (o':=0) rfl rfl) (an rfl (iJ rfl) (xM rfl (cj rfl trivial) (an rfl (aP (o':=0) rfl rfl) (an rfl (aP (o':=0) rfl rfl) (an rfl (aP (o':=1) rfl rfl) (an rfl (bW rfl) (xM rfl (cj rfl trivial) (dN rfl (pA rfl trivial fun sH Tq=>⟨fun _ hw=>ai.mem hw,?_⟩))))))))))));refine an rfl (bl rfl) (an rfl (aK (v:=sH.sv.val) rfl rfl) (an rfl (aK (v:= .int .i64 (jZ (cf f.table.xs ls) (ez (cv f.aq.ae)) (dO f.aq.ae.size))) rfl rfl) (an rfl (ie rfl) (an rfl (ie rfl) (au ?_)))));refine Gb (fun h2=>?_) fun h2=>?_
 ·
  have hE:(cA (ck f) ls)=(ck f,(jZ (cf f.table.xs ls) (ez (cv f.aq.ae)) (dO f.aq.ae.size))):=Sp h0 h1 h2;refine ay ?_;refine bg rfl yZ fun x51 aep=>au ?_;refine Gr fun w1 hw=>?_;exact⟨x51,by rw[hE],by rw[hE];exact aep,ai.mem hw⟩
 have ri:lx sH=dz (ck f) ls:=Tq;have AJ:(eL (ck f)).length<=64:=acq _;have LA:LO.xs.length<=1000000:=by rw[←v7,xE]at AJ;omega
 have GO:(dz (ck f) ls).length<=64/\ ∀x∈dz (ck f) ls,x.length<=240:=aem;have aeq:sH.xs.length<=1000000:=by have:=GO.1;rw[←ri,xE]at this;omega
 have aer: ∀x∈sH.xs,x.xs.length<=140737488355328:=fun x hx=>by
  have hm:x.xs∈lx sH:=ard (f:=fun x:Sl UInt8=>x.xs) hx;rw[ri]at hm;have:=GO.2 _ hm;omega
 refine al ?_;refine bg rfl ⟨LA,aeq,aer⟩ fun lJ GX=>aY ?_;refine Gb (fun h3=>?_) fun h3=>?_
 ·
  have Dm:eW (eL (ck f)) (dz (ck f) ls)=[]:=by rw[←v7,←ri,←GX,zO,arb.1 (by omega:lJ.xs.length=0)];rfl
  have hE:(cA (ck f) ls)=(⟨(ck f).aq,(cf f.table.xs ls)⟩,0):=Sr h0 h1 h2 Dm;refine ay ?_;refine bg rfl yZ fun sI LP=>au ?_;refine eN (cs':=dv (⟨sI.aq,⟨iZ,(cf f.table.xs ls)⟩⟩:dr)) rfl rfl (by show 9<10;decide) (by first|rfl|exact Sv.one _) rfl (aO ?_);refine Gr fun w1 hw=>?_;exact⟨(⟨sI.aq,⟨iZ,(cf f.table.xs ls)⟩⟩:dr),by rw[hE],by rw[hE,←LP];rfl,aeg (f:=sI) (ai.mem hw:Mem w [fz sI,own aA 19 iZ (cf f.table.xs ls)] _)⟩
 have Dm:eW (eL (ck f)) (dz (ck f) ls)=lJ.xs.map br:=by rw[←v7,←ri,←GX];rfl
 have h3n: ¬eW (eL (ck f)) (dz (ck f) ls)=[]:=by rw[Dm];intro h;have:=congrArg List.length h;rw[arA,aqS]at this;omega
 have aes:lJ.xs.length<=1000000:=by have:=congrArg List.length Dm;have hq:=F3 (eL (ck f)) (dz (ck f) ls) (max (eL (ck f)).length (dz (ck f) ls).length);rw[arA]at this;have h7:=GO.1;rw[eW]at this;omega
 have vq:=Gm h0 h1 h2 h3n;rw[Dm]at vq;refine ay ?_;refine ag (iJ rfl) (Gs ?_);refine bg rfl ⟨gL,gZ,aes⟩ fun eY Lb=>Gs ?_;refine ag (aK (v:= .agg (cn (⟨eY.1,eY.2.1,eY.2.2.1,eY.2.2.2⟩:cl))) rfl rfl) (ag (aK (v:= .int .i64 ((fO (vv f.aq) (lJ.xs.map br)).2)) rfl rfl) (bt fun vh=>aY ?_));refine Gb (fun h4=>?_) fun h4=>?_
 ·
  have hE:(cA (ck f) ls)=(⟨(fO (vv f.aq) (lJ.xs.map br)).1,f.table.xs⟩,(fO (vv f.aq) (lJ.xs.map br)).2):=vq.trans (congrArg (fun z=>((⟨(fO (vv f.aq) (lJ.xs.map br)).1,z⟩:FV),(fO (vv f.aq) (lJ.xs.map br)).2)) (if_pos h4));refine Gi ?_;refine ay ?_;refine bg rfl kU fun A6 apX=>au ?_;refine ag (da (v:= .agg (dv (⟨(⟨eY.1,eY.2.1,eY.2.2.1,eY.2.2.2⟩:cl),⟨A6,f.table.xs⟩⟩:dr))) rfl (LG (⟨eY.1,eY.2.1,eY.2.2.1,eY.2.2.2⟩:cl) ⟨A6,f.table.xs⟩)) (au ?_);refine Gr fun w1 hw=>?_;exact⟨(⟨(⟨eY.1,eY.2.1,eY.2.2.1,eY.2.2.2⟩:cl),⟨A6,f.table.xs⟩⟩:dr),by rw[hE],by rw[hE];simp only[ck,vv,Lb],Gd (f:=(⟨(⟨eY.1,eY.2.1,eY.2.2.1,eY.2.2.2⟩:cl),⟨A6,f.table.xs⟩⟩:dr)) (ai.mem (CN (a:=(⟨A6,f.table.xs⟩:Sl Rt)) (ai.mem hw:Mem w [own aA 19 A6 f.table.xs,fz eY.1,fz eY.2.1] _)))⟩
 have hE:(cA (ck f) ls)=(⟨(fO (vv f.aq) (lJ.xs.map br)).1,(cf f.table.xs ls)⟩,(fO (vv f.aq) (lJ.xs.map br)).2):=vq.trans (congrArg (fun z=>((⟨(fO (vv f.aq) (lJ.xs.map br)).1,z⟩:FV),(fO (vv f.aq) (lJ.xs.map br)).2)) (if_neg (fun h=>h h4)));refine al ?_;refine ag (da (v:= .agg (dv (⟨(⟨eY.1,eY.2.1,eY.2.2.1,eY.2.2.2⟩:cl),⟨iZ,(cf f.table.xs ls)⟩⟩:dr))) rfl (LG (⟨eY.1,eY.2.1,eY.2.2.1,eY.2.2.2⟩:cl) ⟨iZ,(cf f.table.xs ls)⟩)) (au ?_);refine Gr fun w1 hw=>?_;exact⟨(⟨(⟨eY.1,eY.2.1,eY.2.2.1,eY.2.2.2⟩:cl),⟨iZ,(cf f.table.xs ls)⟩⟩:dr),by rw[hE],by rw[hE];simp only[ck,vv,Lb],Gd (f:=(⟨(⟨eY.1,eY.2.1,eY.2.2.1,eY.2.2.2⟩:cl),⟨iZ,(cf f.table.xs ls)⟩⟩:dr)) (ai.mem (CN (a:=(⟨iZ,(cf f.table.xs ls)⟩:Sl Rt)) (ai.mem hw:Mem w [own aA 19 iZ (cf f.table.xs ls),fz eY.1,fz eY.2.1] _)))⟩)⟩
theorem aet(n s:Int)(b:Sv)(xs:List Bk)(w:World):(Instr.build 59 #[(0, .int .i64 n),(1, .int .i64 s),(2,b.val)]).run Tryz.prog w= .ok (.agg (aS ⟨n,s,⟨b,xs⟩,0,false,⟨Sv.none,[]⟩⟩)) w:=by
 unfold aS;obtain⟨e,b,o,l,c,p⟩:=b
 cases e<;>kernel_rfl
instance apY{b:Int}{n:Int}{s:Int}:bZ Tryz.prog 37 w0 L [.int .i64 b, .int .i64 n, .int .i64 s] (Cp) (fun zz=> .tuple #[.agg (aS zz), .int .i64 ((pE b n s).2)]) (fun zz=>fz zz::L) (fun zz=>cv zz=(pE b n s).1) (True):=⟨fun aG w hw=>Gk (fun zz=>[fz zz]) hw (by
 refine wi Tryz.func37 rfl Tryz.ntmps37 rfl ?_;refine Gc ?_;refine bt fun b6=>fx ?_;refine Gb (fun h0=>?_) fun h0=>?_
 ·
  have hN:pE b n s=(⟨0,0,[],0,false,[]⟩,1):=by rw[pE,if_neg (by rw[h0];simp)]
  refine Gc ?_;refine ag (da (v:= .agg (aS gF)) rfl (fun w=>by kernel_rfl)) (al ?_);refine Gr fun w1 hw=>?_;exact⟨gF,by rw[hN],by rw[hN];rfl,Qk (d:=gF) rfl (show Mem w [own bV 4 Sv.none [],aj.all []] _ from ai.mem (Mem.xP (Mem.dH bV 4 (ai.mem hw:Mem w [] _))))⟩
 have iB:=lR.1 h0;have hN:pE b n s=(⟨n,s,List.replicate b.toNat (⟨List.replicate n.toNat (gX s),0,0,false⟩:BV),0,false,[]⟩,0):=by rw[pE,if_pos h0]
 refine au ?_;refine rJ (enc:=bV) (n:=b.toNat) (cap:=b.toNat) ql rfl rfl rfl oM oM oM oM oM fun iD=>ag (da (v:= .agg (aS (⟨n,s,⟨⟨false,iD,0,b.toNat,b.toNat,none⟩,[]⟩,0,false,⟨Sv.none,[]⟩⟩:Cp))) rfl (aet n s ⟨false,iD,0,b.toNat,b.toNat,none⟩ [])) (bt fun b8=>aO ?_);refine bT (X:=Nat×List Bk) (fun zz=>[(23, .int .i64 (zz.1:Nat)),(8, .pointer (some ⟨b8,0,none⟩)),(1, .int .i64 n),(2, .int .i64 s),(6, .pointer (some ⟨b6,0,none⟩)),(22, .int .i64 b)]) (fun zz=>[own bV 4 ⟨false,iD,0,b.toNat,b.toNat,none⟩ zz.2,aj.all ((zz.2.take zz.1).map fun b:Bk=>fz b.pages),ar b8 (aS (⟨n,s,⟨⟨false,iD,0,b.toNat,b.toNat,none⟩,[]⟩,0,false,⟨Sv.none,[]⟩⟩:Cp)) 59,ar b6 (aS gF) 59]) (fun zz=>zz.1<=b.toNat/\zz.2.length=b.toNat/\(zz.2.take zz.1).map bv=List.replicate zz.1 (⟨List.replicate n.toNat (gX s),0,0,false⟩:BV)/\ ∀j,zz.1<=j->j<b.toNat->zz.2[j]? =Option.some ql) (fun zz=>b.toNat -zz.1) (0,List.replicate b.toNat ql) ⟨Nat.zero_le _,by simp,by simp,fun j _ hj=>by simp[hj]⟩ sb (fun w hw=>by
  simp only[arz,arZ];exact ai.mem (Mem.xP hw)) ?_
 rintro⟨i,zs⟩ ⟨bc,aH,bB,cT⟩;dsimp only;simp only at bc aH bB cT;refine al ?_;refine Gb (fun h1=>?_) fun h1=>?_
 ·
  obtain⟨z,hz⟩:=get_some (xs:=zs) (i:=i) oM;obtain rfl:z=ql:=aqP (hz.symm.trans (cT i (aqY _) oM));have aeu:=FC (b:=iD) (n:=b.toNat) oM;refine au ?_;refine jh [4,7] [[],[],[],[],[],[4],[4],[4]] [0,1,2,3,4,5,6,7] [ar b8 (aS (⟨n,s,⟨⟨false,iD,0,b.toNat,b.toNat,none⟩,[]⟩,0,false,⟨Sv.none,[]⟩⟩:Cp)) 59] (fun _ hw=>ai.mem hw) oK oK (an rfl (aP (o':=2) rfl rfl) (an rfl (bW rfl) (an rfl (bl rfl) (an rfl (bl rfl) (dN rfl (O5 (enc:=ca (τ:=UInt8)) (n:=n.toNat) (cap:=n.toNat) (⟨Sv.none,[]⟩:Sl UInt8) rfl rfl rfl oM oM oM oM oM fun fY=>⟨fun _ hw=>ai.mem hw,?_⟩))))));obtain⟨e31,apZ⟩:=get_some (xs:=zs) (i:=i) oM;refine an rfl (mn (s:=⟨false,iD,0,b.toNat,b.toNat,none⟩) (i:=i) rfl rfl rfl aeu (by simp only;omega)) (an rfl (aP rfl rfl) ?_);refine dN rfl (we (s:=⟨false,iD,0,b.toNat,b.toNat,none⟩) (n:=1) (k:=i) (j:=0) (a:=ql) (a':=⟨⟨⟨false,fY,0,n.toNat,n.toNat,none⟩,[]⟩,0,0,false⟩) (xs:=zs) (enc:=bV) (c:=4) (v:=(⟨false,fY,0,n.toNat,n.toNat,none⟩:Sv).val) oK rfl rfl rfl hz (by rw[Sv.jw];simp[Sv.one]) (by rw[Sv.jw];rfl) (by decide) (by rw[Sv.jw];rfl) ⟨fun _ hw=>ai.mem hw,?_⟩);refine kE ?_;have TE:(zs.set i ⟨⟨⟨false,fY,0,n.toNat,n.toNat,none⟩,[]⟩,0,0,false⟩)[i]? =Option.some (⟨⟨⟨false,fY,0,n.toNat,n.toNat,none⟩,[]⟩,0,0,false⟩:Bk):=aq7 oM;have qA:(zs.set i ⟨⟨⟨false,fY,0,n.toNat,n.toNat,none⟩,[]⟩,0,0,false⟩).length=b.toNat:=by rw[aru];exact aH
  refine Gi ?_;refine al ?_;refine bT (X:=Nat×List (Sl UInt8)) (fun zz=>[(34, .int .i64 (zz.1:Nat)),(8, .pointer (some ⟨b8,0,none⟩)),(1, .int .i64 n),(2, .int .i64 s),(6, .pointer (some ⟨b6,0,none⟩)),(9, .int .i64 (i:Nat)),(22, .int .i64 b),(23, .int .i64 (i:Nat)),(33, .int .i64 n)]) (fun zz=>[own (ca (τ:=UInt8)) 1 ⟨false,fY,0,n.toNat,n.toNat,none⟩ zz.2,aj.all ((zz.2.take zz.1).map fun b:Sl UInt8=>fz b),own bV 4 ⟨false,iD,0,b.toNat,b.toNat,none⟩ (zs.set i ⟨⟨⟨false,fY,0,n.toNat,n.toNat,none⟩,[]⟩,0,0,false⟩),aj.all ((zs.take i).map fun b:Bk=>fz b.pages),ar b8 (aS (⟨n,s,⟨⟨false,iD,0,b.toNat,b.toNat,none⟩,[]⟩,0,false,⟨Sv.none,[]⟩⟩:Cp)) 59,ar b6 (aS gF) 59]) (fun zz=>zz.1<=n.toNat/\zz.2.length=n.toNat/\aL (zz.2.take zz.1)=List.replicate zz.1 (gX s)) (fun zz=>n.toNat -zz.1) (0,List.replicate n.toNat ⟨Sv.none,[]⟩) ⟨Nat.zero_le _,by simp,by simp[aL]⟩ sb (fun w hw=>by
   simp only[arz,arZ];exact ai.mem (Mem.xP hw)) ?_
  rintro⟨j,qs⟩ ⟨jn,eA,jo⟩;dsimp only;simp only at jn eA jo;refine al ?_;refine Gb (fun h2=>?_) fun h2=>?_
  ·
   obtain⟨y,hy⟩:=get_some (xs:=qs) (i:=j) oM;have aev:=FC (b:=fY) (n:=n.toNat) oM;refine au ?_;refine jh [8,10] [[],[],[],[],[],[],[],[],[],[8],[8]] [0,1,2,3,4,5,6,7,8,9,10] [ar b8 (aS (⟨n,s,⟨⟨false,iD,0,b.toNat,b.toNat,none⟩,[]⟩,0,false,⟨Sv.none,[]⟩⟩:Cp)) 59,own bV 4 ⟨false,iD,0,b.toNat,b.toNat,none⟩ (zs.set i ⟨⟨⟨false,fY,0,n.toNat,n.toNat,none⟩,[]⟩,0,0,false⟩)] (fun _ hw=>ai.mem hw) oK oK (an rfl (aP (o':=2) rfl rfl) (an rfl (bW rfl) (an rfl (bl rfl) ?_)));obtain⟨e40,aec⟩:=get_some (xs:=(zs.set i ⟨⟨⟨false,fY,0,n.toNat,n.toNat,none⟩,[]⟩,0,0,false⟩)) (i:=i) oM;refine an rfl (ba (s:=⟨false,iD,0,b.toNat,b.toNat,none⟩) (xs:=(zs.set i ⟨⟨⟨false,fY,0,n.toNat,n.toNat,none⟩,[]⟩,0,0,false⟩)) rfl rfl i rfl oM) (an rfl (aP rfl rfl) (an rfl (Ry.to (v':=(⟨false,fY,0,n.toNat,n.toNat,none⟩:Sv).val) (bL (s:=⟨false,iD,0,b.toNat,b.toNat,none⟩) (j:=0) rfl i TE rfl (by decide)) rfl) (an rfl (bl rfl) (an rfl (bl rfl) (dN rfl (O5 (enc:=aN) (n:=s.toNat) (cap:=s.toNat) 0 rfl rfl rfl oM oM oM oM oM fun o8=>⟨fun _ hw=>ai.mem hw,?_⟩))))));obtain⟨e46,ap0⟩:=get_some (xs:=qs) (i:=j) oM;refine an rfl (mn (s:=⟨false,fY,0,n.toNat,n.toNat,none⟩) (i:=j) rfl rfl rfl aev (by simp only;omega)) (dN rfl (YB (s:=⟨false,fY,0,n.toNat,n.toNat,none⟩) (xs:=qs) (k:=j) (a:=y) (⟨⟨false,o8,0,s.toNat,s.toNat,none⟩,gX s⟩:Sl UInt8) oK rfl rfl oM hy ⟨fun _ hw=>ai.mem hw,?_⟩));refine au ?_;obtain⟨GY,ap1⟩:=get_some (xs:=(zs.set i ⟨⟨⟨false,fY,0,n.toNat,n.toNat,none⟩,[]⟩,0,0,false⟩)) (i:=i) oM;refine ag (ba (s:=⟨false,iD,0,b.toNat,b.toNat,none⟩) (xs:=(zs.set i ⟨⟨⟨false,fY,0,n.toNat,n.toNat,none⟩,[]⟩,0,0,false⟩)) rfl rfl i rfl oM) (ag (aP rfl rfl) (ag (Ry.to (v':=(⟨false,fY,0,n.toNat,n.toNat,none⟩:Sv).val) (bL (s:=⟨false,iD,0,b.toNat,b.toNat,none⟩) (j:=0) rfl i TE rfl (by decide)) rfl) (Gs ?_)));refine ag (ba rfl rfl j rfl (by rw[aru];omega)) (ag (Ry.to (v':= .slice (some ⟨(⟨false,o8,0,s.toNat,s.toNat,none⟩:Sv).b,(⟨false,o8,0,s.toNat,s.toNat,none⟩:Sv).o+0,none⟩) s.toNat s.toNat) (bL (s:=⟨false,fY,0,n.toNat,n.toNat,none⟩) (xs:=qs.set j (⟨⟨false,o8,0,s.toNat,s.toNat,none⟩,gX s⟩:Sl UInt8)) (j:=0) rfl j (aq7 oM) rfl (by decide)) rfl) ?_);refine bg (hc:=acF (rm:=⟨false,o8,0,s.toNat,s.toNat,none⟩) (k:=0) (n:=s.toNat) (cap:=s.toNat) (xs:=List.replicate s.toNat 0)) rfl ⟨by simp,by omega⟩ fun GL Lk=>al ?_;refine Gi ?_;exact bn (x:=(j,qs)) (j+1,qs.set j (⟨⟨false,o8,0,s.toNat,s.toNat,none⟩,gX s⟩:Sl UInt8)) ⟨oF,by rw[aru];exact eA,by rw[aL,FB hy,←aL,jo,List.replicate_succ']⟩ (by simp only;omega) sb (fun w hw=>by
    have h1:=JA (a:=(⟨⟨false,o8,0,s.toNat,s.toNat,none⟩,gX s⟩:Sl UInt8)) (by
     simp only[arz,arJ,ary,List.drop_replicate,asy,List.replicate_zero,arL]at hw;exact(ai.mem hw:Mem _ (own aN 1 ⟨false,o8,0,s.toNat,s.toNat,none⟩ (List.replicate s.toNat 255)::[own (ca (τ:=UInt8)) 1 ⟨false,fY,0,n.toNat,n.toNat,none⟩ (qs.set j (⟨⟨false,o8,0,s.toNat,s.toNat,none⟩,gX s⟩:Sl UInt8)),aj.all ((qs.take j).map fun b:Sl UInt8=>fz b),own bV 4 ⟨false,iD,0,b.toNat,b.toNat,none⟩ (zs.set i ⟨⟨⟨false,fY,0,n.toNat,n.toNat,none⟩,[]⟩,0,0,false⟩),aj.all ((zs.take i).map fun b:Bk=>fz b.pages),ar b8 (aS (⟨n,s,⟨⟨false,iD,0,b.toNat,b.toNat,none⟩,[]⟩,0,false,⟨Sv.none,[]⟩⟩:Cp)) 59,ar b6 (aS gF) 59]) _))
    have h3:=Mem.Ag (ai.mem h1:Mem _ (fz (⟨⟨false,o8,0,s.toNat,s.toNat,none⟩,gX s⟩:Sl UInt8)::aj.all ((qs.take j).map fun b:Sl UInt8=>fz b)::[own (ca (τ:=UInt8)) 1 ⟨false,fY,0,n.toNat,n.toNat,none⟩ (qs.set j (⟨⟨false,o8,0,s.toNat,s.toNat,none⟩,gX s⟩:Sl UInt8)),own bV 4 ⟨false,iD,0,b.toNat,b.toNat,none⟩ (zs.set i ⟨⟨⟨false,fY,0,n.toNat,n.toNat,none⟩,[]⟩,0,0,false⟩),aj.all ((zs.take i).map fun b:Bk=>fz b.pages),ar b8 (aS (⟨n,s,⟨⟨false,iD,0,b.toNat,b.toNat,none⟩,[]⟩,0,false,⟨Sv.none,[]⟩⟩:Cp)) 59,ar b6 (aS gF) 59]) _);rw[JI (z':=(⟨⟨false,o8,0,s.toNat,s.toNat,none⟩,gX s⟩:Sl UInt8)) hy]at h3;exact ai.mem h3)
  have vI:j=n.toNat:=by omega
  have iO:j=qs.length:=by omega
  rw[aq5 oM]at jo;refine al ?_;refine Gi ?_;exact bn (x:=(i,zs)) (i+1,zs.set i (⟨⟨⟨false,fY,0,n.toNat,n.toNat,none⟩,qs⟩,0,0,false⟩:Bk)) ⟨oF,by rw[aru];exact aH,by rw[FB hz,bB,List.replicate_succ',show bv (⟨⟨⟨false,fY,0,n.toNat,n.toNat,none⟩,qs⟩,0,0,false⟩:Bk)=(⟨List.replicate n.toNat (gX s),0,0,false⟩:BV) by rw[bv,jo,vI]],fun k hk oo=>by rw[arj oF];exact cT k oF oo⟩ (by simp only;omega) sb (fun w hw=>by
   rw[aq5 oM]at hw;have h1:=JH (ai.mem hw:Mem _ (own (ca (τ:=UInt8)) 1 ⟨false,fY,0,n.toNat,n.toNat,none⟩ qs::aj.all (qs.map fun b:Sl UInt8=>fz b)::[own bV 4 ⟨false,iD,0,b.toNat,b.toNat,none⟩ (zs.set i ⟨⟨⟨false,fY,0,n.toNat,n.toNat,none⟩,[]⟩,0,0,false⟩),aj.all ((zs.take i).map fun b:Bk=>fz b.pages),ar b8 (aS (⟨n,s,⟨⟨false,iD,0,b.toNat,b.toNat,none⟩,[]⟩,0,false,⟨Sv.none,[]⟩⟩:Cp)) 59,ar b6 (aS gF) 59]) _);have h2:=JB (ys:=zs.set i (⟨⟨⟨false,fY,0,n.toNat,n.toNat,none⟩,qs⟩,0,0,false⟩:Bk)) (by rw[atd,atd];rfl) (ai.mem h1:Mem _ (own bV 4 ⟨false,iD,0,b.toNat,b.toNat,none⟩ (zs.set i ⟨⟨⟨false,fY,0,n.toNat,n.toNat,none⟩,[]⟩,0,0,false⟩)::[fz (⟨⟨false,fY,0,n.toNat,n.toNat,none⟩,qs⟩:Sl (Sl UInt8)),aj.all ((zs.take i).map fun b:Bk=>fz b.pages),ar b8 (aS (⟨n,s,⟨⟨false,iD,0,b.toNat,b.toNat,none⟩,[]⟩,0,false,⟨Sv.none,[]⟩⟩:Cp)) 59,ar b6 (aS gF) 59]) _);have h3:=Mem.Ag (ai.mem h2:Mem _ (fz (⟨⟨false,fY,0,n.toNat,n.toNat,none⟩,qs⟩:Sl (Sl UInt8))::aj.all ((zs.take i).map fun b:Bk=>fz b.pages)::[own bV 4 ⟨false,iD,0,b.toNat,b.toNat,none⟩ (zs.set i (⟨⟨⟨false,fY,0,n.toNat,n.toNat,none⟩,qs⟩,0,0,false⟩:Bk)),ar b8 (aS (⟨n,s,⟨⟨false,iD,0,b.toNat,b.toNat,none⟩,[]⟩,0,false,⟨Sv.none,[]⟩⟩:Cp)) 59,ar b6 (aS gF) 59]) _);rw[Ql (z':=(⟨⟨⟨false,fY,0,n.toNat,n.toNat,none⟩,qs⟩,0,0,false⟩:Bk)) hz]at h3;exact ai.mem h3)
 obtain rfl:i=zs.length:=by omega
 rw[ark]at bB;refine aO ?_;refine Gr fun w1 hw=>?_;exact⟨⟨n,s,⟨⟨false,iD,0,b.toNat,b.toNat,none⟩,zs⟩,0,false,⟨Sv.none,[]⟩⟩,by rw[hN];rfl,by rw[hN];simp only[cv,iU];rw[bB,aH],Qk rfl (by rw[ark]at hw;exact ai.mem hw)⟩)⟩
theorem ap2(w:World)(c:UInt8):Calls Tryz.prog 211 #[.int .u8 (c.toNat:Nat)] w fun e w'=>e= .returned (.int .i64 (rQ c))/\Mem w [] w':=by
 refine cC Tryz.func211 rfl Tryz.ntmps211 rfl ?_;refine rW ?_;refine Gb (fun h0=>?_) fun h0=>?_
 ·
  refine ay ?_;refine ag (Ew (p:=c.toNat) (q:=48) rfl rfl rfl rfl oM) (ag (kZ rfl (by simp only[nb];omega)) (ay ?_));refine Gr fun w1 hw=>?_;exact Gf ((by simp only[rQ,kB];rw[if_pos oM])) hw
 refine fx ?_;refine Gb (fun h1=>?_) fun h1=>?_
 ·
  refine ay ?_;refine ag (Ew (p:=c.toNat) (q:=97) rfl rfl rfl rfl oM) (ag (kZ rfl (by simp only[nb];omega)) (al ?_));refine Gr fun w1 hw=>?_;exact Gf ((by simp only[rQ,kB];rw[if_neg oM,if_pos oM];simp only[];omega)) hw
 refine al ?_;refine Gr fun w1 hw=>?_;exact Gf ((by simp only[rQ,kB];rw[if_neg oM,if_neg oM])) hw
theorem ap3(w:World)(s:List UInt8)(top:Nat)(aG:top<=65535):Calls Tryz.prog 210 #[.string ⟨s.toArray⟩, .int .i64 (top:Nat)] w fun e w'=>e= .returned (.int .i64 (B2 s top))/\Mem w [] w':=by
 refine cQ Tryz.func210 rfl Tryz.ntmps210 rfl ?_;refine au ?_;refine ag (rL (s:=s) Tryz.underlying9 rfl) (al ?_);refine bP rfl rfl rfl (fun hg=>(Ry.yl (rL (s:=s) Tryz.underlying9 (aE hg rfl)))) (au ?_);refine bP rfl rfl rfl (fun hg=>(Ry.yl (rL (s:=s) Tryz.underlying9 (aE hg rfl)))) (Gg ?_);refine bP rfl rfl rfl (fun hg=>(Ry.yl (bl (aE hg rfl)))) (ob rfl rfl rfl (fun hg=>(Ry.yl (bl rfl))) (ob rfl rfl rfl (fun hg=>(Ry.yl (uB (s:=s) 0 Tryz.underlying9 (aE hg rfl) rfl rfl (by simp only[Z0,Z1,Z2,Z3,Z4,Z5,Z6,Z7,Z8,Z9]at hg;omega)))) (ob rfl rfl rfl (fun hg=>(Ry.yl (et (aE hg rfl) rfl rfl))) (bP rfl rfl rfl (fun hg=>(Ry.yl (za (aE hg rfl) (xB hg rfl) rfl))) (ay ?_)))));refine Gb (fun h0=>?_) fun h0=>?_
 ·
  refine al ?_;refine Gr fun w1 hw=>?_;exact Gf ((by rw[B2,XI aG oM])) hw
 have hx:s.length<=5/\0<s.length:=by omega
 refine aO ?_;refine bT (X:=Nat) (fun zz=>[(6, .int .i64 (zz:Nat)),(5, .int .i64 ((val (s.take zz)):Nat)),(0, .string ⟨s.toArray⟩),(1, .int .i64 (top:Nat))]) (fun zz=>[]) (fun zz=>zz<=s.length/\(s.take zz).all k7=true) (fun zz=>s.length -zz) 0 ⟨Nat.zero_le _,rfl⟩ (Sub.cons rfl (Sub.cons (look_eq rfl rfl) sb)) (fun w hw=>ai.mem hw) ?_;rintro i ⟨hi,hd⟩;have hv:=XG (s:=s) (i:=i) oM hi hd;refine al ?_;refine ag (rL (s:=s) Tryz.underlying9 rfl) (ay ?_);refine Gb (fun h1=>?_) fun h1=>?_
 ·
  refine al ?_;refine ag (uB (s:=s) i Tryz.underlying9 rfl rfl rfl oM) (au ?_);refine bP rfl rfl rfl (fun hg=>(Ry.yl (uB (s:=s) i Tryz.underlying9 (aE hg rfl) (aE hg rfl) rfl (by simp only[Z0,Z1,Z2,Z3,Z4,Z5,Z6,Z7,Z8,Z9]at hg;omega)))) (al ?_);refine Gb (fun h2=>?_) fun h2=>?_
  ·
   refine al ?_;refine Gr fun w1 hw=>?_;exact Gf ((by rw[B2,Oz (i:=i) oM oM])) hw
  refine ay ?_;refine ag (rG rfl rfl oM) (ay ?_);refine ag (uB (s:=s) i Tryz.underlying9 rfl rfl rfl oM) (ag (Ew (p:=(s.getD i 0).toNat) (q:=48) rfl rfl rfl rfl oM) (ag (kZ rfl (by simp only[nb];omega)) (aY ?_)));refine Gi ?_;exact bn (x:=(i)) (i+1) ⟨oF,Oy oF hd oF⟩ oF (Sub.cons rfl (Sub.cons (look_eq rfl (by rw[EG oM,asj 10];rfl)) sb)) (fun w hw=>ai.mem hw)
 refine aO ?_;refine Gb (fun h3=>?_) fun h3=>?_
 ·
  refine al ?_;refine Gr fun w1 hw=>?_;exact Gf ((by rw[B2,OA (i:=i) oM])) hw
 refine au ?_;refine Gr fun w1 hw=>?_;exact Gf ((by have e:s.take i=s:=aq5 oM;rw[e]at hd;rw[B2,OB (asU.1 hx.2) oM hd (by rw[←e];omega),e])) hw
instance ap4{s:List UInt8}{top:Nat}:cd Tryz.prog 117 w0 L [.string ⟨s.toArray⟩, .int .i64 (top:Nat)] (.tuple #[.int .i64 (((cV s top).getD 0):Nat), .bool ((cV s top).isSome)]) (top<=65535/\s.length<=1000000000):=⟨fun aG w hw=>by
 refine cQ Tryz.func117 rfl Tryz.ntmps117 rfl ?_;refine aO ?_;refine ag (NU rfl rfl) (ay ?_);refine bP rfl rfl rfl (fun hg=>(Ry.yl (rL (s:=s) Tryz.underlying9 (aE hg rfl)))) (Gg ?_);refine bP rfl rfl rfl (fun hg=>(Ry.yl (bl (aE hg rfl)))) (ob rfl rfl rfl (fun hg=>(Ry.yl (bl rfl))) (ob rfl rfl rfl (fun hg=>(Ry.yl (uB (s:=s) 0 Tryz.underlying9 (aE hg rfl) rfl rfl (by simp only[Z0,Z1,Z2,Z3,Z4,Z5,Z6,Z7,Z8,Z9]at hg;omega)))) (ob rfl rfl rfl (fun hg=>(Ry.yl (et (aE hg rfl) rfl rfl))) (bP rfl rfl rfl (fun hg=>(Ry.yl (za (aE hg rfl) (xB hg rfl) rfl))) (ay ?_)))));refine Gb (fun h0=>?_) fun h0=>?_
 ·
  refine au ?_;refine Gr fun w1 hw=>?_;exact⟨(by rw[XJ (h0.imp id fun h=>⟨by omega,by omega⟩)];rfl),ai.mem hw⟩
 refine au ?_;refine ag (rL (s:=s) Tryz.underlying9 rfl) (ay ?_);refine bT (X:=Nat) (fun zz=>[(22, .int .i64 (zz:Nat)),(6, .int .i64 ((val (s.take zz)):Nat)),(0, .string ⟨s.toArray⟩),(1, .int .i64 (top:Nat)),(21, .int .i64 (s.length:Nat))]) (fun zz=>[]) (fun zz=>zz<=s.length/\(s.take zz).all k7=true/\val (s.take zz)<=top) (fun zz=>s.length -zz) 0 ⟨Nat.zero_le _,rfl,arn _⟩ (Sub.cons rfl (Sub.cons (look_eq rfl rfl) sb)) (fun w hw=>ai.mem hw) ?_;rintro i ⟨hi,hd,hv⟩;refine al ?_;refine Gb (fun h1=>?_) fun h1=>?_
 ·
  refine aY ?_;refine ag (uB (s:=s) i Tryz.underlying9 rfl rfl rfl oM) (au ?_);refine bP rfl rfl rfl (fun hg=>(Ry.yl (uB (s:=s) i Tryz.underlying9 (aE hg rfl) (aE hg rfl) rfl (by simp only[Z0,Z1,Z2,Z3,Z4,Z5,Z6,Z7,Z8,Z9]at hg;omega)))) (al ?_);refine Gb (fun h2=>?_) fun h2=>?_
  ·
   refine au ?_;refine Gr fun w1 hw=>?_;exact⟨(by rw[Oz (i:=i) oM oM];rfl),ai.mem hw⟩
  refine ay ?_;refine ag (rG rfl rfl oM) (ay ?_);refine ag (uB (s:=s) i Tryz.underlying9 rfl rfl rfl oM) (ag (Ew (p:=(s.getD i 0).toNat) (q:=48) rfl rfl rfl rfl oM) (ag (kZ rfl (by simp only[nb];omega)) (c6 ?_)));refine Gb (fun h3=>?_) fun h3=>?_
  ·
   refine au ?_;refine Gr fun w1 hw=>?_;exact⟨(by rw[OA (i:=i+1) (by rw[EG oM];omega)];rfl),ai.mem hw⟩
  refine al ?_;refine Gi ?_;exact bn (x:=(i)) (i+1) ⟨oF,Oy oF hd oF,by rw[EG oF];omega⟩ oF (Sub.cons rfl (Sub.cons (look_eq rfl (by rw[EG oM];rfl)) sb)) (fun w hw=>ai.mem hw)
 refine aO ?_;refine Gr fun w1 hw=>?_;exact⟨(by have e:s.take i=s:=aq5 oM;rw[e]at hd hv;rw[OB h0.1 (by have:=h0.2;omega) hd hv,e];rfl),ai.mem hw⟩⟩
instance ap5{k:Key}{n:Int}:cd Tryz.prog 153 w0 L [.agg (bN k), .int .i64 n] (.bool (rR k n)) (True):=⟨fun aG w hw=>by
 refine cQ Tryz.func153 rfl Tryz.ntmps153 rfl ?_;refine Gc ?_;refine bY rfl fun b2=>ik ?_;refine Gb (fun h0=>?_) fun h0=>?_
 ·
  refine al ?_;refine Gr fun w1 hw=>?_;exact Ge ((by rw[XN oM])) hw
 refine Gc ?_;refine gO oK oK (ay ?_);refine sW (cj rfl trivial) (Gq ?_);refine bH (HY rfl rfl) (ay ?_);refine Gr fun w1 hw=>?_;exact⟨congrArg (fun b=>Ending.returned (Value.bool b)) ((by rw[XO oM])),ai.mem hw⟩⟩
instance ap6{sep:List UInt8}{z:Sv}{zs:List bD}[hz:di w0 L nv 1 z zs]:cd Tryz.prog 104 w0 L [.string ⟨sep.toArray⟩,z.val] (.string ⟨(th sep zs).toArray⟩) (zs≠[]/\(th sep zs).length<=140737488355328):=⟨fun aG w hw=>by
 have hz:=hz.h w hw;have ghz:Gv w z nv 1 zs:=⟨hz⟩;refine cQ Tryz.func104 rfl Tryz.ntmps104 rfl ?_;refine aO ?_;refine dR (cj rfl aG) (ay ?_);refine Gr fun w1 hw=>?_;exact⟨rfl,ai.mem hw⟩⟩
instance:eI Tryz.prog 5 (.int .u8 0):=⟨by kernel_rfl⟩
instance ap7{k:Key}{n:Int}[tb:qV w0]:cd Tryz.prog 85 w0 L [.agg (bN k), .int .i64 n] (.tuple #[.string ⟨(ti k n).toArray⟩, .int .i64 (tj (rR k n))]) (True):=⟨fun aG w hw=>by
 have tb:=tb.at hw;have h4:=EH k;refine cQ Tryz.func85 rfl Tryz.ntmps85 rfl ?_;refine Gc ?_;refine bY rfl fun b2=>fx ?_;refine Gb (fun h0=>?_) fun h0=>?_
 ·
  refine au ?_;refine Gr fun w1 hw=>?_;exact⟨(by rw[ti,h0];rfl),ai.mem hw⟩
 refine au ?_;refine Gb (fun h1=>?_) fun h1=>?_
 ·
  refine al ?_;refine ag (Ry.as (v':=Sv.val ⟨false,b2,0,4,16,none⟩) (HZ rfl rfl (by decide) (by decide)) rfl) (al ?_);refine bT (X:=Nat×Sv×List bD) (fun zz=>[(20, .int .i64 (zz.1:Nat)),(6,zz.2.1.val),(18,(⟨false,b2,0,4,16,none⟩:Sv).val),(19, .int .i64 (((nA k).take 4).length:Nat))]) (fun zz=>[own nv 1 zz.2.1 zz.2.2,ar b2 (bN k) 25]) (fun zz=>zz.1<=4/\zz.2.2=((((nA k).take 4).take zz.1).map fun b=>dec b.toNat)) (fun zz=>4 -zz.1) (0,Sv.none,[]) ⟨Nat.zero_le _,rfl⟩ sb (fun w hw=>Mem.dH nv 1 (ai.mem hw)) ?_;rintro⟨i,o,q⟩ ⟨hi,hq⟩;dsimp only;simp only at hi hq;have y0:q.length<=4:=by rw[hq,List.length_map,List.length_take];omega
  refine al ?_;refine Gb (fun h2=>?_) fun h2=>?_
  ·
   refine mo ?_;obtain⟨x,hx⟩:=get_some (xs:=((nA k).take 4)) (i:=i) oM;refine ag (ba rfl rfl i rfl oM) (ag (bL (j:=0) rfl i hx rfl (by decide)) (au ?_));refine ag (vS rfl) (dR (cj rfl (by first|omega|exact Nat.lt_trans (UInt8.toNat_lt _) (by decide)|exact Nat.lt_trans (UInt16.toNat_lt _) (by decide))) ?_);refine lO (enc:=nv) (vals:=[_]) [(dec x.toNat)] rfl rfl rfl (by decide) (by decide) fun pL=>?_;refine lN (s:=o) (ys:=[(dec x.toNat)]) rfl rfl (by decide) (fun w hw=>ke (s:=⟨false,pL,0,1,1,none⟩) Tryz.underlying155 (by decide) ((inferInstance:Hd _ _ ⟨false,pL,0,1,1,none⟩ nv 1 [(dec x.toNat)]).h w hw)) (by simp only[af0,aqQ,aqS];omega) (by simp only[af0,aqQ,aqS];omega) fun s29 ap8 ap9=>?_;refine au ?_;refine Gi ?_;exact bn (x:=(i,o,q)) (i+1,s29,q++[dec x.toNat]) ⟨oF,by simp only;rw[hq,XU oF hx]⟩ (by simp only;omega) sb (fun w hw=>ai.mem hw)
  refine mo ?_;have LQ:q=((nA k).take 4).map fun b=>dec b.toNat:=by rw[hq,aq5 oM]
  refine Gi ?_;refine Gs ?_;refine dR (cj rfl (by rw[LQ];exact XV k)) (al ?_);refine Gr fun w1 hw=>?_;exact⟨(by rw[ti,h0,if_pos rfl,qU,if_pos h1,LQ,OD];rfl),ai.mem hw⟩
 refine Gc ?_;refine rJ (enc:=aN) (n:=0) (cap:=32) 0 rfl rfl rfl rfl rfl oM oM oM fun jb=>aO ?_;refine bT (X:=Nat×Sv×List UInt8) (fun zz=>[(35, .int .i64 (zz.1:Nat)),(9,zz.2.1.val),(34, .agg (bN k))]) (fun zz=>[own aN 1 zz.2.1 zz.2.2,ar b2 (bN k) 25]) (fun zz=>zz.1<=16/\zz.2.2=(ny k).take (2*zz.1)) (fun zz=>16 -zz.1) (0,⟨false,jb,0,0,32,none⟩,[]) ⟨Nat.zero_le _,rfl⟩ sb (fun w hw=>hw) ?_;rintro⟨i,o,q⟩ ⟨hi,hq⟩;dsimp only;simp only at hi hq;have y0:q.length<=32:=by rw[hq,List.length_take,BZ];omega
 refine al ?_;refine Gb (fun h3=>?_) fun h3=>?_
 ·
  refine Gc ?_;refine ag (XM Tryz.underlying25 rfl rfl i rfl oM) (Gs ?_);refine lj ?_;refine vM 8 [7] oK oK ?_;simp only[ar6,arz];refine ay ?_;refine bH (um (p:=aW k i) rfl rfl (gR k i) (by decide)) (bH (H4 (s:=⟨([48,49,50,51,52,53,54,55,56,57,97,98,99,100,101,102]:bD).toArray⟩) (v:=(jx (gS k (2*i))).toNat) Tryz.underlying9 rfl rfl (Int.natCast_nonneg _) (XR k i)) (Gq ?_));refine bH (H2 (p:=aW k i) (q:=15) rfl rfl rfl rfl (gR k i) (by decide)) (bH (H4 (s:=⟨([48,49,50,51,52,53,54,55,56,57,97,98,99,100,101,102]:bD).toArray⟩) (v:=(jx (gS k (2*i+1))).toNat) Tryz.underlying9 rfl rfl (Int.natCast_nonneg _) (XS k i)) (Ns (uo (WH (enc:=aN) rfl (vals:=[_,_]) [(jx (gS k (2*i))),(jx (gS k (2*i+1)))] rfl rfl rfl (by decide) (by decide) fun o8=>uq ?_))));simp only[asK,ase];refine lN (s:=o) (ys:=[(jx (gS k (2*i))),(jx (gS k (2*i+1)))]) rfl rfl (by decide) (fun w hw=>ke (s:=⟨false,o8,0,2,2,none⟩) Tryz.underlying53 (by decide) ((inferInstance:Hd _ _ ⟨false,o8,0,2,2,none⟩ aN 1 [(jx (gS k (2*i))),(jx (gS k (2*i+1)))]).h w hw)) (by simp only[af0,aqQ,aqS];omega) (by simp only[af0,aqQ,aqS];omega) fun s46 aqa aqb=>?_;refine au ?_;refine Gi ?_;exact bn (x:=(i,o,q)) (i+1,s46,q++[jx (gS k (2*i)),jx (gS k (2*i+1))]) ⟨oF,by simp only;rw[hq,XT k oF]⟩ (by simp only;omega) sb (fun w hw=>ai.mem hw)
 refine ay ?_;refine ag (Ir Tryz.underlying53 Tryz.underlying5 Tryz.underlying9 rfl) (al ?_);refine Gr fun w1 hw=>?_;exact⟨(by rw[ti,h0,if_pos rfl,qU,if_neg h1,hq,aq5 (by rw[BZ];omega)];rfl),ai.mem hw⟩⟩
instance aqc{p:bo}[tb:qV w0]:cd Tryz.prog 84 w0 L [.agg (db p)] (.tuple #[.string ⟨(uE p).toArray⟩, .int .i64 (tj (bj p))]) (True):=⟨fun aG w hw=>by
 have tb:=tb.at hw;have wb:=OI p.key p.bits;refine cC Tryz.func84 rfl Tryz.ntmps84 rfl ?_;refine Gc ?_;refine bY rfl fun b1=>c6 ?_;refine Gb (fun h0=>?_) fun h0=>?_
 ·
  refine au ?_;refine Gr fun w1 hw=>?_;exact⟨(by rw[uE,h0];rfl),ai.mem hw⟩
 obtain⟨k1,k2,k3⟩:=OJ h0;have yD:=uA 3 p.len.toNat oM (by decide);refine ay ?_;refine ag (iJ rfl) (au ?_);refine ag (aK (v:= .string ⟨(ti p.key p.bits).toArray⟩) rfl rfl) (ag (aK (v:= .int .i64 (tj (rR p.key p.bits))) rfl rfl) (aY ?_));refine Gb (fun h1=>?_) fun h1=>?_
 ·
  exfalso;rw[k1]at h1;simp[tj]at h1
 refine au ?_;refine dR (cj rfl ⟨k2,by omega⟩) ?_;refine lO (enc:=nv) (vals:=[_,_]) [(ti p.key p.bits),(dec p.len.toNat)] rfl rfl rfl (by decide) (by decide) fun b24=>?_;refine dR (cj rfl (OK _ _ 47 oM)) (al ?_);refine Gr fun w1 hw=>?_;exact⟨(by rw[uE,h0,if_pos rfl,IN,uD,ti,if_pos k1];rfl),ai.mem hw⟩⟩
instance aqd{r:Rt}[tb:qV w0]:cd Tryz.prog 41 w0 L [.agg (aA r)] (.tuple #[.string ⟨(ot r).toArray⟩, .int .i64 (tj (bj r.p))]) (True):=⟨fun aG w hw=>by
 have tb:=tb.at hw;have bS:=OL r.p;have yD:=uA 5 r.cx.toNat (Nat.lt_trans (UInt16.toNat_lt _) (by decide)) (by decide);refine cC Tryz.func41 rfl Tryz.ntmps41 rfl ?_;refine Gc ?_;refine bY rfl fun b1=>au ?_;refine ag (iJ rfl) (ay ?_);refine ag (aK (v:= .string ⟨(uE r.p).toArray⟩) rfl rfl) (ag (aK (v:= .int .i64 (tj (bj r.p))) rfl rfl) (aY ?_));refine Gb (fun h0=>?_) fun h0=>?_
 ·
  have e0:bj r.p=false:=by cases e:bj r.p with
   |false=>rfl
   |true=>rw[e]at h0;simp[tj]at h0
  refine aO ?_;refine Gr fun w1 hw=>?_;exact⟨(by rw[ot,e0];rfl),ai.mem hw⟩
 have e0:bj r.p=true:=by cases e:bj r.p with
  |true=>rfl
  |false=>rw[e]at h0;simp[tj]at h0
 refine au ?_;refine ag (WU rfl) (dR (cj rfl (by first|omega|exact Nat.lt_trans (UInt8.toNat_lt _) (by decide)|exact Nat.lt_trans (UInt16.toNat_lt _) (by decide))) ?_);refine lO (enc:=nv) (vals:=[_,_]) [(uE r.p),(dec r.cx.toNat)] rfl rfl rfl (by decide) (by decide) fun iD=>?_;refine dR (cj rfl (OK _ _ 32 oM)) (al ?_);refine Gr fun w1 hw=>?_;exact⟨(by rw[ot,e0,if_pos rfl,IN,zN,uE,if_pos e0];rfl),ai.mem hw⟩⟩
end Go.Proofs.YtkggjjnhnjjokaaGreatDoor
namespace Go.Kb
open Go.ax
variable {k kk:Key} {i j n v:Nat} {s:bD} {c:UInt8}
def vu(k:Key)(i v:Nat):Key:=nw fun j=>if j=i then v else aW k j
theorem LR(k:Key)(i:Nat)(hv:v<256)(hj:j<16):aW (vu k i v) j=if j=i then v else aW k j:=by
 rw[vu,te _ _ hj];have:=gR k j;split<;>omega
theorem TF(k:Key)(i:Nat)(hi:i<16)(hv:v<256):(bN k).setIfInBounds i (.int .u8 ((v:Nat):Int))=bN (vu k i v):=by
 refine ID (by simp[fR]) fun j hj=>?_;rw[LR k i hv hj,arW]
 by_cases e:i=j
 ·
  subst e;simp[fR,hi]
 rw[if_neg e,if_neg (fun h=>e h.symm)];exact jQ k j hj
theorem TG:aW (0#128) j=0:=by simp[aW]
def A7(ps:List bD)(i:Nat)(k:Key):Prop:=(∀j,j<16->aW k j=if j<i then(cV (ps.getD j []) 255).getD 0 else 0)/\ ∀j,j<i->(cV (ps.getD j []) 255).isSome=true
theorem aew(ps:List bD):A7 ps 0 (0#128):=⟨fun j _=>by rw[TG,if_neg (by omega)],fun j h=>absurd h (Nat.not_lt_zero j)⟩
theorem LS(s:bD):(cV s 255).getD 0<256:=by
 cases e:cV s 255 with
 |none=>simp
 |some n=>have:=(kA.1 e).2;simp;omega
theorem getD_at{α:Type}{xs:List α}{i:Nat}{x d:α}(h:xs[i]? =some x):xs.getD i d=x:=by simp[List.getD,h]
theorem A7.step{ps:List bD}{x:bD}(h:A7 ps i k)(hx:ps[i]? =some x)(ho:(cV x 255).isSome=true)(hi:i<4):A7 ps (i+1) (vu k i ((cV x 255).getD 0)):=by
 have e:ps.getD i []=x:=getD_at hx;refine⟨fun j hj=>?_,fun j hj=>?_⟩
 ·
  rw[LR k i (LS x) hj]
  by_cases ej:j=i
  ·
   subst ej;rw[if_pos rfl,if_pos (by omega),e]
  rw[if_neg ej,h.1 j hj]
  by_cases hl:j<i
  ·
   rw[if_pos hl,if_pos (by omega)]
  rw[if_neg hl,if_neg (by omega)]
 by_cases ej:j=i
 ·
  subst ej;rw[e];exact ho
 exact h.2 j (by omega)
theorem TH{ps:List bD}(h:ps.length=4): ∃a b c d,ps=[a,b,c,d]:=by
 match ps,h with
 |[a,b,c,d],_=>exact⟨a,b,c,d,rfl⟩
theorem aex(h:(cM 46 s).length≠4):kC s=none:=by
 unfold kC;split
 ·
  rename_i a b c d e;rw[e]at h;exact absurd rfl h
 rfl
theorem aey{x:bD}(hl:(cM 46 s).length=4)(hx:(cM 46 s)[i]? =some x)(hn:(cV x 255).isSome=false):kC s=none:=by
 obtain⟨a,b,c,d,e⟩:=TH hl;have LU:cV x 255=none:=by cases q:cV x 255 with
  |none=>rfl
  |some z=>rw[q]at hn;cases hn
 unfold kC;rw[e]at hx⊢;have hm:x∈[a,b,c,d]:=anc hx;simp only[aqW,atf,or_false]at hm;rcases hm with rfl|rfl|rfl|rfl
 all_goals simp only[LU]
 all_goals(split<;>first|rfl|(rename_i h1 h2 h3 h4;simp_all))
theorem aez(hl:(cM 46 s).length=4)(h:A7 (cM 46 s) 4 k):kC s=some k:=by
 obtain⟨a,b,c,d,e⟩:=TH hl;rw[e]at h;obtain⟨na,ha⟩:=arV.1 (h.2 0 (by decide));obtain⟨nb,hb⟩:=arV.1 (h.2 1 (by decide));obtain⟨nc,hc⟩:=arV.1 (h.2 2 (by decide));obtain⟨nd,hd⟩:=arV.1 (h.2 3 (by decide));simp only[List.getD_cons_zero,List.getD_cons_succ]at ha hb hc hd;unfold kC;rw[e];simp only[ha,hb,hc,hd];refine congrArg some (td fun j hj=>?_);rw[xH (kA.1 ha).2 (kA.1 hb).2 (kA.1 hc).2 (kA.1 hd).2 hj,h.1 j hj];rcases aqX j 4 with h4|h4
 ·
  have:j=0\/j=1\/j=2\/j=3:=by omega
  rcases this with rfl|rfl|rfl|rfl
  ·
   simp[ha]
  ·
   simp[hb]
  ·
   simp[hc]
  simp[hd]
 rw[if_neg (by omega),if_neg (by omega),if_neg (by omega),if_neg (by omega),if_neg (by omega)]
theorem aeA(h: ¬rQ (s.getD i 0)<0):rQ (s.getD i 0)=((k9 s i:Nat):Int)/\k9 s i<16/\(kB (s.getD i 0)).isSome=true:=by
 unfold rQ k9 at*
 cases e:kB (s.getD i 0)with
 |none=>rw[e]at h;simp at h
 |some n=>exact⟨rfl,IJ e,rfl⟩
theorem aeB(h:rQ (s.getD i 0)<0)(hi:i<s.length):mT s=none:=by
 unfold mT;rw[if_neg];rintro⟨_,ha⟩;have:=aq8.1 ha (s.getD i 0) (by simp[List.getD,hi]);unfold rQ at h
 cases e:kB (s.getD i 0)with
 |none=>rw[e]at this;cases this
 |some n=>rw[e]at h;simp only at h;omega
theorem aeC(c:UInt8):Lib.indexByte ([48,49,50,51,52,53,54,55,56,57,97,98,99,100,101,102]:bD) c=rQ c:=by
 have key: ∀n,n<256->Lib.indexByte ([48,49,50,51,52,53,54,55,56,57,97,98,99,100,101,102]:bD) (UInt8.ofNat n)=rQ (UInt8.ofNat n):=by decide+kernel
 have:=key c.toNat c.toNat_lt;rwa [UInt8.ofNat_toNat]at this
def xk(s:bD)(i:Nat)(k:Key):Prop:=(∀j,j<16->aW k j=if 2*j+1<i then 16*k9 s (2*j)+k9 s (2*j+1)else if 2*j<i then k9 s (2*j)else 0)/\ ∀j,j<i->(kB (s.getD j 0)).isSome=true
theorem aeD(s:bD):xk s 0 (0#128):=⟨fun j _=>by rw[TG,if_neg (by omega),if_neg (by omega)],fun j h=>absurd h (Nat.not_lt_zero j)⟩
theorem GZ(h:(kB (s.getD i 0)).isSome=true):k9 s i<16:=by
 unfold k9;obtain⟨n,e⟩:=arV.1 h;rw[e];exact IJ e
theorem xk.lt(h:xk s i k)(hi:i<32):aW k (i/2)<16:=by
 rw[h.1 (i/2) (by omega),if_neg (by omega)];split
 ·
  exact GZ (h.2 _ (by omega))
 omega
theorem TI(hn:n<16):v*16|||n=v*16+n:=by
 have:=Nat.two_pow_add_eq_or_of_lt (i:=4) (show n<2^4 from hn) v;rw[asj v 16];exact this.symm
theorem xk.step(h:xk s i k)(hi:i<32)(ho:(kB (s.getD i 0)).isSome=true):xk s (i+1) (vu k (i/2) (aW k (i/2)*16|||k9 s i)):=by
 have hl:=h.lt hi;have hx:=GZ ho;rw[TI hx];refine⟨fun j hj=>?_,fun j hj=>?_⟩
 ·
  rw[LR k _ (by omega) hj]
  by_cases ej:j=i/2
  ·
   rw[if_pos ej,←ej,h.1 j hj,if_neg (by omega)];rcases Nat.mod_two_eq_zero_or_one i with e|e
   ·
    rw[if_neg (by omega),if_neg (by omega),if_pos (by omega),show 2*j=i by omega];omega
   rw[if_pos (by omega),if_pos (by omega),show 2*j+1=i by omega];omega
  rw[if_neg ej,h.1 j hj]
  by_cases h1:2*j+1<i
  ·
   rw[if_pos h1,if_pos (by omega)]
  rw[if_neg h1,if_neg (by omega),if_neg (by omega),if_neg (by omega)]
 by_cases ej:j=i
 ·
  subst ej;exact ho
 exact h.2 j (by omega)
theorem aeE(h:s.length≠32):mT s=none:=by unfold mT;rw[if_neg (fun e=>h e.1)]
theorem aeF(h: ∀j,j<s.length->(kB (s.getD j 0)).isSome=true):EF s=true:=by
 refine aq8.2 fun c hc=>?_;obtain⟨j,hj,rfl⟩:=asq hc;have:=h j hj;simpa[List.getD,hj]using this
theorem aeG(hl:s.length=32)(h:xk s 32 k):mT s=some k:=by
 unfold mT;rw[if_pos ⟨hl,aeF fun j hj=>h.2 j (by omega)⟩];refine congrArg some (td fun j hj=>?_);rw[h.1 j hj,if_pos (by omega),zM,te _ _ hj];have:=GZ (h.2 (2*j) (by omega));have:=GZ (h.2 (2*j+1) (by omega));omega
def pa(s:bD):Key:=if 60<s.length then 0#128 else match nz s with|some (k,_)=>k|none=>0#128
def jq(s:bD):Nat:=if 60<s.length then 0 else match nz s with|some (_,n)=>n.toNat|none=>0
def mI(s:bD):Int:=if 60<s.length then 3 else match nz s with|some _=>0|none=>2
theorem aeH(h:60<s.length):pa s=0#128/\jq s=0/\mI s=3:=by simp[pa,jq,mI,h]
theorem aeI(h: ¬60<s.length)(hs:kC s=some k):pa s=k/\jq s=32/\mI s=0:=by simp[pa,jq,mI,h,nz,hs]
theorem aeJ(h: ¬60<s.length)(hs:kC s=none)(hw:mT s=some k):pa s=k/\jq s=128/\mI s=0:=by simp[pa,jq,mI,h,nz,hs,hw]
theorem aeK(h: ¬60<s.length)(hs:kC s=none)(hw:mT s=none):pa s=0#128/\jq s=0/\mI s=2:=by simp[pa,jq,mI,h,nz,hs,hw]
end Go.Kb
namespace Go.Proofs.YtkggjjnhnjjokaaGreatDoor
open Go.ax Go.Kb
instance:p8 Tryz.prog 25 [] (.agg (bN 0#128)):=⟨fun w=>by rw[wM];kernel_rfl⟩
instance:p8 Tryz.prog 32 [] (.agg (db ⟨0,0,0#128⟩)):=⟨fun w=>by unfold db;rw[wM];kernel_rfl⟩
instance:p8 Tryz.prog 34 [] (.agg (aA iS)):=⟨fun w=>by unfold aA db iS;rw[wM];kernel_rfl⟩
variable {w0:World}{L:List aj}
instance aqe{s:List UInt8}[tb:rS w0]:cd Tryz.prog 208 w0 L [.string ⟨s.toArray⟩] (.tuple #[.agg (bN ((kC s).getD 0#128)), .bool ((kC s).isSome)]) (s.length<=60):=⟨fun aG w hw=>by
 have tb:=tb.at hw;refine cC Tryz.func208 rfl Tryz.ntmps208 rfl ?_;refine Gc ?_;refine bt fun b2=>al ?_;refine bg rfl oM fun dM yy=>aY ?_;refine Gb (fun h0=>?_) fun h0=>?_
 ·
  refine Gc ?_;refine ag (iQ rfl) (al ?_);refine Gr fun w1 hw=>?_;exact⟨(by rw[aex oM];rfl),ai.mem hw⟩
 refine Gc ?_;refine bt fun b5=>aO ?_;refine bT (X:=Nat×Key) (fun zz=>[(18, .int .i64 (zz.1:Nat)),(5, .pointer (some ⟨b5,0,none⟩)),(2, .pointer (some ⟨b2,0,none⟩)),(16,(⟨false,dM,0,(cM 46 s).length,(cM 46 s).length,none⟩:Sv).val),(17, .int .i64 ((cM 46 s).length:Nat))]) (fun zz=>[ar b5 (bN zz.2) 25,own nv 1 ⟨false,dM,0,(cM 46 s).length,(cM 46 s).length,none⟩ (cM 46 s),ar b2 (bN 0#128) 25]) (fun zz=>zz.1<=4/\A7 (cM 46 s) zz.1 zz.2) (fun zz=>4 -zz.1) (0,0#128) ⟨Nat.zero_le _,aew _⟩ sb (fun w hw=>ai.mem hw) ?_;rintro⟨i,kk⟩ ⟨hi,hp⟩;dsimp only;simp only at hi hp;refine al ?_;refine Gb (fun h1=>?_) fun h1=>?_
 ·
  refine ay ?_;obtain⟨x,hx⟩:=get_some (xs:=(cM 46 s)) (i:=i) oM;refine ag (ba rfl rfl i rfl oM) (ag (bL (j:=0) rfl i hx rfl (by decide)) (au ?_));refine dR (cj (vs:=[_, .int .i64 ((255:Nat):Int)]) rfl ⟨by decide,by have:=XK s (anc hx);omega⟩) (Gs ?_);refine ag (aK (v:= .int .i64 (((cV x 255).getD 0):Nat)) rfl rfl) (ag (aK (v:= .bool ((cV x 255).isSome)) rfl rfl) (aY ?_));refine Gb (fun h2=>?_) fun h2=>?_
  ·
   refine Gc ?_;refine ag (iQ rfl) (al ?_);refine Gr fun w1 hw=>?_;exact⟨(by rw[aey oM hx h2];rfl),ai.mem hw⟩
  refine al ?_;refine ag (H5 (n:=(((cV x 255).getD 0:Nat):Int)) rfl oM (by have:=LS x;simp only[nb];omega)) (ag (p6 rfl rfl oM oM) (eN (cs':=bN (vu kk i ((cV x 255).getD 0))) rfl rfl (by rw[fR];omega) rfl (TF kk i oM (LS x)) (al ?_)));refine Gi ?_;exact bn (x:=(i,kk)) (i+1,vu kk i ((cV x 255).getD 0)) ⟨oF,hp.step hx h2 oF⟩ (by simp only;omega) sb (fun w hw=>ai.mem hw)
 refine aO ?_;refine Gr fun w1 hw=>?_;exact⟨(by rw[aez oM (by rw[show i=4 by omega]at hp;exact hp)];rfl),ai.mem hw⟩⟩
instance aqf{s:List UInt8}:cd Tryz.prog 209 w0 L [.string ⟨s.toArray⟩] (.tuple #[.agg (bN ((mT s).getD 0#128)), .bool ((mT s).isSome)]) (s.length<=60):=⟨fun aG w hw=>by
 refine cC Tryz.func209 rfl Tryz.ntmps209 rfl ?_;refine Gc ?_;refine bt fun b2=>ay ?_;refine bt fun b4=>ay ?_;refine ag (rL (s:=s) Tryz.underlying9 rfl) (ay ?_);refine Gb (fun h0=>?_) fun h0=>?_
 ·
  refine Gc ?_;refine ag (iQ rfl) (al ?_);refine Gr fun w1 hw=>?_;exact⟨(by rw[aeE oM];rfl),ai.mem hw⟩
 refine ay ?_;refine ag (rL (s:=s) Tryz.underlying9 rfl) (ay ?_);refine bT (X:=Nat×Key) (fun zz=>[(13, .int .i64 (zz.1:Nat)),(4, .pointer (some ⟨b4,0,none⟩)),(0, .string ⟨s.toArray⟩),(2, .pointer (some ⟨b2,0,none⟩)),(12, .int .i64 (s.length:Nat))]) (fun zz=>[ar b4 (bN zz.2) 25,ar b2 (bN 0#128) 25]) (fun zz=>zz.1<=32/\xk s zz.1 zz.2) (fun zz=>32 -zz.1) (0,0#128) ⟨Nat.zero_le _,aeD s⟩ sb (fun w hw=>ai.mem hw) ?_;rintro⟨i,kk⟩ ⟨hi,hp⟩;dsimp only;simp only at hi hp;refine al ?_;refine Gb (fun h1=>?_) fun h1=>?_
 ·
  refine aY ?_;refine ag (uB (s:=s) i Tryz.underlying9 rfl rfl rfl oM) (Gs ?_);rw[aeC];refine aO ?_;refine Gb (fun h2=>?_) fun h2=>?_
  ·
   refine Gc ?_;refine ag (iQ rfl) (al ?_);refine Gr fun w1 hw=>?_;exact⟨(by rw[aeB h2 oM];rfl),ai.mem hw⟩
  refine lj ?_;obtain⟨he,hx,ho⟩:=aeA h2;have bb:=hp.lt (show i<32 by omega);have aH:(((i:Nat):Int)/2).toNat=i/2:=by omega
  refine Gi ?_;refine Gs ?_;refine ag (mj rfl rfl oM oM) (Gs ?_);refine ag (mj rfl rfl oM oM) (ag (p6 rfl rfl oM oM) (ag (Ry.as (v':= .int .u8 ((aW kk (i/2):Nat):Int)) (zf rfl (jQ kk (((i:Nat):Int)/2).toNat oM)) (by rw[aH])) (ag (Xb (p:=aW kk (i/2)) rfl rfl rfl oM) (Gs ?_))));refine ag (H5 rfl oM (by simp only[nb];omega)) (ag (BE (p:=aW kk (i/2)*16) (q:=k9 s i) rfl rfl rfl he (by simp only[nb];omega) (by simp only[nb];omega)) (ag (p6 rfl rfl oM oM) (eN (cs':=bN (vu kk (i/2) (aW kk (i/2)*16|||k9 s i))) rfl rfl (by rw[fR];omega) rfl (by rw[aH];exact TF kk (i/2) oM (by rw[TI hx];omega)) (al ?_))));refine Gi ?_;exact bn (x:=(i,kk)) (i+1,vu kk (i/2) (aW kk (i/2)*16|||k9 s i)) ⟨oF,hp.step oF ho⟩ (by simp only;omega) sb (fun w hw=>ai.mem hw)
 refine aO ?_;refine Gr fun w1 hw=>?_;exact⟨(by rw[aeG oM (by rw[show i=32 by omega]at hp;exact hp)];rfl),ai.mem hw⟩⟩
instance aqg{s:List UInt8}[tb:rS w0]:cd Tryz.prog 149 w0 L [.string ⟨s.toArray⟩] (.tuple #[.agg (bN (pa s)), .int .i64 ((jq s):Nat), .int .i64 (mI s)]) (s.length<=1000000000):=⟨fun aG w hw=>by
 have tb:=tb.at hw;refine cC Tryz.func149 rfl Tryz.ntmps149 rfl ?_;refine Gc ?_;refine bt fun b2=>au ?_;refine ag (rL (s:=s) Tryz.underlying9 rfl) (ay ?_);refine Gb (fun h0=>?_) fun h0=>?_
 ·
  refine Gc ?_;refine ag (iQ rfl) (au ?_);refine Gr fun w1 hw=>?_;exact⟨(by obtain⟨e1,e2,e3⟩:=aeH (s:=s) oM;rw[e1,e2,e3];rfl),ai.mem hw⟩
 refine ay ?_;refine dR (cj rfl oM) (Gs ?_);refine ag (aK (v:= .agg (bN ((kC s).getD 0#128))) rfl rfl) (ag (aK (v:= .bool ((kC s).isSome)) rfl rfl) (bt fun b5=>aO ?_));refine Gb (fun h1=>?_) fun h1=>?_
 ·
  obtain⟨q,hq⟩:=arV.1 h1;refine aY ?_;refine Gr fun w1 hw=>?_;exact⟨(by obtain⟨e1,e2,e3⟩:=aeI oM hq;rw[e1,e2,e3,hq];rfl),ai.mem hw⟩
 have hs:kC s=none:=by simpa using h1
 refine ay ?_;refine dR (cj rfl oM) (Gs ?_);refine ag (aK (v:= .agg (bN ((mT s).getD 0#128))) rfl rfl) (ag (aK (v:= .bool ((mT s).isSome)) rfl rfl) (bt fun b7=>aO ?_));refine Gb (fun h2=>?_) fun h2=>?_
 ·
  obtain⟨q,hq⟩:=arV.1 h2;refine aY ?_;refine Gr fun w1 hw=>?_;exact⟨(by obtain⟨e1,e2,e3⟩:=aeJ oM hs hq;rw[e1,e2,e3,hq];rfl),ai.mem hw⟩
 have LV:mT s=none:=by simpa using h2
 refine Gc ?_;refine ag (iQ rfl) (au ?_);refine Gr fun w1 hw=>?_;exact⟨(by obtain⟨e1,e2,e3⟩:=aeK oM hs LV;rw[e1,e2,e3];rfl),ai.mem hw⟩⟩
end Go.Proofs.YtkggjjnhnjjokaaGreatDoor
namespace Go.Kb
open Go.ax
variable {s a b:bD} {c:UInt8} {n top:Nat}
theorem yM(c:UInt8)(s:bD):(∃a b,s=a++c::b/\eF c s=(a,b,true)/\cM c s=a::cM c b)\/(eF c s=(s,[],false)/\cM c s=[s]):=by
 rcases zH (c:=c) s with⟨h1,h2⟩|⟨a,b,h1,h2,h3⟩
 ·
  exact .inr ⟨Xc h1,h2⟩
 exact .inl ⟨a,b,h1,by rw[h1,Xd h2],h3⟩
theorem TJ(hc:c∈b)(hd:k7 c=false):cV b top=none:=by
 cases e:cV b top with
 |none=>rfl
 |some n=>
  obtain⟨rfl,_⟩:=kA.1 e;exact absurd hc (zF hd)
theorem TK(c:UInt8)(s:bD):(eF c s).1.length<=s.length/\(eF c s).2.1.length<=s.length:=by
 rcases yM c s with⟨a,b,h1,h2,_⟩|⟨h2,_⟩
 ·
  rw[h2,h1];simp;omega
 rw[h2];simp
theorem aeL(h:(eF 47 s).2.2=false):lf s=none:=by
 rcases yM 47 s with⟨a,b,_,h2,_⟩|⟨_,h3⟩
 ·
  rw[h2]at h;cases h
 unfold lf;rw[h3]
def vw(a b:bD):Option bo:=match nz a,cV b 128 with
 |some (k,bits),some n=>if bj ⟨bits,(n:Int),k⟩=true then some ⟨bits,(n:Int),k⟩else none
 |_,_=>none
theorem aeM(h:cM 47 s=[a,b]):lf s=vw a b:=by
 unfold lf;rw[h];rfl
theorem G0(h:(eF 47 s).2.2=true):lf s=vw (eF 47 s).1 (eF 47 s).2.1:=by
 rcases yM 47 s with⟨a,b,_,h2,h3⟩|⟨h2,_⟩
 ·
  rw[h2];rcases yM 47 b with⟨x,y,e1,_,e3⟩|⟨_,e3⟩
  ·
   have hn:cV b 128=none:=TJ (c:=47) (by rw[e1];simp) (by decide);unfold lf vw;rw[h3,e3,hn];have:cM 47 y≠[]:=Iz y
   cases q:cM 47 y with
   |nil=>exact absurd q this
   |cons z zs=>simp only;split<;>simp_all
  exact aeM (by rw[h3,e3])
 rw[h2]at h;cases h
def vz(a b:bD):Option Rt:=match lf a,cV b 65535 with
 |some p,some n=>some ⟨p,UInt16.ofNat n⟩
 |_,_=>none
theorem aeN(h:(eF 32 s).2.2=false):qe s=none:=by
 rcases yM 32 s with⟨a,b,_,h2,_⟩|⟨_,h3⟩
 ·
  rw[h2]at h;cases h
 unfold qe;rw[h3]
theorem aeO(h:cM 32 s=[a,b]):qe s=vz a b:=by
 unfold qe;rw[h];rfl
theorem LW(h:(eF 32 s).2.2=true):qe s=vz (eF 32 s).1 (eF 32 s).2.1:=by
 rcases yM 32 s with⟨a,b,_,h2,h3⟩|⟨h2,_⟩
 ·
  rw[h2];rcases yM 32 b with⟨x,y,e1,_,e3⟩|⟨_,e3⟩
  ·
   have hn:cV b 65535=none:=TJ (c:=32) (by rw[e1];simp) (by decide);unfold qe vz;rw[h3,e3,hn];have:cM 32 y≠[]:=Iz y
   cases q:cM 32 y with
   |nil=>exact absurd q this
   |cons z zs=>simp only;split<;>simp_all
  exact aeO (by rw[h3,e3])
 rw[h2]at h;cases h
theorem LX(h:a.length<=60)(he:mI a=0):nz a=some (pa a,((jq a:Nat):Int))/\(jq a=32\/jq a=128):=by
 have hl: ¬60<a.length:=by omega
 unfold mI at he;rw[if_neg hl]at he
 cases e:nz a with
 |none=>rw[e]at he;cases he
 |some z=>
  obtain⟨k,m⟩:=z;have hm:=((zK _).1 (IL.1 e).1).1;simp only at hm;unfold pa jq;rw[if_neg hl,if_neg hl,e];simp only;rcases hm with rfl|rfl
  ·
   exact⟨rfl, .inl rfl⟩
  exact⟨rfl, .inr rfl⟩
theorem aeP(h:a.length<=60)(he: ¬mI a=0):nz a=none:=by
 unfold mI at he;rw[if_neg (show ¬60<a.length by omega)]at he
 cases e:nz a with
 |none=>rfl
 |some z=>rw[e]at he;exact absurd rfl he
def sJ(s:bD):bo:=if 60<s.length then⟨0,0,0#128⟩else(lf s).getD ⟨0,0,0#128⟩
def pT(s:bD):Int:=if 60<s.length then 3 else if(lf s).isSome=true then 0 else 2
theorem aeQ(h:60<s.length):sJ s=⟨0,0,0#128⟩/\pT s=3:=by simp[sJ,pT,h]
theorem G1(h: ¬60<s.length)(hp:lf s=none):sJ s=⟨0,0,0#128⟩/\pT s=2:=by simp[sJ,pT,h,hp]
theorem aeR{p:bo}(h: ¬60<s.length)(hp:lf s=some p):sJ s=p/\pT s=0:=by simp[sJ,pT,h,hp]
theorem aeS(h:a.length<=60)(he:pT a=0):lf a=some (sJ a):=by
 have hl: ¬60<a.length:=by omega
 unfold pT at he;rw[if_neg hl]at he
 cases e:lf a with
 |none=>rw[e]at he;simp at he
 |some z=>rw[sJ,if_neg hl,e];rfl
theorem aeT(h:a.length<=60)(he: ¬pT a=0):lf a=none:=by
 unfold pT at he;rw[if_neg (show ¬60<a.length by omega)]at he
 cases e:lf a with
 |none=>rfl
 |some z=>rw[e]at he;exact absurd rfl he
def mJ(s:bD):Rt:=if 60<s.length then iS else(qe s).getD iS
def sK(s:bD):Int:=if 60<s.length then 3 else if(qe s).isSome=true then 0 else 2
theorem aeU(h:60<s.length):mJ s=iS/\sK s=3:=by simp[mJ,sK,h]
theorem LY(h: ¬60<s.length)(hp:qe s=none):mJ s=iS/\sK s=2:=by simp[mJ,sK,h,hp]
theorem TL{r:Rt}(h: ¬60<s.length)(hp:qe s=some r):mJ s=r/\sK s=0:=by simp[mJ,sK,h,hp]
theorem aeV(h:a.length<=60)(he: ¬mI a=0):vw a b=none:=by unfold vw;rw[aeP h he]
theorem aeW(h:cV b n=none)(hn:n<=top){m:Nat}(e:cV b top=some m):n<m:=by
 obtain⟨rfl,h2⟩:=kA.1 e;rcases aqX n m with q|q
 ·
  exact q
 rw[BT q]at h;cases h
theorem aeX(h:a.length<=60)(he:mI a=0)(hn:(cV b (jq a)).isSome=false):vw a b=none:=by
 obtain⟨hk,hm⟩:=LX h he;have LU:cV b (jq a)=none:=by simpa using hn
 unfold vw;rw[hk]
 cases e:cV b 128 with
 |none=>rfl
 |some m=>
  have:=aeW LU (by omega) e;simp only;rw[if_neg];intro hp;have:=((zK _).1 hp).2.2.1;simp only at this;omega
theorem TM(h:a.length<=60)(he:mI a=0)(hn:(cV b (jq a)).isSome=true):vw a b=if bj ⟨((jq a:Nat):Int),(((cV b (jq a)).getD 0:Nat):Int),pa a⟩=true then some ⟨((jq a:Nat):Int),(((cV b (jq a)).getD 0:Nat):Int),pa a⟩else none:=by
 obtain⟨hk,hm⟩:=LX h he;obtain⟨m,e⟩:=arV.1 hn;obtain⟨rfl,h2⟩:=kA.1 e;unfold vw;rw[hk,e,BT (show m<=128 by omega)];rfl
theorem aeY(h:a.length<=60)(he: ¬pT a=0):vz a b=none:=by unfold vz;rw[aeT h he]
theorem aeZ(hn:cV b 65535=none):vz a b=none:=by
 unfold vz;rw[hn];cases lf a<;>rfl
theorem ae0(h:a.length<=60)(he:pT a=0)(hn:cV b 65535=some n):vz a b=some ⟨sJ a,UInt16.ofNat n⟩:=by
 unfold vz;rw[hn,aeS h he]
theorem TN(s:bD)(top:Nat):(cV s top).getD 0<=top:=by
 cases e:cV s top with
 |none=>simp
 |some n=>exact(kA.1 e).2
theorem ae1{n:Nat}(h:n<=65535):(Value.int .u16 ((n:Nat):Int))=Value.int .u16 (((UInt16.ofNat n).toNat:Nat):Int):=by
 rw[UInt16.toNat_ofNat',arF (show n<2^16 by omega)]
theorem P9{ps:List bD}(h:ps.length=2): ∃a b,ps=[a,b]:=by
 match ps,h with
 |[a,b],_=>exact⟨a,b,rfl⟩
end Go.Kb
namespace Go.Proofs.YtkggjjnhnjjokaaGreatDoor
open Go.ax Go.Kb
variable {w0:World}{L:List aj}
instance aqh{s:List UInt8}[tb:rS w0]:cd Tryz.prog 116 w0 L [.string ⟨s.toArray⟩] (.tuple #[.agg (db (sJ s)), .int .i64 (pT s)]) (s.length<=1000000000):=⟨fun aG w hw=>by
 have tb:=tb.at hw;obtain⟨hca,oT⟩:=TK 47 s;refine cC Tryz.func116 rfl Tryz.ntmps116 rfl ?_;refine Gc ?_;refine bt fun b2=>al ?_;refine ag (rL (s:=s) Tryz.underlying9 rfl) (ay ?_);refine Gb (fun h0=>?_) fun h0=>?_
 ·
  refine Gc ?_;refine ag (iQ rfl) (al ?_);refine Gr fun w1 hw=>?_;exact⟨(by obtain⟨e1,e2⟩:=aeQ (s:=s) oM;rw[e1,e2]),ai.mem hw⟩
 refine ay ?_;refine dR (cj rfl oM) (Gs ?_);refine ag (aK (v:= .string ⟨((eF 47 s).1).toArray⟩) rfl rfl) (ag (aK (v:= .string ⟨((eF 47 s).2.1).toArray⟩) rfl rfl) (ag (aK (v:= .bool ((eF 47 s).2.2)) rfl rfl) (c6 ?_)));refine Gb (fun h1=>?_) fun h1=>?_
 ·
  refine Gc ?_;refine ag (iQ rfl) (al ?_);refine Gr fun w1 hw=>?_;exact⟨(by obtain⟨e1,e2⟩:=G1 (s:=s) oM (aeL h1);rw[e1,e2]),ai.mem hw⟩
 refine ay ?_;refine dR (cj rfl oM) (Gs ?_);refine ag (aK (v:= .agg (bN (pa ((eF 47 s).1)))) rfl rfl) (ag (aK (v:= .int .i64 ((jq ((eF 47 s).1)):Nat)) rfl rfl) (ag (aK (v:= .int .i64 (mI ((eF 47 s).1))) rfl rfl) (bt fun b7=>c6 ?_)));refine Gb (fun h2=>?_) fun h2=>?_
 ·
  refine Gc ?_;refine ag (iQ rfl) (al ?_);refine Gr fun w1 hw=>?_;exact⟨(by obtain⟨e1,e2⟩:=G1 (s:=s) oM (by rw[G0 h1];exact aeV oM oM);rw[e1,e2]),ai.mem hw⟩
 have hr:mI (eF 47 s).1=0:=by omega
 obtain⟨_,hm⟩:=LX oM hr;refine al ?_;refine dR (cj rfl ⟨by omega,by omega⟩) (Gs ?_);refine ag (aK (v:= .int .i64 (((cV ((eF 47 s).2.1) (jq ((eF 47 s).1))).getD 0):Nat)) rfl rfl) (ag (aK (v:= .bool ((cV ((eF 47 s).2.1) (jq ((eF 47 s).1))).isSome)) rfl rfl) (aY ?_));refine Gb (fun h3=>?_) fun h3=>?_
 ·
  refine Gc ?_;refine ag (iQ rfl) (al ?_);refine Gr fun w1 hw=>?_;exact⟨(by obtain⟨e1,e2⟩:=G1 (s:=s) oM (by rw[G0 h1];exact aeX oM hr h3);rw[e1,e2]),ai.mem hw⟩
 refine au ?_;refine ag (iQ rfl) (bt fun oX=>aY ?_);refine Gb (fun h4=>?_) fun h4=>?_
 ·
  refine Gc ?_;refine ag (iQ rfl) (al ?_);refine Gr fun w1 hw=>?_;exact⟨(by obtain⟨e1,e2⟩:=G1 (s:=s) oM (by rw[G0 h1,TM oM hr h3,h4];rfl);rw[e1,e2]),ai.mem hw⟩
 refine aO ?_;refine Gr fun w1 hw=>?_;exact⟨(by obtain⟨e1,e2⟩:=aeR (s:=s) (p:=(⟨((jq (eF 47 s).1:Nat):Int),(((cV (eF 47 s).2.1 (jq (eF 47 s).1)).getD 0:Nat):Int),pa (eF 47 s).1⟩:bo)) oM (by rw[G0 h1,TM oM hr h3,if_pos h4]);rw[e1,e2]),ai.mem hw⟩⟩
instance aqi{s:List UInt8}[tb:rS w0]:cd Tryz.prog 50 w0 L [.string ⟨s.toArray⟩] (.tuple #[.agg (aA (mJ s)), .int .i64 (sK s)]) (s.length<=1000000000):=⟨fun aG w hw=>by
 have tb:=tb.at hw;obtain⟨hca,oT⟩:=TK 32 s;refine cC Tryz.func50 rfl Tryz.ntmps50 rfl ?_;refine Gc ?_;refine bt fun b2=>al ?_;refine ag (rL (s:=s) Tryz.underlying9 rfl) (ay ?_);refine Gb (fun h0=>?_) fun h0=>?_
 ·
  refine Gc ?_;refine ag (iQ rfl) (al ?_);refine Gr fun w1 hw=>?_;exact⟨(by obtain⟨e1,e2⟩:=aeU (s:=s) oM;rw[e1,e2]),ai.mem hw⟩
 refine ay ?_;refine dR (cj rfl oM) (Gs ?_);refine ag (aK (v:= .string ⟨((eF 32 s).1).toArray⟩) rfl rfl) (ag (aK (v:= .string ⟨((eF 32 s).2.1).toArray⟩) rfl rfl) (ag (aK (v:= .bool ((eF 32 s).2.2)) rfl rfl) (c6 ?_)));refine Gb (fun h1=>?_) fun h1=>?_
 ·
  refine Gc ?_;refine ag (iQ rfl) (al ?_);refine Gr fun w1 hw=>?_;exact⟨(by obtain⟨e1,e2⟩:=LY (s:=s) oM (aeN h1);rw[e1,e2]),ai.mem hw⟩
 refine ay ?_;refine dR (cj rfl oM) (Gs ?_);refine ag (aK (v:= .agg (db (sJ ((eF 32 s).1)))) rfl rfl) (ag (aK (v:= .int .i64 (pT ((eF 32 s).1))) rfl rfl) (bt fun b7=>aY ?_));refine Gb (fun h2=>?_) fun h2=>?_
 ·
  refine Gc ?_;refine ag (iQ rfl) (al ?_);refine Gr fun w1 hw=>?_;exact⟨(by obtain⟨e1,e2⟩:=LY (s:=s) oM (by rw[LW h1];exact aeY oM oM);rw[e1,e2]),ai.mem hw⟩
 refine ay ?_;refine dR (cj (vs:=[_, .int .i64 ((65535:Nat):Int)]) rfl ⟨by omega,by omega⟩) (Gs ?_);refine ag (aK (v:= .int .i64 (((cV ((eF 32 s).2.1) 65535).getD 0):Nat)) rfl rfl) (ag (aK (v:= .bool ((cV ((eF 32 s).2.1) 65535).isSome)) rfl rfl) (aY ?_));refine Gb (fun h3=>?_) fun h3=>?_
 ·
  refine Gc ?_;refine ag (iQ rfl) (al ?_);refine Gr fun w1 hw=>?_;exact⟨(by obtain⟨e1,e2⟩:=LY (s:=s) oM (by rw[LW h1];exact aeZ (by simpa using h3));rw[e1,e2]),ai.mem hw⟩
 obtain⟨m,hm⟩:=arV.1 h3;have AR:=(kA.1 hm).2;refine al ?_;refine ag (Ry.as (v':= .int .u16 (((UInt16.ofNat ((cV (eF 32 s).2.1 65535).getD 0)).toNat:Nat):Int)) (kZ rfl (by have:=TN (eF 32 s).2.1 65535;simp only[nb];omega)) (ae1 (TN (eF 32 s).2.1 65535))) (ag (iQ rfl) (al ?_));refine Gr fun w1 hw=>?_;exact⟨(by obtain⟨e1,e2⟩:=TL (s:=s) oM ((LW h1).trans (ae0 oM oM hm));rw[e1,e2,hm];rfl),ai.mem hw⟩⟩
instance:eI Tryz.prog 225 (.agg (dw Nd.zero)):=⟨by kernel_rfl⟩
instance:eI Tryz.prog 221 (.agg (pD gf.no)):=⟨by kernel_rfl⟩
instance:eI Tryz.prog 124 (.agg (dJ ⟨0,⟨Sv.none,[]⟩⟩)):=⟨by kernel_rfl⟩
instance:eI Tryz.prog 217 (.agg (dJ ⟨0,⟨Sv.none,[]⟩⟩)):=⟨by kernel_rfl⟩
instance:eI Tryz.prog 3 (.int .i64 0):=⟨by kernel_rfl⟩
instance:p8 Tryz.prog 225 [] (.agg (dw Nd.zero)):=⟨fun w=>by kernel_rfl⟩
instance (n:Int)(h:UInt16):p8 Tryz.prog 221 [(0, .int .i64 n),(1, .int .u16 h.toNat)] (.agg (pD ⟨n,h⟩)):=⟨fun w=>by kernel_rfl⟩
instance:p8 Tryz.prog 124 [] (.agg (dJ ⟨0,⟨Sv.none,[]⟩⟩)):=⟨fun w=>by kernel_rfl⟩
theorem ae2(n:Int)(s:Sv)(xs:List Nd)(w:World):(Instr.build 124 #[(0, .int .i64 n),(1,s.val)]).run Tryz.prog w= .ok (.agg (dJ ⟨n,⟨s,xs⟩⟩)) w:=by
 unfold dJ;obtain⟨e,b,o,l,c,p⟩:=s
 cases e<;>kernel_rfl
instance (t:lQ):p8 Tryz.prog 217 [(0, .agg (dJ t))] (.agg (dJ t)):=⟨fun w=>by
 obtain⟨n,⟨⟨e,b,o,l,c,p⟩,xs⟩⟩:=t;unfold dJ
 cases e<;>kernel_rfl⟩
instance aqj{b:Int}:cd Tryz.prog 122 w0 L [.int .i64 b] (.bool (decide (b=32)||decide (b=128))) (True):=⟨fun aG w hw=>by
 refine cC Tryz.func122 rfl Tryz.ntmps122 rfl ?_;refine pB ?_;refine Gr fun w1 hw=>?_;exact⟨congrArg (fun b=>Ending.returned (Value.bool b)) (rfl),ai.mem hw⟩⟩
theorem ae3(w0 w:World)(L:List aj)(B:Nat)(T:TypeId)(bits:Int)(s:Sv)(ns:List Nd)(node:Nat)(four:Int)(hw:Mem w0 (ar B (dJ ⟨bits,⟨s,[]⟩⟩) T::own dw 48 s ns::L) w)(aG:node<ns.length/\0<=four/\four<16/\ns.length<=512):Calls Tryz.prog 197 #[.pointer (some ⟨B,0,none⟩), .int .i64 (node:Nat), .int .i64 four] w fun e w'=> ∃zz:Sv,e= .returned (.tuple #[.int .i64 (uR ns node four.toNat), .bool (uQ ns node four.toNat)])/\(True)/\Mem w0 (ar B (dJ ⟨bits,⟨zz,[]⟩⟩) T::own dw 48 zz (uS ns node four.toNat)::L) w':=by
 obtain⟨gL,gZ,kU,G2⟩:=aG;refine kf (args:=[_,_,_]) Tryz.func197 rfl Tryz.ntmps197 rfl hw ?_;change Cw _ _ _ _ _ [(0, .pointer (some ⟨B,0,none⟩)),(1, .int .i64 (node:Nat)),(2, .int .i64 four)] (ar B (dJ ⟨bits,⟨s,[]⟩⟩) T::own dw 48 s ns::L);refine pB ?_;obtain⟨n,hn⟩:=get_some (xs:=ns) (i:=node) oM;refine ag (ba rfl rfl node rfl oM) ?_;have en:ns.getD node Nd.zero=n:=by simp[List.getD,hn]
 refine ag (aP rfl rfl) (ag (vK rfl rfl oM oM) ?_);refine ag (PW rfl node hn ((four).toNat) oM (by simp only[atE,arN,ass,ary,arP]<;>omega)) ?_;refine aO ?_;refine Gb (fun h0=>?_) fun h0=>?_
 ·
  refine aO ?_;refine Gr fun w1 hw=>?_;exact⟨s,by rw[uR,uQ,en,if_pos h0,decide_eq_true h0];rfl,trivial,by rw[uS,en,if_pos (.inl h0)];exact ai.mem hw⟩
 refine ik ?_;refine Gb (fun h1=>?_) fun h1=>?_
 ·
  refine au ?_;refine Gr fun w1 hw=>?_;exact⟨s,by rw[uR,uQ,en,if_neg h0,if_pos oM,decide_eq_false h0,decide_eq_false oM];rfl,trivial,by rw[uS,en,if_pos (.inr oM)];exact ai.mem hw⟩
 refine c6 ?_;refine ag (iQ rfl) ?_;refine lO (enc:=dw) (vals:=[_]) [Nd.zero] rfl rfl rfl (by decide) (by decide) fun TO=>?_;refine lN (s:=s) (ys:=[Nd.zero]) rfl rfl (by decide) (fun w hw=>ke (s:=⟨false,TO,0,1,1,none⟩) Tryz.underlying122 (by decide) ((inferInstance:Hd _ _ ⟨false,TO,0,1,1,none⟩ dw 48 [Nd.zero]).h w hw)) (by simp only[af0,aqQ,aqS];omega) (by simp only[af0,aqQ,aqS];omega) fun G3 LZ L3=>?_;refine al ?_;refine eN (cs':=dJ (⟨bits,⟨G3,[]⟩⟩:lQ)) rfl rfl (by show 1<2;decide) (by first|rfl|exact Sv.one _) rfl (kE ?_);have hm:(ns++[Nd.zero])[node]? =some n:=by rw[aq4 gL];exact hn
 have bb:node<G3.len:=by rw[L3,af0];omega
 refine jh [17] [[],[],[],[],[],[],[],[],[],[],[],[],[],[],[],[],[],[]] [0,1,2,3,4,5,6,7,8,9,10,11,12,13,14,15,16,17] [ar B (dJ ⟨bits,⟨G3,[]⟩⟩) T] (fun _ hw=>ai.mem hw) oK oK (an rfl (bl rfl) (an rfl (jy rfl) (an rfl (aP (o':=0) rfl rfl) (an rfl (aP (o':=1) rfl rfl) (an rfl (bW rfl) (an rfl (bl rfl) (an rfl (bl rfl) (an rfl (bl rfl) (an rfl (jy rfl) (an rfl (aP (o':=0) rfl rfl) (an rfl (aP (o':=1) rfl rfl) (an rfl (bW rfl) ?_))))))))))));refine an rfl (sY rfl LZ (L3.trans (by simp:_=ns.length+1))) (an rfl (zk rfl rfl oM) ?_);obtain⟨e56,aqk⟩:=get_some (xs:=(ns++[Nd.zero])) (i:=node) oM;refine an rfl (mn rfl rfl rfl LZ bb) (an rfl (aP rfl rfl) (an rfl (vK rfl rfl oM oM) ?_));refine dN rfl (acC rfl rfl hm ((four).toNat) oM (by simp only[atE,arN,ass,ary,arP]<;>omega) ⟨fun _ hw=>ai.mem hw,?_⟩);refine aY ?_;refine ag (sY rfl LZ (L3.trans (by simp:_=ns.length+1))) (au ?_);refine Gr fun w1 hw=>?_;exact⟨G3,by rw[uR,uQ,en,if_neg h0,if_neg oM,decide_eq_true (show ns.length<512 by omega)];simp,trivial,by rw[uS,en,if_neg oM];have:=hw.sub (arQ _ _);simpa using this⟩
instance aql{w0:World}{L R1 L2:List aj}{i j:Nat}{B:Nat}{T:TypeId}{bits:Int}{s:Sv}{ns:List Nd}{node:Nat}{four:Int}[h:Has L B (dJ ⟨bits,⟨s,[]⟩⟩) T i][d1:dq L i R1][q:fw R1 s dw 48 ns j][d2:dq R1 j L2]:bZ Tryz.prog 197 w0 L [.pointer (some ⟨B,0,none⟩), .int .i64 (node:Nat), .int .i64 four] (Sv) (fun zz=> .tuple #[.int .i64 (uR ns node four.toNat), .bool (uQ ns node four.toNat)]) (fun zz=>ar B (dJ ⟨bits,⟨zz,[]⟩⟩) T::own dw 48 zz (uS ns node four.toNat)::L2) (fun zz=>True) (node<ns.length/\0<=four/\four<16/\ns.length<=512):=⟨fun hp w hw=>ae3 w0 w L2 B T bits s ns node four (sB h.h d1.h q.h d2.h hw) hp⟩
theorem ae4(w0 w:World)(L:List aj)(B:Nat)(T:TypeId)(bits:Int)(s:Sv)(W:List Wy)(R:List Rt)(r:Rt)(hw:Mem w0 (ar B (dJ ⟨bits,⟨s,[]⟩⟩) T::own dw 48 s (nodes bits W R)::L) w)(aG:bj r.p=true/\r.p.bits=bits/\iT W/\uP bits W R/\W.length<=512):Calls Tryz.prog 123 #[.pointer (some ⟨B,0,none⟩), .agg (aA r)] w fun e w'=> ∃zz:Sv×List Nd,e= .returned (.bool (decide ((dI W r.p (bI r.p)).length<=512)))/\((dI W r.p (bI r.p)).length<=512->zz.2=nodes bits (dI W r.p (bI r.p)) (R++[r]))/\Mem w0 (ar B (dJ ⟨bits,⟨zz.1,[]⟩⟩) T::own dw 48 zz.1 zz.2::L) w':=by
 obtain⟨gL,gZ,kU,G2,KS⟩:=aG;obtain⟨HR,DY,hq3,LQ⟩:=(rM r.p).1 gL;have bb:=Fe gL;have om:=PO gL;have L4:=Cg r.p.key (bI r.p);have cx:=Ck gL;have La:=ZJ DY oM;refine kf (args:=[_,_]) Tryz.func123 rfl Tryz.ntmps123 rfl hw ?_;change Cw _ _ _ _ _ [(0, .pointer (some ⟨B,0,none⟩)),(1, .agg (aA r))] (ar B (dJ ⟨bits,⟨s,[]⟩⟩) T::own dw 48 s (nodes bits W R)::L);refine Gc ?_;refine bY rfl fun b3=>aY ?_;refine ag (et rfl rfl (by rw[lL,if_neg (by decide),wrap64_in oM])) (ag (Ry.to (vL rfl rfl) (by rw[ZI DY])) (c6 ?_));refine bT (X:=Nat×Sv) (fun zz=>[(21, .int .i64 (zz.1:Nat)),(6, .int .i64 (((dI W r.p zz.1).idxOf (cW r.p.key zz.1)):Nat)),(0, .pointer (some ⟨B,0,none⟩)),(3, .pointer (some ⟨b3,0,none⟩)),(5, .int .i64 (bI r.p:Nat)),(20, .int .i64 (bI r.p:Nat))]) (fun zz=>ar B (dJ ⟨bits,⟨zz.2,[]⟩⟩) T::own dw 48 zz.2 (nodes bits (dI W r.p zz.1) R)::ar b3 (aA r) 34::L) (fun zz=>zz.1<=bI r.p/\(dI W r.p zz.1).length<=512) (fun zz=>bI r.p -zz.1) (0,s) ⟨Nat.zero_le _,KS⟩ (Sub.cons rfl (Sub.cons (look_eq rfl (by rw[zY,Jp,Js kU.nodup kU.root];rfl)) sb)) (fun w hw=>(ai.mem hw:Mem _ (ar B (dJ ⟨bits,⟨s,[]⟩⟩) T::own dw 48 s (nodes bits W R)::ar b3 (aA r) 34::L) _)) ?_;rintro⟨i,s1⟩ ⟨bc,aH⟩;dsimp only;simp only at bc aH;have vA:=kU.add (p:=r.p) (n:=i) oM;have uH:=PJ (PT kU r.p i);have dD:=Zw (PT kU r.p i);have hk:=uN r.p.key i;have aqm:=Cg r.p.key i;refine al ?_;refine Gb (fun h0=>?_) fun h0=>?_
 ·
  refine fx ?_;refine ag (iJ rfl) (ay ?_);refine bg rfl ⟨by rw[Aa];exact dD,by omega,by omega,by rw[Aa];exact aH⟩ fun aB w7=>?_;have ho:uQ (nodes bits (dI W r.p i) R) ((dI W r.p i).idxOf (cW r.p.key i)) (iR r.p.key i).toNat=decide ((dI W r.p (i+1)).length<=512):=by have:=Zz vA (R:=R) (bits:=bits) uH hk aH;rw[Fa _ _ oM,←uM]at this;exact this
  refine Gs ?_;refine ag (aK (v:= .int .i64 (uR (nodes bits (dI W r.p i) R) ((dI W r.p i).idxOf (cW r.p.key i)) (iR r.p.key ((i:Nat):Int)).toNat)) rfl rfl) (ag (aK (v:= .bool (uQ (nodes bits (dI W r.p i) R) ((dI W r.p i).idxOf (cW r.p.key i)) (iR r.p.key ((i:Nat):Int)).toNat)) rfl rfl) (aY ?_));refine Gb (fun h1=>?_) fun h1=>?_
  ·
   refine al ?_;refine Gr fun w1 hw=>?_;have fX: ¬(dI W r.p (bI r.p)).length<=512:=by
    have h5:=(Zu (W:=W) (p:=r.p) (show i+1<=bI r.p by omega)).length_le;have h6: ¬(dI W r.p (i+1)).length<=512:=by simpa[ho]using h1
    omega
   exact⟨(aB,uS (nodes bits (dI W r.p i) R) ((dI W r.p i).idxOf (cW r.p.key i)) (iR r.p.key i).toNat),by rw[decide_eq_false fX],fun h=>absurd h fX,ai.mem hw⟩
  refine aY ?_;refine Gi ?_;have qP:(dI W r.p (i+1)).length<=512:=by simpa[ho]using h1
  have yN:=qP;rw[uM,←Fa _ _ oM]at yN;have sF:uS (nodes bits (dI W r.p i) R) ((dI W r.p i).idxOf (cW r.p.key i)) (gx r.p.key i)=nodes bits (dI W r.p (i+1)) R:=by rw[ZB vA uH hk (by show i<31;omega) (G2.mono (Fc _)) yN,Fa _ _ oM,←uM]
  have S5:uR (nodes bits (dI W r.p i) R) ((dI W r.p i).idxOf (cW r.p.key i)) (iR r.p.key i).toNat=(((dI W r.p (i+1)).idxOf (cW r.p.key (i+1)):Nat):Int):=by have:=ZA vA (R:=R) (bits:=bits) uH hk yN;rw[Fa _ _ oM,←uM]at this;exact this
  unfold gx at sF;exact bn (x:=(i,s1)) (i+1,aB) ⟨oF,by simpa[ho]using h1⟩ (by simp only;omega) (Sub.cons rfl (Sub.cons (look_eq rfl (by rw[S5])) sb)) (fun w hw=>by rw[sF]at hw;exact ai.mem hw)
 obtain rfl:i=bI r.p:=by omega
 refine al ?_;refine ag (iJ rfl) (fx ?_);refine ag (rG rfl rfl oM) (ay ?_);refine ag (Ry.to (D5 rfl rfl oM) (by rw[acB gL])) (aO ?_);refine bT (X:=Nat) (fun zz=>[(12, .int .i64 (zz:Nat)),(0, .pointer (some ⟨B,0,none⟩)),(3, .pointer (some ⟨b3,0,none⟩)),(6, .int .i64 (((dI W r.p (bI r.p)).idxOf (cW r.p.key (bI r.p))):Nat)),(10, .int .i64 (iR r.p.key ((bI r.p:Nat):Int))),(11, .int .i64 (2^lP r.p:Nat))]) (fun zz=>ar B (dJ ⟨bits,⟨s1,[]⟩⟩) T::own dw 48 s1 (nJ bits (dI W r.p (bI r.p)) R r zz)::ar b3 (aA r) 34::L) (fun zz=>gx r.p.key (bI r.p)<=zz/\zz<=gx r.p.key (bI r.p)+2^lP r.p) (fun zz=>gx r.p.key (bI r.p)+2^lP r.p -zz) (gx r.p.key (bI r.p)) ⟨Nat.le_refl _,Nat.le_add_right _ _⟩ (Sub.cons (look_eq rfl (by rw[L4])) sb) (fun w hw=>by rw[ZE vA gL gZ];exact ai.mem hw) ?_;rintro f ⟨wg,lg⟩;refine c6 ?_;refine Gb (fun h2=>?_) fun h2=>?_
 ·
  refine fx ?_;obtain⟨n,hn⟩:=get_some (xs:=(nJ bits (dI W r.p (bI r.p)) R r f)) (i:=((dI W r.p (bI r.p)).idxOf (cW r.p.key (bI r.p)))) (by rw[PR];exact dD);refine ag (ba rfl rfl ((dI W r.p (bI r.p)).idxOf (cW r.p.key (bI r.p))) rfl (by rw[PR];exact dD)) (ag (aP rfl rfl) (ag (vK rfl rfl oM oM) (ay ?_)));refine gO oK oK (ay ?_);refine bH (aP rfl rfl) ?_;refine bH (ZU rfl ((dI W r.p (bI r.p)).idxOf (cW r.p.key (bI r.p))) hn f oM (by simp only[atE,arN,ass,ary,arP]<;>omega)) ?_;refine aO ?_;refine Gb (fun h3=>?_) fun h3=>?_
  ·
   refine Gi ?_;refine c6 ?_;refine ag (iQ rfl) (Gs ?_);refine ZY rfl rfl hn f oM (by simp only[atE,arN,ass,ary,arP]<;>omega) ?_;refine au ?_;refine Gi ?_;have nD:(mV bits R (cW r.p.key (bI r.p)) f).len<=r.p.len:=by rw[←PS uH oM hn];exact h3
   exact bn (x:=(f)) (f+1) ⟨oF,oF⟩ oF sb (fun w hw=>by rw[ZH vA gL gZ uH hn wg oM nD]at hw;exact ai.mem hw)
  refine au ?_;refine Gi ?_;have nD: ¬(mV bits R (cW r.p.key (bI r.p)) f).len<=r.p.len:=by rw[←PS uH oM hn];exact h3
  exact bn (x:=(f)) (f+1) ⟨oF,oF⟩ oF sb (fun w hw=>by rw[ZG vA nD];exact ai.mem hw)
 obtain rfl:f=gx r.p.key (bI r.p)+2^lP r.p:=by omega
 refine al ?_;refine Gr fun w1 hw=>?_;exact⟨(s1,nJ bits (dI W r.p (bI r.p)) R r (gx r.p.key (bI r.p)+2^lP r.p)),by rw[decide_eq_true aH],fun _=>ZF vA gL gZ,ai.mem hw⟩
instance aqn{w0:World}{L R1 L2:List aj}{i j:Nat}{B:Nat}{T:TypeId}{bits:Int}{s:Sv}{W:List Wy}{R:List Rt}{r:Rt}[h:Has L B (dJ ⟨bits,⟨s,[]⟩⟩) T i][d1:dq L i R1][q:fw R1 s dw 48 (nodes bits W R) j][d2:dq R1 j L2]:bZ Tryz.prog 123 w0 L [.pointer (some ⟨B,0,none⟩), .agg (aA r)] (Sv×List Nd) (fun zz=> .bool (decide ((dI W r.p (bI r.p)).length<=512))) (fun zz=>ar B (dJ ⟨bits,⟨zz.1,[]⟩⟩) T::own dw 48 zz.1 zz.2::L2) (fun zz=>(dI W r.p (bI r.p)).length<=512->zz.2=nodes bits (dI W r.p (bI r.p)) (R++[r])) (bj r.p=true/\r.p.bits=bits/\iT W/\uP bits W R/\W.length<=512):=⟨fun hp w hw=>ae4 w0 w L2 B T bits s W R r (sB h.h d1.h q.h d2.h hw) hp⟩
instance aqo{t:Sv}{ts:List Rt}{bits:Int}[ht:di w0 L aA 19 t ts]:bZ Tryz.prog 55 w0 L [t.val, .int .i64 bits] (lQ) (fun zz=> .tuple #[.agg (dJ zz), .int .i64 (oz ts bits)]) (fun zz=>Deep.cc zz::L) (fun zz=>zz.bits=tr ts bits/\zz.ns.xs=tt ts bits) (True):=⟨fun aG w hw=>Gk (fun zz=>[Deep.cc zz]) hw (by
 have ht:=ht.h w hw;have wV:Gv w t aA 19 ts:=⟨ht⟩;refine cQ Tryz.func55 rfl Tryz.ntmps55 rfl ?_;refine Gc ?_;refine bt fun b4=>c6 ?_;refine bP rfl rfl rfl (fun hg=>cj (eC (aE hg rfl) iI) trivial) (bP rfl rfl rfl (fun hg=>(Ry.yl (nj (aE hg rfl)))) (ay ?_));refine Gb (fun h0=>?_) fun h0=>?_
 ·
  have hc: ¬(bJ ts=true/\(bits=32\/bits=128)):=by rintro⟨h1,h2⟩;rcases h2 with h2|h2<;>simp[h1,h2]at h0
  obtain⟨xR,qW,Dn⟩:=ZN hc;refine Gc ?_;refine ag (iQ rfl) (al ?_);refine Gr fun w1 hw=>?_;exact⟨(⟨0,⟨Sv.none,[]⟩⟩:lQ),by rw[xR],⟨qW.symm,Dn.symm⟩,Mem.zD (τ:=Nd) (enc:=dw) (c:=48) (ai.mem hw:Mem w [] _)⟩
 have hc:bJ ts=true/\(bits=32\/bits=128):=by simpa using h0
 have hlen:=xS hc.1;refine ay ?_;refine rJ (enc:=dw) (n:=1) (cap:=1) Nd.zero rfl rfl rfl rfl rfl oM oM oM fun lH=>ag (da (v:= .agg (dJ ⟨bits,⟨⟨false,lH,0,1,1,none⟩,[]⟩⟩)) rfl (ae2 bits _ [])) (ag (iQ rfl) (bt fun b6=>aY ?_));refine bT (X:=Nat×Sv) (fun zz=>[(24, .int .i64 (zz.1:Nat)),(6, .pointer (some ⟨b6,0,none⟩)),(1, .int .i64 bits),(4, .pointer (some ⟨b4,0,none⟩)),(22,t.val),(23, .int .i64 (ts.length:Nat))]) (fun zz=>[ar b6 (dJ ⟨bits,⟨zz.2,[]⟩⟩) 217,own dw 48 zz.2 (nodes bits (lq bits (ts.take zz.1)) (ts.take zz.1)),ar b4 (dJ (⟨0,⟨Sv.none,[]⟩⟩:lQ)) 124]) (fun zz=>zz.1<=ts.length/\(lq bits (ts.take zz.1)).length<=512) (fun zz=>ts.length -zz.1) (0,⟨false,lH,0,1,1,none⟩) ⟨Nat.zero_le _,(by decide:[root].length<=512)⟩ sb (fun w hw=>by rw[show List.replicate 1 Nd.zero=nodes bits [root] []from(ZM bits).symm]at hw;exact(ai.mem hw:Mem _ [ar b6 (dJ ⟨bits,⟨⟨false,lH,0,1,1,none⟩,[]⟩⟩) 217,own dw 48 ⟨false,lH,0,1,1,none⟩ (nodes bits [root] []),ar b4 (dJ (⟨0,⟨Sv.none,[]⟩⟩:lQ)) 124] _)) ?_;rintro⟨i,s1⟩ ⟨bc,aH⟩;dsimp only;simp only at bc aH;refine al ?_;refine Gb (fun h1=>?_) fun h1=>?_
 ·
  refine mo ?_;obtain⟨A8,vB⟩:=get_some (xs:=ts) (i:=i) oM;refine ag (ba rfl rfl i rfl oM) (ag (iK rfl i vB rfl) (bt fun b8=>fx ?_));refine Gb (fun h2=>?_) fun h2=>?_
  ·
   refine al ?_;refine Gi ?_;have tk:ts.take (i+1)=ts.take i++[A8]:=by obtain⟨hl,rfl⟩:=ad2.1 vB;exact asx hl
   exact bn (x:=(i,s1)) (i+1,s1) ⟨oF,by rw[Cl vB,nI,if_neg h2];exact aH⟩ (by simp only;omega) sb (fun w hw=>by rw[Cl vB,nI,if_neg h2,tk,ZL h2];exact ai.mem hw)
  have hme:=tq hc.1 (anc vB);have vA:iT (lq bits (ts.take i)):=Zv fun x hx=>tq hc.1 (asN hx);refine ay ?_;refine bg rfl ⟨hme,h2,vA,Jx i ts,aH⟩ fun j8 yF=>ay ?_;refine Gb (fun h3=>?_) fun h3=>?_
  ·
   have fX: ¬(lq bits ts).length<=512:=fun h=>by have h5:=(ZK (bits:=bits) (t:=ts) (show i+1<=ts.length by omega)).length_le;rw[ark,Cl vB,nI,if_pos h2]at h5;omega
   obtain⟨xR,qW,Dn⟩:=ZO hc fX;refine Gc ?_;refine ag (iQ rfl) (al ?_);refine Gr fun w1 hw=>?_;exact⟨(⟨0,⟨Sv.none,[]⟩⟩:lQ),by rw[xR],⟨qW.symm,Dn.symm⟩,Mem.zD (τ:=Nd) (enc:=dw) (c:=48) (ai.mem hw:Mem w [] _)⟩
  refine al ?_;refine Gi ?_;have tk:ts.take (i+1)=ts.take i++[A8]:=by obtain⟨hl,rfl⟩:=ad2.1 vB;exact asx hl
  have bF:=h3;exact bn (x:=(i,s1)) (i+1,j8.1) ⟨oF,by rw[Cl vB,nI,if_pos h2];exact bF⟩ (by simp only;omega) sb (fun w hw=>by rw[Cl vB,nI,if_pos h2,tk,←yF bF];exact ai.mem hw)
 refine ay ?_;refine ag (iJ rfl) (al ?_);refine Gr fun w1 hw=>?_;obtain rfl:i=ts.length:=by omega
 rw[ark]at aH hw;obtain⟨xR,qW,Dn⟩:=ZP hc aH;exact⟨⟨bits,⟨s1,nodes bits (lq bits ts) ts⟩⟩,by rw[xR];rfl,⟨qW.symm,Dn.symm⟩,(Tr.Eo (a:=(⟨s1,nodes bits (lq bits ts) ts⟩:Sl Nd))).mem (ai.mem hw)⟩)⟩
instance aqp{t:lQ}[ht:aT w0 L t]:bZ Tryz.prog 237 w0 L [.agg (dJ t)] (Sv) (fun zz=>zz.val) (fun zz=>own bw 1 zz ((kR t.bits t.ns.xs).getD [])::L) (fun zz=>zz.nil=(kR t.bits t.ns.xs).isNone) (True):=⟨fun aG w hw=>Gk (fun zz=>[own bw 1 zz ((kR t.bits t.ns.xs).getD [])]) hw (by
 have ht:=ht.h w hw;have wV:cH w t:=⟨ht⟩;have jz:=ht.1.bd;refine cC Tryz.func237 rfl Tryz.ntmps237 rfl ?_;refine Gc ?_;refine bY rfl fun b1=>YL ?_;refine Gb (fun h0=>?_) fun h0=>?_
 ·
  have hv:kR t.bits t.ns.xs=none:=by rw[kR,if_neg];omega
  refine al ?_;refine Gr fun w1 hw=>?_;exact⟨Sv.none,rfl,by rw[hv];rfl,by rw[hv];exact Mem.dH bw 1 (ai.mem hw:Mem w [] _)⟩
 have hb:t.bits=32\/t.bits=128:=by omega
 have qP:1<=t.ns.xs.length:=by omega
 have yN:t.ns.xs.length<=512:=by omega
 have TP:kR t.bits t.ns.xs=kQ t.bits t.ns.xs t.ns.xs.length:=by rw[kR,if_pos ⟨hb,qP,yN⟩]
 refine au ?_;refine rJ (enc:=bw) (n:=t.ns.xs.length) (cap:=t.ns.xs.length) (0:Int) rfl rfl rfl rfl rfl oM oM oM fun pL=>al ?_;obtain⟨z,hz⟩:=get_some (xs:=(List.replicate t.ns.xs.length (0:Int))) (i:=0) (by simp;omega);refine ag (ba rfl rfl 0 rfl (by simp;omega)) (PX rfl rfl hz rfl (aY ?_));refine bT (X:=Nat×List Int) (fun zz=>[(34, .int .i64 (zz.1:Nat)),(3,(⟨false,pL,0,t.ns.xs.length,t.ns.xs.length,none⟩:Sv).val),(1, .pointer (some ⟨b1,0,none⟩)),(32,t.ns.sv.val),(33, .int .i64 (t.ns.xs.length:Nat))]) (fun zz=>[own bw 1 ⟨false,pL,0,t.ns.xs.length,t.ns.xs.length,none⟩ zz.2,ar b1 (dJ t) 124]) (fun zz=>zz.1<=t.ns.xs.length/\kQ t.bits t.ns.xs zz.1=some zz.2/\zz.2.length=t.ns.xs.length/\(∀y∈zz.2,0<=y/\y<=33)) (fun zz=>t.ns.xs.length -zz.1) (0,(List.replicate t.ns.xs.length 0).set 0 1) ⟨Nat.zero_le _,rfl,by simp,fun y hy=>by rcases arq hy with h|h;rw[List.eq_of_mem_replicate h];omega;omega⟩ sb (fun w hw=>ai.mem hw) ?_
 rintro⟨i,a⟩ ⟨hi,hs,ha,hy⟩;dsimp only;simp only at hi hs ha hy;refine al ?_;refine Gb (fun h1=>?_) fun h1=>?_
 ·
  refine ay ?_;obtain⟨n,hn⟩:=get_some (xs:=t.ns.xs) (i:=i) oM;refine ag (ba rfl rfl i rfl oM) (ag (iK rfl i hn rfl) (bt fun b5=>al ?_));refine gO oK oK (ay ?_);obtain⟨x,hx⟩:=get_some (xs:=a) (i:=i) oM;refine bH (ba rfl rfl i rfl oM) ?_;have hxr:=hy x (anc hx);refine bH (bL (j:=0) rfl i hx rfl (by decide)) (au ?_);refine fL rfl rfl rfl (fun hg=>(Ry.yl (ba (aE hg rfl) (aE hg rfl) i rfl oM))) (fL rfl rfl rfl (fun hg=>(Ry.yl (bL (j:=0) (aE hg rfl) i hx rfl (by decide)))) (ay ?_));refine fL rfl rfl rfl (fun hg=>(Ry.yl (mj (aE hg rfl) rfl (by simp only[Z0,Z1,Z2,Z3,Z4,Z5,Z6,Z7,Z8,Z9]at hg;omega) (by simp only[Z0,Z1,Z2,Z3,Z4,Z5,Z6,Z7,Z8,Z9]at hg;omega)))) (al ?_);refine Gb (fun h2=>?_) fun h2=>?_
  ·
   have hv:=abG oM hs (by rw[getD_some hx];omega);refine al ?_;refine Gr fun w1 hw=>?_;exact⟨Sv.none,rfl,by rw[hv];rfl,by rw[hv];exact Mem.dH bw 1 (ai.mem hw:Mem w [] _)⟩
  have G4: ¬(a.getD i 0=0\/t.bits/4<a.getD i 0):=by rw[getD_some hx];omega
  refine al ?_;refine bT (X:=Nat×List Int) (fun zz=>[(54, .int .i64 (zz.1:Nat)),(3,(⟨false,pL,0,t.ns.xs.length,t.ns.xs.length,none⟩:Sv).val),(1, .pointer (some ⟨b1,0,none⟩)),(4, .int .i64 (i:Nat)),(5, .pointer (some ⟨b5,0,none⟩)),(32,t.ns.sv.val),(33, .int .i64 (t.ns.xs.length:Nat)),(34, .int .i64 (i:Nat))]) (fun zz=>[own bw 1 ⟨false,pL,0,t.ns.xs.length,t.ns.xs.length,none⟩ zz.2,ar b5 (dw n) 225,ar b1 (dJ t) 124]) (fun zz=>zz.1<=16/\mB t.ns.xs.length i n zz.1 a=some zz.2/\zz.2.length=t.ns.xs.length/\(∀y∈zz.2,0<=y/\y<=33)/\zz.2[i]? =some x) (fun zz=>16 -zz.1) (0,a) ⟨oF,rfl,ha,hy,hx⟩ sb (fun w hw=>ai.mem hw) ?_;rintro⟨b,a2⟩ ⟨nP,A9,G5,CZ,gz⟩;dsimp only;simp only at nP A9 G5 CZ gz;refine al ?_;refine Gb (fun h3=>?_) fun h3=>?_
  ·
   refine aY ?_;refine ag (vK rfl rfl oM oM) (ag (aP rfl rfl) ?_);refine ag (ZX rfl b oM (by simp only[atE,arN,ass,ary,arP]<;>omega)) ?_;refine fx ?_;refine bP rfl rfl rfl (fun hg=>(Ry.yl (ba (aE hg rfl) (aE hg rfl) i rfl oM))) (bP rfl rfl rfl (fun hg=>(Ry.yl (bL (j:=0) (aE hg rfl) i gz rfl (by decide)))) (bP rfl rfl rfl (fun hg=>(Ry.yl (rG rfl (aE hg rfl) (by simp only[Z0,Z1,Z2,Z3,Z4,Z5,Z6,Z7,Z8,Z9]at hg;omega)))) (bP rfl rfl rfl (fun hg=>(Ry.yl (zj (aE hg rfl) rfl (by simp only[Z0,Z1,Z2,Z3,Z4,Z5,Z6,Z7,Z8,Z9]at hg;omega)))) (al ?_))));refine Gb (fun h4=>?_) fun h4=>?_
   ·
    have hv:=RF oM hs hn (b:=b) oM A9 (by rw[tJ,getD_some gz,if_pos oM]);refine al ?_;refine Gr fun w1 hw=>?_;exact⟨Sv.none,rfl,by rw[hv];rfl,by rw[hv];exact Mem.dH bw 1 (ai.mem hw:Mem w [] _)⟩
   refine al ?_;refine ag (vK rfl rfl oM oM) ?_;refine ag (ZW rfl b oM (by simp only[atE,arN,ass,ary,arP]<;>omega)) ?_;refine aO ?_;refine Gb (fun h5=>?_) fun h5=>?_
   ·
    have ho:tJ t.ns.xs.length i n b a2=some a2:=by rw[tJ,getD_some gz,if_neg oM,if_pos h5]
    refine al ?_;refine Gi ?_;exact bn (x:=(b,a2)) (b+1,a2) ⟨oF,by rw[mB,A9,asd,ho],G5,CZ,gz⟩ (by simp only;omega) sb (fun w hw=>ai.mem hw)
   refine Pc ?_;refine bP rfl rfl rfl (fun hg=>(Ry.yl (ba (aE hg rfl) (aE hg rfl) ((n.nx b).toNat) (by simp only[Z0,Z1,Z2,Z3,Z4,Z5,Z6,Z7,Z8,Z9]at hg;omega) (by simp only[Z0,Z1,Z2,Z3,Z4,Z5,Z6,Z7,Z8,Z9]at hg;omega)))) (bP rfl rfl rfl (fun hg=>(Ry.yl (bL (j:=0) (aE hg rfl) ((n.nx b).toNat) (pt (xs:=a2) (i:=(n.nx b).toNat) (d:=(0:Int)) (by simp only[Z0,Z1,Z2,Z3,Z4,Z5,Z6,Z7,Z8,Z9]at hg;omega)) rfl (by decide)))) (al ?_));refine Gb (fun h6=>?_) fun h6=>?_
   ·
    have hv:=RF oM hs hn (b:=b) oM A9 (by rw[tJ,getD_some gz,if_neg oM,if_neg h5,if_pos oM]);refine al ?_;refine Gr fun w1 hw=>?_;exact⟨Sv.none,rfl,by rw[hv];rfl,by rw[hv];exact Mem.dH bw 1 (ai.mem hw:Mem w [] _)⟩
   have ho:tJ t.ns.xs.length i n b a2=some (a2.set (n.nx b).toNat (x+1)):=by rw[tJ,getD_some gz,if_neg oM,if_neg h5,if_neg oM]
   refine aO ?_;refine ag (ba rfl rfl i rfl oM) (ag (bL (j:=0) rfl i gz rfl (by decide)) (Gs ?_));obtain⟨aqq,ae5⟩:=get_some (xs:=a2) (i:=(n.nx b).toNat) oM;refine ag (ba rfl rfl ((n.nx b).toNat) oM oM) (PX rfl rfl ae5 rfl (al ?_));refine Gi ?_;exact bn (x:=(b,a2)) (b+1,_) ⟨oF,by rw[mB,A9,asd,ho],by simp[G5],fun y xV=>by rcases arq xV with h|h;exact CZ y h;omega,by rw[arj oF];exact gz⟩ (by simp only;omega) sb (fun w hw=>ai.mem hw)
  obtain rfl:b=16:=by omega
  refine al ?_;refine Gi ?_;exact bn (x:=(i,a)) (i+1,a2) ⟨oF,abH hs hn G4 A9,G5,CZ⟩ (by simp only;omega) sb (fun w hw=>ai.mem hw)
 refine au ?_;refine Gr fun w1 hw=>?_;obtain rfl:i=t.ns.xs.length:=by omega
 exact⟨⟨false,pL,0,t.ns.xs.length,t.ns.xs.length,none⟩,rfl,by rw[TP,hs];rfl,by rw[TP,hs];exact(ai.mem hw:Mem w [own bw 1 ⟨false,pL,0,t.ns.xs.length,t.ns.xs.length,none⟩ a] _)⟩)⟩
instance aqr{t:lQ}[ht:aT w0 L t]:cd Tryz.prog 198 w0 L [.agg (dJ t)] (.bool ((kR t.bits t.ns.xs).isSome)) (True):=⟨fun aG w hw=>by
 have ht:=ht.h w hw;have wV:cH w t:=⟨ht⟩;refine cC Tryz.func198 rfl Tryz.ntmps198 rfl ?_;refine Gc ?_;refine bY rfl fun b1=>al ?_;refine bg rfl trivial fun x4 G2=>ag (WX Tryz.underlying60 rfl) (ay ?_);refine Gr fun w1 hw=>?_;exact⟨congrArg (fun b=>Ending.returned (Value.bool b)) (by rw[G2];cases kR t.bits t.ns.xs<;>rfl),ai.mem hw⟩⟩
instance aqs{t:lQ}{k:Key}[ht:aT w0 L t]:bZ Tryz.prog 124 w0 L [.agg (dJ t), .agg (bN k)] (Sv) (fun zz=>zz.val) (fun zz=>own bw 1 zz (mC t.bits t.ns.xs k)::L) (fun zz=>True) (True):=⟨fun aG w hw=>Gk (fun zz=>[own bw 1 zz (mC t.bits t.ns.xs k)]) hw (by
 have ht:=ht.h w hw;have wV:cH w t:=⟨ht⟩;refine cQ Tryz.func124 rfl Tryz.ntmps124 rfl ?_;refine Gc ?_;refine bY rfl fun b2=>bY rfl fun b3=>ay ?_;refine gO oK oK (Gq ?_);refine sW (cj rfl trivial) (ay ?_);refine fL rfl rfl rfl (fun hg=>(Ry.yl (jO rfl))) (ay ?_);refine fL rfl rfl rfl (fun hg=>cj (eC (aE hg rfl) (eC (aE hg rfl) iI)) trivial) (fL rfl rfl rfl (fun hg=>(Ry.yl (jO rfl))) (fL rfl rfl rfl (fun hg=>(Ry.yl (D4 (aE hg rfl) (aE hg rfl)))) (ay ?_)));refine Gb (fun h0=>?_) fun h0=>?_
 ·
  have hk:su t.bits t.ns.xs k=false:=by rw[su];rcases h0 with h|h;rw[h];rfl;rw[decide_eq_false h];simp
  refine al ?_;refine Gr fun w1 hw=>?_;exact⟨Sv.none,rfl,trivial,by rw[mC,if_neg (by rw[hk];simp)];exact Mem.dH bw 1 (ai.mem hw:Mem w [] _)⟩
 have hs:(kR t.bits t.ns.xs).isSome=true:=by simpa using h0.1
 have hk:su t.bits t.ns.xs k=true:=by rw[su,hs];simpa using h0.2
 obtain⟨hr,hb,qP,yN⟩:=F4 hs;refine Gc ?_;refine lO (enc:=bw) (vals:=[_]) [0] rfl rfl rfl (by decide) (by decide) fun lH=>?_;refine au ?_;refine ag (mj rfl rfl oM oM) (ay ?_);refine bT (X:=Nat×Sv) (fun zz=>[(23, .int .i64 (zz.1:Nat)),(5,zz.2.val),(2, .pointer (some ⟨b2,0,none⟩)),(3, .pointer (some ⟨b3,0,none⟩)),(22, .int .i64 (t.bits/4))]) (fun zz=>[own bw 1 zz.2 (va t.ns.xs k zz.1),ar b2 (dJ t) 124,ar b3 (bN k) 25]) (fun zz=>zz.1<=(t.bits/4).toNat/\ ∀j,j<zz.1->chain t.ns.xs k (j+1)≠0) (fun zz=>(t.bits/4).toNat -zz.1) (0,⟨false,lH,0,1,1,none⟩) ⟨Nat.zero_le _,fun j hj=>absurd hj (Nat.not_lt_zero j)⟩ sb (fun w hw=>(ai.mem hw:Mem _ [own bw 1 ⟨false,lH,0,1,1,none⟩ [0],ar b2 (dJ t) 124,ar b3 (bN k) 25] _)) ?_;rintro⟨i,s1⟩ ⟨bc,aH⟩;dsimp only;simp only at bc aH;have qb:=F5 (k:=k) hr qP i;have bu:=uN k i;have L4:=Cg k i;refine al ?_;refine Gb (fun h1=>?_) fun h1=>?_
 ·
  refine au ?_;refine gO oK oK (au ?_);refine bH (ba rfl rfl i rfl (by rw[CK];omega)) (bH (bL (j:=0) rfl i (RH (aqY i)) rfl (by decide)) (ay ?_));refine sW (cj rfl trivial) ?_;obtain⟨n,hn⟩:=get_some (xs:=t.ns.xs) (i:=(chain t.ns.xs k i)) qb;refine bH (ba rfl rfl (chain t.ns.xs k i) rfl qb) (bH (aP rfl rfl) (bH (vK rfl rfl oM oM) ?_));refine bH (PW rfl (chain t.ns.xs k i) hn ((iR k ((i:Nat):Int)).toNat) oM (by simp only[atE,arN,ass,ary,arP]<;>omega)) ?_;refine aO ?_;refine Gb (fun h2=>?_) fun h2=>?_
  ·
   have h00:chain t.ns.xs k (i+1)=0:=by rw[chain,getD_some hn];have:n.nx (gx k i)=0:=h2;omega
   refine lj ?_;refine ND rfl (au ?_);refine Gr fun w1 hw=>?_;exact⟨s1,rfl,trivial,by rw[mC,if_pos hk,abN oM aH h00];exact ai.mem hw⟩
  have L5:n.nx (iR k (i:Nat)).toNat=((chain t.ns.xs k (i+1):Nat):Int):=by rw[chain,getD_some hn];have:=(hr _ n hn (gx k i) bu).1;show n.nx (gx k i)=_;omega
  refine al ?_;refine lO (enc:=bw) (vals:=[_]) [n.nx ((iR k ((i:Nat):Int)).toNat)] rfl rfl rfl (by decide) (by decide) fun ja=>?_;refine lN (s:=s1) (ys:=[n.nx ((iR k ((i:Nat):Int)).toNat)]) rfl rfl (by decide) (fun w hw=>ke (s:=⟨false,ja,0,1,1,none⟩) Tryz.underlying60 (by decide) ((inferInstance:Hd _ _ ⟨false,ja,0,1,1,none⟩ bw 1 [n.nx ((iR k ((i:Nat):Int)).toNat)]).h w hw)) (by rw[CK];simp only[aqQ,aqS];omega) (by rw[CK];simp only[aqQ,aqS];omega) fun s44 aqt aqu=>?_;refine au ?_;refine Gi ?_;exact bn (x:=(i,s1)) (i+1,s44) ⟨oF,fun j hj=>(aqX j i).elim (aH j) fun h=>by obtain rfl:j=i:=oF;intro h9;rw[h9]at L5;exact h2 L5⟩ (by simp only;omega) sb (fun w hw=>by rw[abP,←L5];exact ai.mem hw)
 refine au ?_;refine Gr fun w1 hw=>?_;exact⟨s1,rfl,trivial,by rw[mC,if_pos hk,abO (fun j hj=>aH j oM),show(t.bits/4).toNat=i by omega];exact ai.mem hw⟩)⟩
instance aqv{t:lQ}{k:Key}[ht:aT w0 L t]:cd Tryz.prog 56 w0 L [.agg (dJ t), .agg (bN k)] (.tuple #[.int .i64 (yi t.bits t.ns.xs k), .int .u16 ((yj t.bits t.ns.xs k).toNat:Nat), .int .i64 (rn t.bits t.ns.xs k)]) (True):=⟨fun aG w hw=>by
 have ht:=ht.h w hw;have wV:cH w t:=⟨ht⟩;refine cQ Tryz.func56 rfl Tryz.ntmps56 rfl ?_;refine Gc ?_;refine bY rfl fun b2=>bY rfl fun b3=>aY ?_;refine bg rfl trivial fun ku yC=>aY ?_;refine Gb (fun h0=>?_) fun h0=>?_
 ·
  have hk:su t.bits t.ns.xs k=false:=RJ.1 oM;have he:rn t.bits t.ns.xs k=1:=by rw[rn,if_neg (by rw[hk];simp)]
  refine aO ?_;refine Gr fun w1 hw=>?_;exact⟨by rw[yi,yj,he];rfl,ai.mem hw⟩
 have hk:su t.bits t.ns.xs k=true:=by cases h:su t.bits t.ns.xs k with|true=>rfl|false=>exact absurd (RJ.2 h) oM
 have hs:(kR t.bits t.ns.xs).isSome=true:=by rw[su,alM]at hk;exact hk.1
 obtain⟨hr,hb,qP,yN⟩:=F4 hs;refine Gc ?_;refine bt fun b8=>au ?_;refine kE ?_;refine NT ku fun jz=>bT (X:=Nat) (fun zz=>[(20, .int .i64 (zz:Nat)),(8, .pointer (some ⟨b8,0,none⟩)),(2, .pointer (some ⟨b2,0,none⟩)),(3, .pointer (some ⟨b3,0,none⟩)),(18,ku.val),(19, .int .i64 ((mC t.bits t.ns.xs k).length:Nat))]) (fun zz=>[ar b8 (pD (oS t.ns.xs k zz)) 221,own bw 1 ku (mC t.bits t.ns.xs k),ar b2 (dJ t) 124,ar b3 (bN k) 25]) (fun zz=>zz<=(mC t.bits t.ns.xs k).length) (fun zz=>(mC t.bits t.ns.xs k).length -zz) 0 (arn _) sb (fun w hw=>(ai.mem hw:Mem _ [ar b8 (pD gf.no) 221,own bw 1 ku (mC t.bits t.ns.xs k),ar b2 (dJ t) 124,ar b3 (bN k) 25] _)) ?_;rintro i hI;have qb:=F5 (k:=k) hr qP i;have bu:=uN k i;have L4:=Cg k i;refine al ?_;refine Gb (fun h1=>?_) fun h1=>?_
 ·
  refine ay ?_;refine ag (ba rfl rfl i rfl oM) (ag (bL (j:=0) rfl i (abQ oM) rfl (by decide)) (al ?_));refine jh [10,11] [[],[],[],[],[],[],[],[],[],[],[],[10]] [0,1,2,3,4,5,6,7,8,9,10,11] [ar b2 (dJ t) 124,ar b3 (bN k) 25] (fun _ hw=>ai.mem hw) oK oK (an rfl (aP (o':=1) rfl rfl) (an rfl (bW rfl) (an rfl (bl rfl) (an rfl (jO rfl) (an rfl (bl rfl) (xM rfl (cj rfl trivial) ?_))))));obtain⟨n,hn⟩:=get_some (xs:=t.ns.xs) (i:=(chain t.ns.xs k i)) qb;refine an rfl (ba rfl rfl (chain t.ns.xs k i) rfl qb) (an rfl (aP rfl rfl) (an rfl (vK rfl rfl oM oM) ?_));refine an rfl (ZV rfl (chain t.ns.xs k i) hn ((iR k ((i:Nat):Int)).toNat) oM (by simp only[atE,arN,ass,ary,arP]<;>omega)) ?_;refine dN rfl (O2 fun oX=>⟨fun _ hw=>ai.mem hw,?_⟩);refine dN rfl (qX rfl rfl ⟨fun _ hw=>ai.mem hw,?_⟩);refine c6 ?_;refine Gb (fun h2=>?_) fun h2=>?_
  ·
   have ry:oS t.ns.xs k (i+1)=n.sl (iR k (i:Nat)).toNat:=by simp only[oS,getD_some hn];exact if_pos h2
   refine Gi ?_;refine aO ?_;refine Gi ?_;exact bn (x:=(i)) (i+1) oF oF sb (fun w hw=>by rw[ry];exact ai.mem hw)
  have ry:oS t.ns.xs k (i+1)=oS t.ns.xs k i:=by simp only[oS,getD_some hn];exact if_neg h2
  refine al ?_;refine Gi ?_;exact bn (x:=(i)) (i+1) oF oF sb (fun w hw=>by rw[ry];exact ai.mem hw)
 refine aO ?_;refine Gb (fun h3=>?_) fun h3=>?_
 ·
  have G6:yh t.bits t.ns.xs k=oS t.ns.xs k i:=by rw[yh,show(mC t.bits t.ns.xs k).length=i by omega]
  have he:rn t.bits t.ns.xs k=6:=by rw[rn,if_pos hk,G6,if_pos h3]
  refine aO ?_;refine Gr fun w1 hw=>?_;exact⟨by rw[yi,yj,he];rfl,ai.mem hw⟩
 have G6:yh t.bits t.ns.xs k=oS t.ns.xs k i:=by rw[yh,show(mC t.bits t.ns.xs k).length=i by omega]
 have he:rn t.bits t.ns.xs k=0:=by rw[rn,if_pos hk,G6,if_neg h3]
 have Ts:=RI (k:=k) hs i;refine Gc ?_;refine gO oK oK (ik ?_);refine Gr fun w1 hw=>?_;exact⟨by rw[yi,yj,he,G6];rfl,ai.mem hw⟩⟩
end Go.Proofs.YtkggjjnhnjjokaaGreatDoor
namespace Go.Kb
open Go.ax
def ae6:Key:=nw fun i=>if i=0 then 10 else 0
def sL(h:UInt16):Rt:=⟨⟨32,8,ae6⟩,h⟩
def L6:CV×Int:=pE 6 2 64
def L7:FV×Int:=pK L6.1
def G7:FV×Int:=cA L7.1 [⟨sL 7,false⟩]
def L8:FV×Int:=dF G7.1.aq.ae
theorem ae7:L6.2=0:=by decide+kernel
theorem ae8:L7.2=0:=by decide+kernel
theorem ae9:G7.2=0:=by decide+kernel
theorem afa:L8.2=0:=by decide+kernel
def tX:Key:=nw fun i=>if i=0 then 10 else if i=1 then 9 else 0
theorem afb:sK [49,48,46,48,46,48,46,48,47,56,32,55]=0:=by decide+kernel
theorem TQ:mJ [49,48,46,48,46,48,46,48,47,56,32,55]=sL 7:=by decide+kernel
theorem afc:L8.1.table=[sL 7]:=by decide+kernel
theorem afd:oz [sL 7] 32=0:=by decide+kernel
theorem afe:rn (tr [sL 7] 32) (tt [sL 7] 32) tX=0:=by decide+kernel
theorem aff:yi (tr [sL 7] 32) (tt [sL 7] 32) tX=8:=by decide+kernel
theorem afg:yj (tr [sL 7] 32) (tt [sL 7] 32) tX=7:=by decide+kernel
end Go.Kb
namespace Go.Proofs.YtkggjjnhnjjokaaGreatDoor
open Go.ax Go.Kb Go.RowKit
theorem afh{f:dr}{v:FV}(e:ck f=v)(h:Ss v=true):gg f.aq.ae/\f.aq.at_.xs.length<=1000000/\f.table.xs.length<=1000000:=by
 subst e;simp only[Ss,alM,decide_eq_true_eq]at h;exact⟨qp h.1.1,h.1.2,h.2⟩
variable {w0:World}{L:List aj}
instance aqw[tb:rS w0]:cd Tryz.prog 12 w0 L [] (.bool true) (True):=⟨fun aG w hw=>by
 have tb:=tb.at hw;refine YV Tryz.func12 rfl Tryz.ntmps12 rfl ?_;refine al ?_;refine dR (cj rfl (by decide)) (Gs ?_);refine ag (aK (v:= .agg (aA (mJ [49,48,46,48,46,48,46,48,47,56,32,55]))) rfl rfl) (ag (aK (v:= .int .i64 (sK [49,48,46,48,46,48,46,48,47,56,32,55])) rfl rfl) (bt fun b1=>al ?_));refine bg rfl trivial fun hH C5=>?_;have L9:cv hH=L6.1:=C5;have z21:(pE 6 2 64).2=0:=ae7;have afi:gg hH:=qp (by rw[L9];decide+kernel);refine Gs ?_;refine ag (aK (v:= .agg (aS hH)) rfl rfl) (ag (aK (v:= .int .i64 ((pE 6 2 64).2)) rfl rfl) (bt fun b3=>au ?_));refine bg rfl afi fun iZ qG=>?_;have A8:ck iZ=L7.1:=by rw[qG,L9];rfl
 have jG:(pK (cv hH)).2=0:=by rw[L9];exact ae8
 have afj:=afh A8 (by decide+kernel);refine Gs ?_;refine ag (aK (v:= .agg (dv iZ)) rfl rfl) (ag (aK (v:= .int .i64 ((pK (cv hH)).2)) rfl rfl) (bt fun b5=>aO ?_));refine ag (iQ rfl) ?_;refine lO (enc:=ia) (vals:=[_]) [(⟨(mJ [49,48,46,48,46,48,46,48,47,56,32,55]),false⟩:Ch)] rfl rfl rfl (by decide) (by decide) fun jb=>?_;refine bg rfl afj fun j8 yF=>?_;have vt:ck j8=G7.1:=by rw[yF,A8,TQ];rfl
 have jH:(cA (ck iZ) [(⟨(mJ [49,48,46,48,46,48,46,48,47,56,32,55]),false⟩:Ch)]).2=0:=by rw[A8,TQ];exact ae9
 have TR:cv j8.aq.ae=G7.1.aq.ae:=congrArg (fun z:FV=>z.aq.ae) vt;refine Gs ?_;refine ag (aK (v:= .agg (dv j8)) rfl rfl) (ag (aK (v:= .int .i64 ((cA (ck iZ) [(⟨(mJ [49,48,46,48,46,48,46,48,47,56,32,55]),false⟩:Ch)]).2)) rfl rfl) (bt fun b7=>aO ?_));refine ag (iJ rfl) (bg rfl trivial fun gC C1=>?_);have Dp:ck gC=L8.1:=by rw[C1,TR];rfl
 have jr:(dF (cv j8.aq.ae)).2=0:=by rw[TR];exact afa
 have t41:gC.table.xs=[sL 7]:=(congrArg FV.table Dp).trans afc;refine Gs ?_;refine ag (aK (v:= .agg (dv gC)) rfl rfl) (ag (aK (v:= .int .i64 ((dF (cv j8.aq.ae)).2)) rfl rfl) (bt fun b9=>aO ?_));refine bg rfl trivial fun lI wY=>?_;have jI:oz gC.table.xs 32=0:=by rw[t41];exact afd
 have f1:rn lI.bits lI.ns.xs tX=0:=by rw[wY.1,wY.2,t41];exact afe
 have f2:yi lI.bits lI.ns.xs tX=8:=by rw[wY.1,wY.2,t41];exact aff
 have f3:yj lI.bits lI.ns.xs tX=7:=by rw[wY.1,wY.2,t41];exact afg
 have jJ:=afb;refine Gs ?_;refine ag (aK (v:= .agg (dJ lI)) rfl rfl) (ag (aK (v:= .int .i64 (oz gC.table.xs 32)) rfl rfl) (bt fun oX=>au ?_));refine ag (da (v:= .agg (bN tX)) rfl (fun w=>by kernel_rfl)) (ay ?_);refine ag (aK (v:= .int .i64 (yi lI.bits lI.ns.xs tX)) rfl rfl) (ag (aK (v:= .int .u16 ((yj lI.bits lI.ns.xs tX).toNat:Nat)) rfl rfl) (ag (aK (v:= .int .i64 (rn lI.bits lI.ns.xs tX)) rfl rfl) (c6 ?_)));refine nu rfl rfl rfl (by simp[jJ,z21,jG,jH,jr,jI,f1,f2,f3]) (Ry.yl (bl rfl)) (nu rfl rfl rfl (by simp[jJ,z21,jG,jH,jr,jI,f1,f2,f3]) (Ry.yl (et rfl rfl rfl)) (ag (vV rfl (by simp[jJ,z21,jG,jH,jr,jI,f1,f2,f3]) rfl rfl) (Gs ?_)));refine nu rfl rfl rfl (by simp[jJ,z21,jG,jH,jr,jI,f1,f2,f3]) (Ry.yl (bl rfl)) (nu rfl rfl rfl (by simp[jJ,z21,jG,jH,jr,jI,f1,f2,f3]) (Ry.yl (et rfl rfl rfl)) (ag (vV rfl (by simp[jJ,z21,jG,jH,jr,jI,f1,f2,f3]) rfl rfl) (Gs ?_)));refine nu rfl rfl rfl (by simp[jJ,z21,jG,jH,jr,jI,f1,f2,f3]) (Ry.yl (bl rfl)) (nu rfl rfl rfl (by simp[jJ,z21,jG,jH,jr,jI,f1,f2,f3]) (Ry.yl (et rfl rfl rfl)) (ag (vV rfl (by simp[jJ,z21,jG,jH,jr,jI,f1,f2,f3]) rfl rfl) (Gs ?_)));refine nu rfl rfl rfl (by simp[jJ,z21,jG,jH,jr,jI,f1,f2,f3]) (Ry.yl (bl rfl)) (nu rfl rfl rfl (by simp[jJ,z21,jG,jH,jr,jI,f1,f2,f3]) (Ry.yl (et rfl rfl rfl)) (ag (vV rfl (by simp[jJ,z21,jG,jH,jr,jI,f1,f2,f3]) rfl rfl) (Gs ?_)));refine nu rfl rfl rfl (by simp[jJ,z21,jG,jH,jr,jI,f1,f2,f3]) (Ry.yl (bl rfl)) (nu rfl rfl rfl (by simp[jJ,z21,jG,jH,jr,jI,f1,f2,f3]) (Ry.yl (et rfl rfl rfl)) (ag (vV rfl (by simp[jJ,z21,jG,jH,jr,jI,f1,f2,f3]) rfl rfl) (Gs ?_)));refine nu rfl rfl rfl (by simp[jJ,z21,jG,jH,jr,jI,f1,f2,f3]) (Ry.yl (bl rfl)) (nu rfl rfl rfl (by simp[jJ,z21,jG,jH,jr,jI,f1,f2,f3]) (Ry.yl (et rfl rfl rfl)) (ag (vV rfl (by simp[jJ,z21,jG,jH,jr,jI,f1,f2,f3]) rfl rfl) (Gs ?_)));refine nu rfl rfl rfl (by simp[jJ,z21,jG,jH,jr,jI,f1,f2,f3]) (Ry.yl (bl rfl)) (nu rfl rfl rfl (by simp[jJ,z21,jG,jH,jr,jI,f1,f2,f3]) (Ry.yl (et rfl rfl rfl)) (ag (vV rfl (by simp[jJ,z21,jG,jH,jr,jI,f1,f2,f3]) rfl rfl) (Gs ?_)));refine nu rfl rfl rfl (by simp[jJ,z21,jG,jH,jr,jI,f1,f2,f3]) (Ry.yl (bl rfl)) (nu rfl rfl rfl (by simp[jJ,z21,jG,jH,jr,jI,f1,f2,f3]) (Ry.yl (et rfl rfl rfl)) (ag (vV rfl (by simp[jJ,z21,jG,jH,jr,jI,f1,f2,f3]) rfl rfl) (ay ?_)));refine Gr fun w1 hw=>?_;exact⟨congrArg (fun b=>Ending.returned (Value.bool b)) ((by simp[f3])),ai.mem hw⟩⟩
end Go.Proofs.YtkggjjnhnjjokaaGreatDoor
namespace Go.Kb
open Go.ax
theorem Ma{x:Int}(h0:0<=x)(h1:x<256):((cO x).toNat:Int)=x:=by
 rw[cO,b8,atD h0 h1];simp;omega
theorem Ba{α:Type}{a b:List α}{n:Nat}(h:n=a.length):(a++b).drop n=b:=by subst h;simp
theorem G8{α:Type}{a b:List α}{n:Nat}(h:n=a.length):(a++b).take n=a:=by subst h;simp
theorem TS{p:PV}{n:Int}(h:lW p n=true): ∃k d:UInt8,∃z:List UInt8,(k.toNat:Int)=p.kind/\(d.toNat:Int)=p.id/\(∀x∈z,x=0)/\
  (dj p n).1=[k,d]++(be p.gen 6++(be p.body.length 2++(p.body++(z++be (nH (jB p n.toNat)) 4))))/\jB p n.toNat=[k,d]++(be p.gen 6++(be p.body.length 2++(p.body++z)))/\(dj p n).2=0/\(z.length:Int)=n -14 -p.body.length:=by
 obtain⟨h1,h2,h3,h4,h5,h6⟩:=ra.1 h;have hf:=r8.1 h1;rw[dO,if_pos h1]at h6;refine⟨cO p.kind,cO p.id,List.replicate (n.toNat -4 -10 -p.body.length) 0,Ma (by omega) (by omega),Ma h3 (by omega),fun x hx=>List.eq_of_mem_replicate hx,?_,?_,?_,?_⟩
 ·
  rw[dj,if_pos h];simp only[jB,aq6]
 ·
  simp only[jB,aq6]
 ·
  rw[dj,if_pos h]
 ·
  rw[arK];omega
theorem Dq{p:PV}{n:Int}(h:lW p n=true):((dj p n).1.length:Int)=n:=by
 obtain⟨k,d,z,_,_,_,e,_,_,hz⟩:=TS h;rw[e];simp only[af0,aqQ,aqS,jv];omega
theorem Mc{p:PV}{n:Int}(h:lW p n=true):cD (dj p n).1=(p,0):=by
 have hl:=Dq h;obtain⟨k,d,z,hk,hd,hz,e,eB,_,qA⟩:=TS h;obtain⟨h1,h2,h3,h4,h5,h6⟩:=ra.1 h;have hf:=r8.1 h1;have Az:=h6;rw[dO,if_pos h1]at Az;have hn:((dj p n).1.length:Int)=n:=hl;generalize hc:nH (jB p n.toNat)=C at e;have hC:C<2^32:=by rw[←hc];exact Jn _
 generalize hb:(dj p n).1=b at*;have e4:b=jB p n.toNat++be C 4:=by rw[e,eB];simp only[aq6]
 have l4:b.length -4=(jB p n.toNat).length:=by rw[e4,af0,jv];omega
 have ic:lX b=jB p n.toNat:=by
  rw[lX,l4,ase,Nat.sub_zero,e4];exact G8 rfl
 have GC:de (xY b)=C:=by
  rw[xY,l4];have:b.drop (jB p n.toNat).length=be C 4:=by rw[e4];exact Ba rfl
  rw[this,aq5 (by rw[jv];omega),E5,arF hC]
 have qE:b.getD 0 0=k:=by rw[e];rfl
 have tU:b.getD 1 0=d:=by rw[e];rfl
 have zy:b.drop 2=be p.gen 6++(be p.body.length 2++(p.body++(z++be C 4))):=by rw[e];exact Ba rfl
 have TT:b.drop 8=be p.body.length 2++(p.body++(z++be C 4)):=by
  rw[show(8:Nat)=2+6 from rfl,←asS,zy];exact Ba (by rw[jv])
 have afk:b.drop 10=p.body++(z++be C 4):=by
  rw[show(10:Nat)=8+2 from rfl,←asS,TT];exact Ba (by rw[jv])
 have afl:de ((b.drop 2).take (8 -2))=p.gen:=by
  rw[zy,G8 (by rw[jv]),E5,arF (Nat.lt_of_lt_of_eq h5 (by decide))]
 have Md:hU b=p.body.length:=by
  rw[hU,TT,G8 (by rw[jv]),E5,arF (by omega)]
 have TU:uW b={p with body:=[]}:=by
  rw[uW,afl,qE,tU];obtain⟨pk,pi,pg,pb⟩:=p;simp only at hk hd;simp only[hk,hd]
 have afm:jT b=false:=by
  cases Gu:jT b with
  |false=>rfl
  |true=>
   have h9:=Ct.1 Gu k (by rw[e];simp);rw[h9]at hk;have:((255:UInt8).toNat:Int)=255:=by decide
   omega
 have afn:oI b=true:=by
  have hm:lW (uW b) b.length=true:=by
   rw[TU,hn];exact ra.2 ⟨h1,h2,h3,h4,h5,by rw[dO,if_pos h1];simp only[aqS];omega⟩
  rw[oI,hm,Md,hn,Bool.and_true,decide_eq_true_eq];exact h6
 have hzero:wy (nM b)=true:=by
  refine JJ.2 fun x hx=>hz x ?_;have afo:(lX b).drop (10+hU b)=z:=by
   rw[ic,Md,eB,←asS];have:([k,d]++(be p.gen 6++(be p.body.length 2++(p.body++z)))).drop 10=p.body++z:=by
    rw[show[k,d]++(be p.gen 6++(be p.body.length 2++(p.body++z)))=([k,d]++be p.gen 6++be p.body.length 2)++(p.body++z) by simp only[aq6]];exact Ba (by simp only[af0,aqQ,aqS,jv])
   rw[this];exact Ba rfl
  rw[nM,afo]at hx;exact asN hx
 have afp:(b.drop 10).take (10+hU b -10)=p.body:=by
  rw[afk,Md];exact G8 (by omega)
 rw[cD,if_neg (by rw[hn,h1];simp),if_neg (by rw[afm];simp),if_neg (by rw[GC,ic,hc];exact fun h=>h rfl),if_neg (by rw[afn];simp),if_neg (by rw[hzero];simp),TU,afp]
theorem afq{x:Int}(h0:0<=x)(h1:x<=65535):((s9 (cO (x/256)) (cO x)).toNat:Int)=x:=by
 have e2:((cO x).toNat:Int)=x%256:=by
  rw[cO,b8];simp;omega
 have e1:=Ma (x:=x/256) (by omega) (by omega);rw[Iq];omega
theorem TV: ∀(l:List Int) (i:Nat) (x:Int),l[i]? =some x->(gG l).getD (2*i) 0=cO (x/256)/\(gG l).getD (2*i+1) 0=cO x
 |y::r,0,x,h=>by obtain rfl:y=x:=by simpa using h
                 exact⟨rfl,rfl⟩
 |y::r,i+1,x,h=>by
  have h2:=TV r i x (by simpa using h);have e:gG (y::r)=cO (y/256)::cO y::gG r:=rfl;rw[e,show 2*(i+1)=2*i+1+1 by omega];exact h2
theorem afr{l:List Int}(h: ∀x∈l,xZ x=true):pH (gG l)=l:=by
 refine arS fun i=>?_;rcases aqX i l.length with hi|hi
 ·
  obtain⟨x,hx⟩: ∃x,l[i]? =some x:=⟨l[i],aqR hi⟩;obtain⟨e1,e2⟩:=TV l i x hx;have gz:=Cu.1 (h x (anc hx));rw[pH,aq1,Al,asr (by omega),hx,arE,rb,e1,e2,afq gz.1 gz.2]
 rw[aqV hi,aqV (by rw[FE,Al];omega)]
theorem Me{r:RV}{n:Int}(h:oJ r n=true):lW ⟨2,max 0 ((r.at_.length:Int) -1),r.gen,gG r.at_⟩ n=true:=by
 obtain⟨h1,h2,h3,h4⟩:=wz.1 h;have hf:nL n=true:=by
  cases hf:nL n with
  |true=>rfl
  |false=>rw[dO,if_neg (by rw[hf];simp)]at h1;exact absurd rfl h1
 rw[ki]at h3;have hr:dO n=n -16:=by rw[dO,if_pos hf]
 refine ra.2 ⟨hf, .inr rfl,?_,?_,h2,?_⟩
 ·
  show 0<=max 0 _;omega
 ·
  show max 0 _<(64:Int);omega
 show((gG r.at_).length:Int)<=_;rw[Al];omega
theorem afs{r:RV}{n:Int}(h:oJ r n=true):bC (cS r n).1=(r,0):=by
 have hp:=Mc (Me h);have h4:=(wz.1 h).2.2.2;rw[cS,if_pos h,bC,hp];have hl:(gG r.at_).length/2=r.at_.length:=by rw[Al];omega
 rw[if_neg (by simp),if_neg (by simp),if_neg,afr h4];simp only[uY,Bool.not_eq_false,alM,decide_eq_true_eq];refine⟨⟨trivial,by rw[Al];omega⟩,?_⟩;rw[hl]
theorem TW{r:RV}{n:Int}(h:oJ r n=true):((cS r n).1.length:Int)=n:=by
 rw[cS,if_pos h];exact Dq (Me h)
theorem aft{r:RV}{n:Int}(h:(cS r n).2=0):oJ r n=true:=by
 cases hm:oJ r n with
 |true=>rfl
 |false=>rw[cS,if_neg (by rw[hm];simp)]at h;cases h
theorem TX{p:PV}{n:Int}(h:(dj p n).2=0):lW p n=true:=by
 cases hm:lW p n with
 |true=>rfl
 |false=>rw[dj,if_neg (by rw[hm];simp)]at h;cases h
theorem tY{c:CV}{b:Nat}{o:Int}{f:Bool}{B:BV}(hb:b<c.blocks.length)(k:Int):ak {c with ops:=o,off:=f,blocks:=c.blocks.set b B} k=if k.toNat=b then B else ak c k:=by
 simp only[ak,List.getD,arD]
 by_cases h:b=k.toNat
 ·
  rw[if_pos h,if_pos (by omega),if_pos h.symm];rfl
 rw[if_neg h,if_neg (fun g=>h g.symm)]
structure Kd(L:List Int)(c d:CV):Prop where
 bR:dK c d
 ok:aX c=true->aX d=true
 n5:d.aU=c.aU
 G9: ∀b:Int,(ak c b).bad=true->ak d b=ak c b
 on:c.off=false->(∀f∈c.aU,f.cut=false)->d.off=false
 ops:c.ops<=d.ops
 nm: ∀n∈L,n≠0->kI c (n -1)=true->kI d (n -1)=true/\bK d (n -1)=bK c (n -1)
structure Kp(L:List Int)(c d:CV):Prop extends Kd L c d where
 r0: ∀b:Int,b<2->(ak d b).pages=(ak c b).pages/\(ak d b).used=(ak c b).used
theorem Kd.c8(L:List Int)(c:CV):Kd L c c:=⟨.c8 c,id,rfl,fun _ _=>rfl,fun h _=>h,arU _,fun _ _ _ h=>⟨h,rfl⟩⟩
theorem Kp.c8(L:List Int)(c:CV):Kp L c c:=⟨.c8 L c,fun _ _=>⟨rfl,rfl⟩⟩
theorem Kd.trans{L:List Int}{c d e:CV}(h:Kd L c d)(g:Kd L d e):Kd L c e where
 bR:=h.bR.trans g.bR
 ok:=fun k=>g.ok (h.ok k)
 n5:=g.n5.trans h.n5
 G9:=fun b hb=>by
  have h1:=h.G9 b hb;rw[←h1]at hb;exact(g.G9 b hb).trans h1
 on:=fun h1 h2=>g.on (h.on h1 h2) (by rw[h.n5];exact h2)
 ops:=Int.le_trans h.ops g.ops
 nm:=fun n hn h0 hp=>by
  obtain⟨h1,h2⟩:=h.nm n hn h0 hp;obtain⟨g1,g2⟩:=g.nm n hn h0 h1;exact⟨g1,g2.trans h2⟩
theorem Kp.trans{L:List Int}{c d e:CV}(h:Kp L c d)(g:Kp L d e):Kp L c e:=
 ⟨h.toKd.trans g.toKd,fun b hb=>⟨(g.r0 b hb).1.trans (h.r0 b hb).1,(g.r0 b hb).2.trans (h.r0 b hb).2⟩⟩
theorem Kd.sub{L M:List Int}{c d:CV}(h:Kd L c d)(hs: ∀n∈M,n∈L):Kd M c d:={h with nm:=fun n hn=>h.nm n (hs n hn)}
theorem Kp.sub{L M:List Int}{c d:CV}(h:Kp L c d)(hs: ∀n∈M,n∈L):Kp M c d:=⟨h.toKd.sub hs,h.r0⟩
theorem Mf{L:List Int}{c:CV}{b:Int}{o:Int}{f:Bool}{B:BV}(hh:gV c b=true)(hk:aX c=true->aX {c with ops:=o,off:=f,blocks:=c.blocks.set b.toNat B}=true)(afu:(ak c b).bad=true->B=ak c b)
  (fJ:c.off=false->(∀f∈c.aU,f.cut=false)->f=false) (ho:c.ops<=o)
  (hn: ∀n∈L,n≠0->kI c (n -1)=true->(n -1)/c.pages=b->(n -1)%c.pages<B.used/\B.pages.getD ((n -1)%c.pages).toNat []=(ak c b).pages.getD ((n -1)%c.pages).toNat []):
  Kd L c {c with ops:=o,off:=f,blocks:=c.blocks.set b.toNat B} where
 bR:=⟨rfl,rfl,by simp⟩
 ok:=hk
 n5:=rfl
 G9:=fun k hb=>by
  obtain⟨_,h2,h3⟩:=gW.1 hh;rw[tY (by omega)];split
  ·
   rename_i e;have e2:ak c k=ak c b:=by simp only[ak,e]
   rw[e2]at hb⊢;exact afu hb
  ·
   rfl
 on:=fJ
 ops:=ho
 nm:=fun n hm h0 hp=>by
  obtain⟨_,h2,h3⟩:=gW.1 hh;obtain⟨p1,p2,p3⟩:=mu.1 hp;have e:=tY (c:=c) (o:=o) (f:=f) (B:=B) (show b.toNat<c.blocks.length by omega) ((n -1)/c.pages)
  by_cases h:(n -1)/c.pages=b
  ·
   rw[h,if_pos rfl]at e;obtain⟨g1,g2⟩:=hn n hm h0 hp h;refine⟨mu.2 ⟨p1,by simpa using p2,?_⟩,?_⟩
   ·
    show _<(ak _ ((n -1)/c.pages)).used;rw[h,e];exact g1
   ·
    show(ak _ ((n -1)/c.pages)).pages.getD _ []=(ak c ((n -1)/c.pages)).pages.getD _ [];rw[h,e];exact g2
  ·
   rw[if_neg (by omega)]at e;refine⟨mu.2 ⟨p1,by simpa using p2,?_⟩,?_⟩
   ·
    show _<(ak _ ((n -1)/c.pages)).used;rw[e];exact p3
   ·
    show(ak _ ((n -1)/c.pages)).pages.getD _ []=(ak c ((n -1)/c.pages)).pages.getD _ [];rw[e]
theorem Kd.roots{L:List Int}{c:CV}{b:Int}{o:Int}{f:Bool}{B:BV}(hh:gV c b=true)(h2:2<=b)(h:Kd L c {c with ops:=o,off:=f,blocks:=c.blocks.set b.toNat B}):Kp L c {c with ops:=o,off:=f,blocks:=c.blocks.set b.toNat B}:=
 ⟨h,fun k hk=>by
  obtain⟨_,h3,h4⟩:=gW.1 hh;rw[tY (by omega),if_neg (by omega)];exact⟨rfl,rfl⟩⟩
theorem TY{c:CV}(h: ∀f∈c.aU,f.cut=false):((bq c).2&&(bq c).1.cut)=false:=by
 rw[bq]
 cases hf:c.aU.find? fun f=>decide (f.op=c.ops)with
 |none=>rfl
 |some x=>simp only[h x (as0 hf),Bool.and_false]
theorem afv{L:List Int}{c:CV}{b:Int}{p:List UInt8}:Kd L c (gy c b (ak c b).used p):=by
 by_cases h:nK c b (ak c b).used p=true/\c.off=false/\(ak c b).bad=false/\(ak c b).used=(ak c b).used
 ·
  have e:gy c b (ak c b).used p=iq c b (ak c b).used p:=if_pos h;have hk:=JW (c:=c) (b:=b) (g:=(ak c b).used) (p:=p);rw[e]at hk;obtain⟨h1,h2,h3,_⟩:=h;obtain⟨j1,j2,j3,j4,j5⟩:=jA.1 h1;rw[e,iq];refine Mf j1 hk (fun g=>by rw[h3]at g;cases g) (fun _ g=>TY g) (by omega) fun n _ _ hp hb=>?_;obtain⟨p1,p2,p3⟩:=mu.1 hp;rw[hb]at p3;have h0:0<=(n -1)%c.pages:=asZ _ (by omega);refine⟨by simp only;omega,?_⟩;simp only[List.getD];rw[arj (by omega)]
 rw[gy,if_neg h];exact .c8 L c
theorem afw{L:List Int}{c:CV}{b:Int}:Kd L c (lT c b):=by
 by_cases h:pG c b=0
 ·
  have hk:=QR (c:=c) (b:=b);rw[lT,if_pos h]at hk⊢;have hh:gV c b=true:=by
   cases hq:gV c b with
   |true=>rfl
   |false=>rw[pG,if_neg (by rw[hq];simp)]at h;cases h
  refine Mf (o:=c.ops) (f:=c.off) hh hk (fun g=>?_) (fun g _=>g) (arU _) fun n _ _ hp hb=>?_
  ·
   cases hB:ak c b with|mk a1 a2 a3 a4=>rw[hB]at g;simp only at g;rw[g]
  obtain⟨p1,p2,p3⟩:=mu.1 hp;rw[hb]at p3;exact⟨p3,rfl⟩
 rw[lT,if_neg h];exact .c8 L c
theorem TZ{c:CV}{b k:Int}:(ak (lT c b) k).pages=(ak c k).pages/\(ak (lT c b) k).used=(ak c k).used:=by
 rw[lT];split
 ·
  rename_i h;have hh:gV c b=true:=by
   cases hq:gV c b with
   |true=>rfl
   |false=>rw[pG,if_neg (by rw[hq];simp)]at h;cases h
  obtain⟨_,h3,h4⟩:=gW.1 hh;have e:=tY (c:=c) (o:=c.ops) (f:=c.off) (B:={ak c b with bad:=true}) (show b.toNat<c.blocks.length by omega) k
  rw[e];split
  ·
   rename_i e2;have e3:ak c k=ak c b:=by simp only[ak,e2]
   rw[e3];exact⟨rfl,rfl⟩
  exact⟨rfl,rfl⟩
 exact⟨rfl,rfl⟩
theorem Dr{L:List Int}{c:CV}{b e:Int}:Kp L c (iX c b e):=by
 rw[iX];split
 ·
  exact⟨afw,fun k _=>TZ⟩
 exact .c8 L c
theorem Ha{L:List Int}{c:CV}{b:Int}{p:List UInt8}:Kd L c (bA c b p):=afv.trans Dr.toKd
theorem T0{c:CV}{b k g:Int}{p:List UInt8}(h:k.toNat≠b.toNat):ak (gy c b g p) k=ak c k:=by
 rw[gy];split
 ·
  rename_i hk;obtain⟨_,h3,h4⟩:=gW.1 (jA.1 hk.1).1;rw[iq,tY (by omega),if_neg h]
 rfl
theorem Hb{L:List Int}{c:CV}{b:Int}{p:List UInt8}(h2:2<=b):Kp L c (bA c b p):=
 ⟨Ha,fun k hk=>by
  have h1:=(Dr (L:=L) (c:=gy c b (ak c b).used p) (b:=b) (e:=bx c b p)).r0 k hk;rw[bA,h1.1,h1.2,T0 (by omega)];exact⟨rfl,rfl⟩⟩
def kv(L:List Int)(c:CV)(b:Int):Prop:= ∀n∈L,n≠0->(n -1)/c.pages≠b
theorem T1{L:List Int}{c:CV}{b:Int}(hd: ∀n∈L,n≠0->kI c (n -1)=true->(n -1)/c.pages≠b):Kd L c (fT c b):=by
 by_cases h:oD c b=true/\c.off=false/\(ak c b).bad=false
 ·
  have hk:=JX (c:=c) (b:=b);rw[fT,if_pos h]at hk⊢;obtain⟨h1,h2,h3⟩:=h;have hh:=(pF.1 h1).1;rw[kH]at hk⊢;exact Mf hh hk (fun g=>by rw[h3]at g;cases g) (fun _ g=>TY g) (by omega) fun n hn h0 hp hb=>absurd hb (hd n hn h0 hp)
 rw[fT,if_neg h];exact .c8 L c
theorem afx{L:List Int}{c:CV}{b:Int}(hd:kv L c b):Kd L c (fT c b):=T1 fun n hn h0 _=>hd n hn h0
theorem afy{L:List Int}{c:CV}{b:Int}(hb:b<2):Kd L c (dk c b):=(T1 fun n _ _ hp=>by have:=(mu.1 hp).1;omega).trans Dr.toKd
theorem afz{L:List Int}{c:CV}{b:Int}(hd:kv L c b):Kd L c (dk c b):=(afx hd).trans Dr.toKd
theorem Bb{c:CV}{b k:Int}(h:k.toNat≠b.toNat):ak (fT c b) k=ak c k:=by
 rw[fT];split
 ·
  rename_i hk;obtain⟨_,h3,h4⟩:=gW.1 (pF.1 hk.1).1;rw[kH,tY (by omega),if_neg h]
 rfl
theorem afA{L:List Int}{c:CV}{b:Int}(h2:2<=b)(hd:kv L c b):Kp L c (dk c b):=
 ⟨afz hd,fun k hk=>by
  have h1:=(Dr (L:=L) (c:=fT c b) (b:=b) (e:=dV c b)).r0 k hk;rw[dk,h1.1,h1.2,Bb (by omega)];exact⟨rfl,rfl⟩⟩
theorem kv.bR{L:List Int}{c d:CV}{b:Int}(h:kv L c b)(g:dK c d):kv L d b:=fun n hn h0=>by rw[g.pages];exact h n hn h0
theorem T2{L:List Int}: ∀(n:Nat) {c:CV} {b:Int},2<=b->kv L c b->Kp L c (fB n c b).1
 |0,c,b,h2,hd=>afA h2 hd
 |n+1,c,b,h2,hd=>by
  rw[fB];split
  ·
   exact Hb h2
  exact(Hb h2).trans (T2 n h2 (hd.bR (iv _ _ _)))
theorem yO{L:List Int}{c:CV}{b:Int}(h2:2<=b)(hd:kv L c b):Kp L c (cz c b).1:=T2 _ h2 hd
theorem afB{c:CV}{b g:Int}{p:List UInt8}(h:kh c b g p=7):(gy c b g p).off=true:=by
 rw[kh]at h
 by_cases h1:nK c b g p=true
 ·
  rw[if_pos h1]at h
  by_cases h2:c.off=true
  ·
   rw[gy,if_neg (fun k=>by rw[h2]at k;cases k.2.1)];exact h2
  rw[if_neg h2]at h
  by_cases h3:(ak c b).bad=true\/g≠(ak c b).used
  ·
   rw[if_pos h3]at h;cases h
  rw[if_neg h3]at h
  by_cases h4:(bq c).2=true
  ·
   rw[if_pos h4,lS]at h;have h5:(bq c).1.cut=true:=by
    cases hc:(bq c).1.cut with
    |true=>rfl
    |false=>rw[if_neg (by rw[hc];simp)]at h;cases h
   have AW:(ak c b).bad=false:=by
    cases hb:(ak c b).bad with
    |true=>exact absurd (.inl hb) h3
    |false=>rfl
   rw[gy,if_pos ⟨h1,by simpa using h2,AW,arf fun k=>h3 (.inr k)⟩,iq,h4,h5];rfl
  rw[if_neg h4]at h;cases h
 rw[if_neg h1]at h;cases h
theorem T3(c:CV)(b e:Int):(iX c b e).off=c.off:=by
 rw[iX];split
 ·
  rw[lT];split<;>rfl
 rfl
theorem Hc{c:CV}{b:Int}{p:List UInt8}(h:bx c b p=7):(bA c b p).off=true:=by rw[bA,T3];exact afB h
theorem T4{c:CV}{b:Int}(h:dV c b=7):(dk c b).off=true:=by
 rw[dk,T3];rw[dV]at h
 by_cases h1:oD c b=true
 ·
  rw[if_pos h1]at h
  by_cases h2:c.off=true
  ·
   rw[fT,if_neg (fun k=>by rw[h2]at k;cases k.2.1)];exact h2
  rw[if_neg h2]at h
  by_cases h3:(ak c b).bad=true
  ·
   rw[if_pos h3]at h;cases h
  rw[if_neg h3]at h
  by_cases h4:(bq c).2=true
  ·
   rw[if_pos h4,lS]at h;have h5:(bq c).1.cut=true:=by
    cases hc:(bq c).1.cut with
    |true=>rfl
    |false=>rw[if_neg (by rw[hc];simp)]at h;cases h
   rw[fT,if_pos ⟨h1,by simpa using h2,by simpa using h3⟩,kH,h4,h5];rfl
  rw[if_neg h4]at h;cases h
 rw[if_neg h1]at h;cases h
theorem T5: ∀(n:Nat) {c:CV} {b:Int},(fB n c b).2=7->(fB n c b).1.off=true
 |0,c,b,h=>T4 h
 |n+1,c,b,h=>by
  rw[fB]at h⊢
  by_cases h0:bx c b (iu c)≠0
  ·
   rw[if_pos h0]at h⊢;exact Hc h
  rw[if_neg h0]at h⊢;exact T5 n h
theorem Ds{c:CV}{b:Int}(h:(cz c b).2=7):(cz c b).1.off=true:=T5 _ h
def Pl(c:CV)(a:List Int):Prop:=(∀(i:Nat) (y:Int),a[i]? =some y->y≠0->nN c (i:Int) y=true)/\ ∀(i j:Nat) (y:Int),a[i]? =some y->a[j]? =some y->y≠0->i=j
theorem Mg{a:List Int}{i:Nat}{y:Int}:(a.take i).contains y=true↔ ∃j,j<i/\a[j]? =some y:=by
 rw[asb,List.mem_take_iff_getElem];constructor
 ·
  rintro⟨j,hj,e⟩;exact⟨j,by omega,by rw[aqR (by omega),e]⟩
 rintro⟨j,hj,e⟩;obtain⟨hl,e2⟩:=ad2.1 e;exact⟨j,by omega,e2⟩
theorem T6{c:CV}{a:List Int}:uZ c a=true↔Pl c a:=by
 rw[Cv];constructor
 ·
  intro h;have hp: ∀(i:Nat) (y:Int),a[i]? =some y->y≠0->(a.take i).contains y=false/\nN c (i:Int) y=true:=fun i y hy h0=>by
   have hi:=(ad2.1 hy).1;have h1:=h i hi;rw[Rs (pI hy),decide_eq_false h0,atp,alM,arX]at h1;exact h1
  refine⟨fun i y hy h0=>(hp i y hy h0).2,fun i j y hi hj h0=>?_⟩;rcases atC i j with hl|hl|hl
  ·
   have:=(hp j y hj h0).1;rw[Mg.2 ⟨i,hl,hi⟩]at this;cases this
  ·
   exact hl
  have:=(hp i y hi h0).1;rw[Mg.2 ⟨j,hl,hj⟩]at this;cases this
 rintro⟨h1,h2⟩ i hi;have hy:=aqR hi;rw[Rs (pI hy)]
 by_cases h0:a[i]=0
 ·
  rw[decide_eq_true h0];rfl
 rw[h1 i _ hy h0,Bool.and_true,ar4];right
 cases hc:(a.take i).contains a[i]with
 |false=>rfl
 |true=>
  obtain⟨j,hj,e⟩:=Mg.1 hc;have:=h2 i j _ hy e h0;omega
theorem Dt{c:CV}{i n:Int}(h:nN c i n=true):kI c (n -1)=true/\(cD (bK c (n -1))).2=0/\(cD (bK c (n -1))).1.kind=1/\(cD (bK c (n -1))).1.id=i:=by
 rw[nN,alM,FF]at h;simp only[alM,decide_eq_true_eq]at h;exact⟨h.1,h.2.1.1,h.2.1.2,h.2.2⟩
theorem afC{c:CV}{i n:Int}{p:PV}(h:kI c (n -1)=true)(h2:cD (bK c (n -1))=(p,0))(hk:p.kind=1)(hi:p.id=i):nN c i n=true:=by
 rw[nN,h,h2,FF];simp[hk,hi]
theorem Pl.kd{c d:CV}{a L:List Int}(h:Pl c a)(k:Kd L c d)(hs: ∀n∈a,n∈L):Pl d a:=
 ⟨fun i y hy h0=>by
  have h1:=h.1 i y hy h0;obtain⟨g1,g2⟩:=k.nm y (hs y (anc hy)) h0 (Dt h1).1;rw[nN,g1,g2];rw[nN,(Dt h1).1]at h1;exact h1,h.2⟩
theorem He{c d:CV}{a L:List Int}(h:Pl c a)(k:Kd L c d)(hs: ∀n∈a,n∈L):a.map (eK d)=a.map (eK c):=by
 refine arT fun y hy=>?_
 by_cases h0:y=0
 ·
  rw[h0];rfl
 obtain⟨i,hi⟩:=arc hy;obtain⟨_,g2⟩:=k.nm y (hs y hy) h0 (Dt (h.1 i y hi h0)).1;rw[eK,eK,iV,iV,g2]
theorem Pl.place{c:CV}{a:List Int}(h:Pl c a){n:Int}(hn:n∈a)(h0:n≠0):kI c (n -1)=true:=by
 obtain⟨i,hi⟩:=arc hn;exact(Dt (h.1 i n hi h0)).1
structure ft(x:VV):Prop where
 bears:fV x.ae=true
 roots:(bO x.ae).2.2=0
 used:(bO x.ae).1%x.ae.pages<(ak x.ae ((bO x.ae).1/x.ae.pages)).used
 pl:Pl x.ae x.at_
 at_:(bO x.ae).2.1.at_=x.at_
 gen:(bO x.ae).2.1.gen=x.gen
 last:(bO x.ae).1/x.ae.pages=x.last
theorem Bc{x:VV}:lY x=true↔ft x:=by
 rw[abq,alM];constructor
 ·
  rintro⟨h1,h2⟩;simp only[alM,decide_eq_true_eq]at h2;obtain⟨⟨⟨g1,g2⟩,g3⟩,g4⟩:=h2;rw[u9]at g1 g2 g3 g4
  by_cases k1:(bO x.ae).2.2≠0
  ·
   rw[if_pos k1]at g1;exact absurd g1 k1
  rw[if_neg k1]at g1 g2 g3 g4
  by_cases k2:mv x.ae=false
  ·
   rw[if_pos k2]at g1;cases g1
  rw[if_neg k2]at g2 g3 g4;have Mh:mv x.ae=true:=by simpa using k2
  rw[mv,alM,decide_eq_true_eq]at Mh;refine⟨h1,by simpa using k1,Mh.1,?_,g2.symm,g3.symm,g4.symm⟩;rw[g2];exact T6.1 Mh.2
 intro h;refine⟨h.bears,?_⟩;have hl:mv x.ae=true:=by
  rw[mv,alM,decide_eq_true_eq];exact⟨h.used,by rw[h.at_];exact T6.2 h.pl⟩
 rw[u9,if_neg (fun g=>g h.roots),if_neg (by rw[hl];simp)];simp only[h.at_,h.gen,h.last,decide_true,asA]
theorem afD{L:List Int}{c d:CV}(k:Kp L c d):bO d=bO c:=by
 rw[bO,bO,(k.r0 0 (by decide)).1,(k.r0 1 (by decide)).1]
theorem afE{L:List Int}{c d:CV}(k:Kd L c d)(h:fV c=true):fV d=true:=by
 obtain⟨h1,h2,h3,h4⟩:=fM.1 h;exact fM.2 ⟨k.ok h1,by rw[k.bR.len];exact h2,by rw[k.bR.pages];exact h3,by rw[k.bR.size];exact h4⟩
theorem Du{c:CV}(h:fV c=true):((ak c 0).pages.length:Int)=c.pages/\((ak c 1).pages.length:Int)=c.pages:=by
 obtain⟨h1,h2,h3,h4⟩:=fM.1 h;exact⟨(fc.1 (sd h1 (by decide) (by omega))).1,(fc.1 (sd h1 (by decide) (by omega))).1⟩
theorem T7{c:CV}(h:fV c=true):0<=(bO c).1/\(bO c).1<2*c.pages:=by
 obtain⟨h1,h2⟩:=Du h;obtain⟨_,_,h3,_⟩:=fM.1 h;have:=JO (l:=(ak c 0).pages++(ak c 1).pages) (by rw[af0];omega);rw[af0]at this;rw[bO];omega
theorem ft.kp{x:VV}(h:ft x){d:CV}(k:Kp x.at_ x.ae d):ft {x with ae:=d}:=by
 have e:=afD k;have ep:=k.bR.pages;have hr:=T7 h.bears;have hp:0<x.ae.pages:=by have:=(fM.1 h.bears).2.2.1;omega
 exact⟨afE k.toKd h.bears,by show(bO d).2.2=0;rw[e];exact h.roots,by
  show(bO d).1%d.pages<(ak d ((bO d).1/d.pages)).used;rw[e,ep,(k.r0 _ (Int.ediv_lt_of_lt_mul hp hr.2)).2];exact h.used,h.pl.kd k.toKd fun _ g=>g,by show(bO d).2.1.at_=_;rw[e];exact h.at_,by show(bO d).2.1.gen=_;rw[e];exact h.gen,by show(bO d).1/d.pages=_;rw[e,ep];exact h.last⟩
theorem T8{l:List Int}{n:Int}(h0:n≠0): ∀k,n∈l.take k-> ∃j,j<k/\j<l.length/\l.getD j 0=n/\mX l j=true
 |0,h=>by simp at h
 |k+1,h=>by
  by_cases hk:n∈l.take k
  ·
   obtain⟨j,h1,h2⟩:=T8 h0 k hk;exact⟨j,by omega,h2⟩
  rw[aq0,aqZ]at h;rcases h with h|h
  ·
   exact absurd h hk
  have hx:l[k]? =some n:=by simpa[Option.mem_toList]using h
  refine⟨k,by omega,(ad2.1 hx).1,pI hx,?_⟩;rw[mX,pI hx,decide_eq_true h0,arH,arX]
  cases hc:(l.take k).contains n with
  |false=>rfl
  |true=>exact absurd (asb.1 hc) hk
theorem T9{pages:Int}{l:List Int}{i:Nat}(h:jU pages l l.length i=0): ∀n∈l,n≠0->(n -1)/pages≠(i:Int)+2:=by
 intro n hn h0 hb;obtain⟨j,h1,h2,h3,h4⟩:=T8 h0 l.length (by rw[ark];exact hn);rw[jU,arb]at h;have hm:j∈(List.range l.length).filter fun j=>mX l j&&decide ((l.getD j 0 -1)/pages=(i:Int)+2):=ari.2 ⟨List.mem_range.2 h2,by rw[h4,h3,decide_eq_true hb];rfl⟩;rw[h]at hm;cases hm
theorem afF{c:CV}{fl:List Int}{i:Nat}{x:az}(h:(av c fl)[i]? =some x)(hb:x.bad=false)(hl:x.live=0):kv fl c ((i:Int)+2):=by
 have hi:=(ad2.1 h).1;rw[ly]at hi;rw[J0 hi]at h;have e:=aqP h;intro n hn h0;refine T9 (l:=fl) ?_ n hn h0;rw[oL]at e;split at e
 ·
  rw[←e]at hb;cases hb
 rw[←e]at hl;simp only[tu]at hl;omega
def rA(c:CV)(fl:List Int)(l:List az):Prop:= ∀(i:Nat) (x:az),l[i]? =some x->x.bad=false->x.live=0->kv fl c ((i:Int)+2)
theorem Hf(c:CV)(fl:List Int):rA c fl (av c fl):=fun _ _ h hb hl=>afF h hb hl
theorem rA.set{c:CV}{fl:List Int}{l:List az}(h:rA c fl l)(i:Nat):rA c fl (l.set i aZ):=by
 intro j x hx hb hl;rw[arD]at hx;split at hx
 ·
  split at hx
  ·
   obtain rfl:=aqP hx;cases hb
  cases hx
 exact h j x hx hb hl
theorem Hg{c:CV}{fl:List Int}{l:List az}(h:rA c fl l){R:az->Bool}{p:Int}(hd:(fA (bQ R l) p).2=true):kv fl c ((fA (bQ R l) p).1+2)/\0<=(fA (bQ R l) p).1:=by
 obtain⟨x,hx,h1,_,h3,h4,_⟩:=oN (fun x h=>(lA h).1) hd;have:=h _ x hx h1 (lA h3).2.1;refine⟨?_,h4⟩;change 0<=(fA (bQ R l) p).1 at h4;change kv fl c ((((fA (bQ R l) p).1.toNat:Nat):Int)+2)at this;rwa [arY h4]at this
theorem Ua{c:CV}{fl:List Int}(hk:aX c=true)(h2:3<=c.blocks.length)(hi:dL (av c fl)≠0)(hb: ¬(jX c fl).2=true):(fA (bQ gh (av c fl)) c.pages).2=true:=by
 have hd:=eQ hk;have dP:=ly c fl;have hw:l5 (bQ gh (av c fl)) c.pages=true:=sa.2 ⟨by rw[wE];omega,by rw[wE];omega,by omega,by omega,fun x hx=>by
  obtain⟨i,hi⟩:=arc hx;obtain⟨y,hy,rfl⟩:=J1 hi;have t:=tD hk (anc hy);have qu:cN=1099511627776:=rfl;unfold hY;split
  ·
   exact rf.2 (by simp only[aZ];omega)
  rename_i hn;have hl:y.live=0:=by
   cases hR:gh y with
   |true=>simpa[gh]using hR
   |false=>exact absurd (.inr hR) hn
  exact rf.2 ⟨by omega,by have:=t.CD;omega,t.Av,t.Q3,t.Q4⟩⟩
 have ri:(jX c fl).2=false:=by simpa using hb
 have J2:=tw hw (show(fo _ _ _ _).2=false from ri);have Aw:0<((av c fl).filter fun x=> !x.bad&&decide (x.live=0)).length:=by rw[dL]at hi;omega
 obtain⟨x,hx⟩:=List.exists_mem_of_length_pos Aw;obtain⟨oO,gz⟩:=ari.1 hx;simp only[alM,arX,decide_eq_true_eq]at gz;have wF:hY gh x=x:=by
  unfold hY;rw[if_neg];rintro(g|g)
  ·
   rw[gz.1]at g;cases g
  rw[show gh x=true by simp[gh,gz.2]]at g;cases g
 have CE:x∈bQ gh (av c fl):=by
  rw[←wF];exact ard oO
 have CF:=J2 x CE;have t:=tD hk oO;have my:lZ x=true:=by
  have: ¬x.used<c.pages:=fun h=>by
   rw[mw,gz.1,decide_eq_true h]at CF;cases CF
  simp only[lZ,gz.1,asR,arH,alM,decide_eq_true_eq];omega
 cases hq:(fA (bQ gh (av c fl)) c.pages).2 with
 |true=>rfl
 |false=>have:=tw hw hq x CE;rw[my]at this;cases this
theorem afG{c:CV}{fl:List Int}{aF:Bool}(hk:aX c=true)(h2:3<=c.blocks.length):Kp fl c (bf c fl aF).1/\((bf c fl aF).2.2=7->(bf c fl aF).1.off=true):=by
 rw[bf]
 by_cases h1:(l6 c fl).2=true
 ·
  rw[if_pos h1];exact⟨.c8 _ _,fun h=>absurd (show(0:Int)=7 from h) (by decide)⟩
 rw[if_neg h1]
 by_cases h3:dL (av c fl)=0\/(dL (av c fl)=1/\aF=false)
 ·
  rw[if_pos h3];exact⟨.c8 _ _,fun h=>absurd (show(5:Int)=7 from h) (by decide)⟩
 rw[if_neg h3]
 by_cases h4:(jX c fl).2=true
 ·
  rw[if_pos h4];exact⟨.c8 _ _,fun h=>absurd (show(0:Int)=7 from h) (by decide)⟩
 rw[if_neg h4];obtain⟨d1,d2⟩:=Hg (Hf c fl) (Ua hk h2 (fun e=>h3 (.inl e)) h4);exact⟨yO (by show 2<=jj c fl+2;change 0<=jj c fl at d2;omega) d1,Ds⟩
theorem Hh{L:List Int}{c:CV}{b:Int}{p:List UInt8}(h2:2<=b)(h:bx c b p=0):kI (bA c b p) (b*c.pages+(ak c b).used)=true/\bK (bA c b p) (b*c.pages+(ak c b).used)=p/\
  0<=b*c.pages+(ak c b).used/\kI c (b*c.pages+(ak c b).used)=false:=by
 obtain⟨h1,h3,h4,h5,e⟩:=pJ h;obtain⟨j1,j2,j3,j4,j5⟩:=jA.1 h1;obtain⟨k1,k2,k3⟩:=gW.1 j1;have hd:(b*c.pages+(ak c b).used)/c.pages=b:=by
  rw[asM,ar8 _ _ (by omega),arR j2 j3,asQ]
 have hm:(b*c.pages+(ak c b).used)%c.pages=(ak c b).used:=by
  rw[asM,atv,atD j2 j3]
 have bS:=(fc.1 (qo j1)).1;rw[e];refine⟨mu.2 ?_,?_,?_,?_⟩
 ·
  show 2<=(b*c.pages+(ak c b).used)/c.pages/\(b*c.pages+(ak c b).used)/c.pages<((c.blocks.set b.toNat _).length:Int)/\(b*c.pages+(ak c b).used)%c.pages<(ak _ ((b*c.pages+(ak c b).used)/c.pages)).used;rw[hd,hm,iq,qt j1,aru];exact⟨h2,k3,by simp only;omega⟩
 ·
  show(ak _ ((b*c.pages+(ak c b).used)/c.pages)).pages.getD ((b*c.pages+(ak c b).used)%c.pages).toNat []=p;rw[hd,hm,iq,qt j1];simp only[List.getD];rw[aq7 (by omega),oC,h5];rfl
 ·
  have:0<=b*c.pages:=asC (by omega) (by omega);omega
 ·
  cases hq:kI c (b*c.pages+(ak c b).used)with
  |false=>rfl
  |true=>
   obtain⟨p1,p2,p3⟩:=mu.1 hq;rw[hd,hm]at p3;omega
structure Dv(fl:List Int)(c d:CV)(n:Int)(p:List UInt8):Prop where
 pos:1<=n
 ok:kI d (n -1)=true
 pg:bK d (n -1)=p
 new: ∀m∈fl,m≠0->kI c (m -1)=true->m≠n
theorem Mi: ∀(n:Nat) {c:CV} {fl:List Int} {aF:Bool} {b:List UInt8},aX c=true->3<=c.blocks.length->(cN -c.ops).toNat<n->
  Kp fl c (iL n c fl aF b).1/\((iL n c fl aF b).2.2=0->Dv fl c (iL n c fl aF b).1 (iL n c fl aF b).2.1 b)/\((iL n c fl aF b).2.2=7->(iL n c fl aF b).1.off=true)
 |0,c,fl,aF,b,_,_,hn=>by omega
 |n+1,c,fl,aF,b,hk,h2,hn=>by
  obtain⟨f1,f2,f3,f4,f5⟩:=J3 (fl:=fl) (aF:=aF) hk h2;obtain⟨k1,k2⟩:=afG (fl:=fl) (aF:=aF) hk h2;rw[iL]
  by_cases h0:(bf c fl aF).2.2=0
  ·
   rw[if_pos h0];obtain⟨g1,g2,g3⟩:=f4 h0;have kp:=k1.trans (Hb (c:=(bf c fl aF).1) (p:=b) (L:=fl) g1)
   by_cases h1:bx (bf c fl aF).1 (bf c fl aF).2.1 b=0
   ·
    rw[if_pos h1];refine⟨kp,fun _=>?_,fun h=>absurd (show(0:Int)=7 from h) (by decide)⟩;obtain⟨q1,q2,q3,q4⟩:=Hh (L:=fl) g1 h1;rw[f2.pages]at q1 q2 q3 q4;have e:(bf c fl aF).2.1*c.pages+(ak (bf c fl aF).1 (bf c fl aF).2.1).used+1 -1=(bf c fl aF).2.1*c.pages+(ak (bf c fl aF).1 (bf c fl aF).2.1).used:=by omega
    refine⟨by simp only;omega,by simp only;rw[e];exact q1,by simp only;rw[e];exact q2,fun m hm h0 hp he=>?_⟩;have:=(k1.nm m hm h0 hp).1;simp only at he;rw[he,e,q4]at this;cases this
   ·
    rw[if_neg h1]
    by_cases h9:bx (bf c fl aF).1 (bf c fl aF).2.1 b≠9
    ·
     rw[if_pos h9];exact⟨kp,fun h=>absurd h h1,Hc⟩
    ·
     rw[if_neg h9];have ho:=tA g3 (p:=b) (.inl (by simpa using h9));have bF:=lu f1 (bf c fl aF).2.1 b;have hl:=f2.trans (iv (bf c fl aF).1 (bf c fl aF).2.1 b);have hle:=sf bF;obtain⟨t1,t2,t3⟩:=Mi n (fl:=fl) (aF:=aF) (b:=b) bF (by rw[hl.len];exact h2) (by omega);refine⟨kp.trans t1,fun h=>?_,t3⟩;have g:=t2 h;exact⟨g.pos,g.ok,g.pg,fun m hm h0 hp=>g.new m hm h0 (kp.nm m hm h0 hp).1⟩
  ·
   rw[if_neg h0]
   by_cases h9:(bf c fl aF).2.2≠9
   ·
    rw[if_pos h9];exact⟨k1,fun h=>absurd h h0,k2⟩
   ·
    rw[if_neg h9];have ho:=f5 (by simpa using h9);have hle:=sf f1;obtain⟨t1,t2,t3⟩:=Mi n (fl:=fl) (aF:=aF) (b:=b) f1 (by rw[f2.len];exact h2) (by omega);refine⟨k1.trans t1,fun h=>?_,t3⟩;have g:=t2 h;exact⟨g.pos,g.ok,g.pg,fun m hm h0 hp=>g.new m hm h0 (k1.nm m hm h0 hp).1⟩
theorem Ub{c:CV}{fl:List Int}{aF:Bool}{p:PV}(hk:aX c=true)(h2:3<=c.blocks.length):
  Kp fl c (cY c fl aF p).1/\((cY c fl aF p).2.2=0->lW p c.size=true/\Dv fl c (cY c fl aF p).1 (cY c fl aF p).2.1 (dj p c.size).1)/\((cY c fl aF p).2.2=7->(cY c fl aF p).1.off=true):=by
 rw[cY];split
 ·
  rename_i h;refine⟨.c8 _ _,fun g=>absurd g h,fun g=>?_⟩;rcases Ax p c.size with e|e
  ·
   exact absurd e h
  ·
   simp only at g;rw[e]at g;cases g
 ·
  rename_i h;obtain⟨t1,t2,t3⟩:=Mi ((cN -c.ops).toNat+1) (fl:=fl) (aF:=aF) (b:=(dj p c.size).1) hk h2 (by omega);exact⟨t1,fun g=>⟨TX (by simpa using h),t2 g⟩,t3⟩
def tZ(bs:List (List UInt8))(l:List (Int×List UInt8)):List (List UInt8):=l.foldl (fun b x=>b.set x.1.toNat x.2) bs
theorem Mj{α β:Type}{f:α->β}{l:List α}{i:Nat}{x:α}:(l.set i x).map f=(l.map f).set i (f x):=by rw[atd]
theorem Pl.zero{c:CV}{a:List Int}(h:Pl c a)(i:Nat):Pl c (a.set i 0):=by
 have hs: ∀(j:Nat) (y:Int),(a.set i 0)[j]? =some y->y≠0->a[j]? =some y:=fun j y hy h0=>by
  rw[arD]at hy;split at hy
  ·
   split at hy
   ·
    exact absurd (aqP hy).symm h0
   cases hy
  exact hy
 exact⟨fun j y hy h0=>h.1 j y (hs j y hy h0) h0,fun j k y hj hk h0=>h.2 j k y (hs j y hj h0) (hs k y hk h0) h0⟩
theorem Pl.put{c d:CV}{a fl:List Int}{i:Nat}{n:Int}{p:PV}{pg:List UInt8}(h:Pl c a)(k:Kd fl c d)(hs: ∀m∈a,m∈fl)(g:Dv fl c d n pg)(hp:cD pg=(p,0))(hk:p.kind=1)(hi:p.id=(i:Int)):Pl d (a.set i n):=by
 have hd:=h.kd k hs;have hn: ∀m∈a,m≠n:=fun m hm e=>by
  have h0:m≠0:=by have:=g.pos;omega
  exact g.new m (hs m hm) h0 (h.place hm h0) e
 have Mk: ∀(j:Nat) (y:Int),(a.set i n)[j]? =some y->(j=i/\y=n)\/(a[j]? =some y/\y≠n):=fun j y hy=>by
  rw[arD]at hy;split at hy
  ·
   rename_i e;split at hy
   ·
    exact .inl ⟨e.symm,(aqP hy).symm⟩
   cases hy
  exact .inr ⟨hy,hn y (anc hy)⟩
 refine⟨fun j y hy h0=>?_,fun j l y hj hl h0=>?_⟩
 ·
  rcases Mk j y hy with⟨rfl,rfl⟩|⟨e,_⟩
  ·
   exact afC g.ok (by rw[g.pg];exact hp) hk hi
  exact hd.1 j y e h0
 rcases Mk j y hj with⟨e1,e2⟩|⟨e1,e2⟩<;>rcases Mk l y hl with⟨e3,e4⟩|⟨e3,e4⟩
 ·
  rw[e1,e3]
 ·
  exact absurd e2 e4
 ·
  exact absurd e4 e2
 exact h.2 j l y e1 e3 h0
theorem Uc{fl:List Int}{c d:CV}{n:Int}{p:PV}{pg:List UInt8}(g:Dv fl c d n pg)(hp:cD pg=(p,0)):eK d n=p.body:=by
 rw[eK,if_neg (by have:=g.pos;omega),iV,g.pg,hp,if_pos rfl]
theorem Hi{v:VV}{aF:Bool}: ∀(l:List (Int×List UInt8)) {c:CV} {a:List Int},aX c=true->3<=c.blocks.length->Pl c v.at_->Pl c a->(∀x∈l,0<=x.1)->
  Kp v.at_ c (gB v aF l c a).1/\((gB v aF l c a).2.2=0->Pl (gB v aF l c a).1 (gB v aF l c a).2.1/\(gB v aF l c a).2.1.map (eK (gB v aF l c a).1)=tZ (a.map (eK c)) l/\(gB v aF l c a).2.1.length=a.length)/\((gB v aF l c a).2.2=7->(gB v aF l c a).1.off=true)
 |[],c,a,_,_,_,ha,_=>⟨.c8 _ _,fun _=>⟨ha,rfl,rfl⟩,fun h=>absurd (show(0:Int)=7 from h) (by decide)⟩
 |x::r,c,a,hk,h2,hv,ha,hid=>by
  have Ud: ∀y∈r,0<=y.1:=fun y hy=>hid y (aq2 _ hy);have uH:=hid x aqU;rw[gB]
  by_cases h0:x.2.length=0
  ·
   rw[if_pos h0];obtain⟨t1,t2,t3⟩:=Hi (v:=v) (aF:=aF) r hk h2 hv (ha.zero x.1.toNat) Ud;refine⟨t1,fun h=>?_,t3⟩;obtain⟨g1,g2,g3⟩:=t2 h;refine⟨g1,?_,by rw[g3,aru]⟩;rw[g2,Mj,show eK c 0=x.2 from(arb.1 h0).symm];rfl
  ·
   rw[if_neg h0];obtain⟨k1,k2,k3⟩:=Ub (fl:=v.at_++a) (aF:=aF) (p:=iA v x) hk h2
   by_cases h1:(cY c (v.at_++a) aF (iA v x)).2.2≠0
   ·
    rw[if_pos h1];exact⟨k1.sub fun n hn=>aro _ hn,fun h=>absurd h h1,k3⟩
   ·
    rw[if_neg h1];obtain⟨m1,m2⟩:=k2 (by simpa using h1);have hb:=Mc m1;have bS:=ha.put k1.toKd (fun n hn=>asg _ hn) m2 hb rfl (i:=x.1.toNat) (by show x.1=_;omega);have AQ:=hv.kd k1.toKd fun n hn=>aro _ hn;obtain⟨t1,t2,t3⟩:=Hi (v:=v) (aF:=aF) r (k1.ok hk) (by rw[k1.bR.len];exact h2) AQ bS Ud;refine⟨(k1.sub fun n hn=>aro _ hn).trans t1,fun h=>?_,t3⟩;obtain⟨g1,g2,g3⟩:=t2 h;refine⟨g1,?_,by rw[g3,aru]⟩;rw[g2,Mj,Uc m2 hb,He ha k1.toKd fun n hn=>asg _ hn];rfl
theorem afH{c:CV}{a0 a:List Int}{src tgt:Int}(h:(cm c a0 a src tgt).2=true)(hs:2<=src)(ht:0<=tgt->tgt≠src):(cm c a0 a src tgt).1≠src:=by
 rw[cm]at h⊢
 by_cases h1:tgt<0
 ·
  rw[if_pos h1]at h⊢
  by_cases h2:(fq ((av c (a0++a)).set (src -2).toNat aZ) c.pages).2=true
  ·
   rw[if_pos h2];obtain⟨f1,f2,f3,f4⟩:=Aq h2;intro e;simp only at e;have e2:(fq ((av c (a0++a)).set (src -2).toNat aZ) c.pages).1.toNat=(src -2).toNat:=by omega
   change mw c.pages (((av c (a0++a)).set (src -2).toNat aZ).getD (fq ((av c (a0++a)).set (src -2).toNat aZ) c.pages).1.toNat dW)=true at f4;change(fq ((av c (a0++a)).set (src -2).toNat aZ) c.pages).1<_ at f3;change 0<=(fq ((av c (a0++a)).set (src -2).toNat aZ) c.pages).1 at f2;rw[aru]at f3;rw[e2]at f4;simp only[List.getD]at f4;rw[aq7 (by omega)]at f4
   cases f4
  rw[if_neg h2]at h;cases h
 rw[if_neg h1];exact ht (by omega)
theorem Hj{v:VV}{src tgt:Int}(mO:2<=src)(pc:0<=tgt->tgt≠src)(FQ:1<=v.ae.pages): ∀(l:List Int) (id:Nat) {c:CV} {a:List Int},aX c=true->Pl v.ae v.at_->Kp v.at_ v.ae c->Pl c a->a.map (eK c)=v.at_.map (eK v.ae)->
  (0<=tgt->2<=tgt/\tgt<c.blocks.length/\(ak c tgt).bad=false)->v.at_.drop id=l->(∀j,id<=j->a[j]? =v.at_[j]?)->(∀j n,j<id->a[j]? =some n->n≠0->(n -1)/v.ae.pages≠src)->a.length=v.at_.length->
  Kp v.at_ v.ae (bX v src tgt l id c a).c/\((bX v src tgt l id c a).e=none->Pl (bX v src tgt l id c a).c (bX v src tgt l id c a).a/\(bX v src tgt l id c a).a.map (eK (bX v src tgt l id c a).c)=v.at_.map (eK v.ae)/\(bX v src tgt l id c a).a.length=v.at_.length/\
   kv (bX v src tgt l id c a).a v.ae src)/\((bX v src tgt l id c a).e=some 7->(bX v src tgt l id c a).c.off=true)/\(bX v src tgt l id c a).e≠some 9
 |[],id,c,a,hk,hv,nC,ha,hb,ht,hl,jn,eA,dS=>by
  refine⟨nC,fun _=>⟨ha,hb,dS,fun n hn h0=>?_⟩,fun h=>by simp[bX]at h,by simp[bX]⟩;obtain⟨j,hj⟩:=arc hn;have hlen:v.at_.length<=id:=List.drop_eq_nil_iff.1 hl;have:=(ad2.1 hj).1;exact eA j n (by simp only[bX]at this;omega) hj h0
 |n::r,id,c,a,hk,hv,nC,ha,hb,ht,hl,jn,eA,dS=>by
  have hn:v.at_[id]? =some n:=by
   have:=congrArg (fun l:List Int=>l[0]?) hl;simpa using this
  have hr:v.at_.drop (id+1)=r:=by
   rw[←asS,hl];rfl
  have hp:=nC.bR.pages;rw[bX]
  by_cases h1:n=0\/(n -1)/v.ae.pages≠src
  ·
   rw[if_pos h1];refine Hj mO pc FQ r (id+1) hk hv nC ha hb ht hr (fun j hj=>jn j (by omega)) (fun j m hj hm h0=>?_) dS
   by_cases e:j=id
   ·
    rw[e,jn id (aqY _),hn]at hm;obtain rfl:=aqP hm;exact h1.resolve_left h0
   ·
    exact eA j m (by omega) hm h0
  ·
   rw[if_neg h1];have h0:n≠0:=fun e=>h1 (.inl e)
   by_cases h2:(cm c v.at_ a src tgt).2=false
   ·
    rw[if_pos h2];exact⟨nC,fun h=>by simp at h,fun h=>by simp at h,by simp⟩
   ·
    rw[if_neg h2];have Ue:(cm c v.at_ a src tgt).2=true:=by simpa using h2
    obtain⟨m1,m2,m3⟩:=Rf Ue ht;have mne:=afH Ue mO pc;generalize cm c v.at_ a src tgt=B at*
    by_cases h3:(dZ c ((v.gen:Int)+1) id n).2≠0
    ·
     rw[if_pos h3];have Ay:(dZ c ((v.gen:Int)+1) id n).2=1:=(Ax _ _).resolve_left h3;exact⟨nC,fun h=>by simp at h,fun h=>absurd (Ay.symm.trans (aqP h)) (by decide),fun h=>absurd (Ay.symm.trans (aqP h)) (by decide)⟩
    ·
     rw[if_neg h3];have Bd:=TX (p:=⟨1,id,((v.gen:Int)+1).toNat,iV c n⟩) (n:=c.size) (by simpa[dZ]using h3);have Dw:=Mc Bd;have Dx:=Hb (L:=v.at_++a) (c:=c) (p:=(dZ c ((v.gen:Int)+1) id n).1) m1
     by_cases h4:bx c B.1 (dZ c ((v.gen:Int)+1) id n).1≠0
     ·
      rw[if_pos h4];refine⟨nC.trans (Dx.sub fun n hn=>aro _ hn),fun h=>by simp at h,fun h=>?_,fun h=>?_⟩
      ·
       have h:=aqP h;rw[jW]at h;split at h
       ·
        cases h
       ·
        exact Hc h
      ·
       have h:=aqP h;rw[jW]at h;split at h
       ·
        cases h
       ·
        rename_i h9;exact h9 h
     ·
      rw[if_neg h4];have wJ:bx c B.1 (dZ c ((v.gen:Int)+1) id n).1=0:=by simpa using h4
      obtain⟨q1,q2,q3,q4⟩:=Hh (L:=v.at_++a) m1 wJ;rw[hp]at q1 q2 q3 q4;have e1:B.1*v.ae.pages+(ak c B.1).used+1 -1=B.1*v.ae.pages+(ak c B.1).used:=by omega
      have A1:Dv (v.at_++a) c (bA c B.1 (dZ c ((v.gen:Int)+1) id n).1) (B.1*v.ae.pages+(ak c B.1).used+1) (dZ c ((v.gen:Int)+1) id n).1:=
       ⟨by omega,by rw[e1];exact q1,by rw[e1];exact q2,fun m hm _ xm he=>by rw[he,e1,q4]at xm;cases xm⟩
      have bS:=ha.put Dx.toKd (fun n hn=>asg _ hn) A1 Dw rfl (i:=id) rfl;have ry:=Uc A1 Dw;have fN:=jA.1 (pJ wJ).1;have hq:(B.1*v.ae.pages+(ak c B.1).used+1 -1)/v.ae.pages=B.1:=by
       rw[e1,asM,ar8 _ _ (by omega),arR fN.2.1 (by rw[←hp];exact fN.2.2.1),asQ]
      have Ac:eK c n=iV c n:=by
       rw[eK];split
       ·
        rename_i afI;have Ti:=hv.place (anc hn) h0;have aqx:=(mu.1 Ti).1;have:(n -1)/v.ae.pages<0:=atA afI (by omega);omega
       ·
        rfl
      refine Hj mO pc FQ r (id+1) (Dx.ok hk) hv (nC.trans (Dx.sub fun n hn=>aro _ hn)) bS ?_ (fun h=>?_) hr (fun j hj=>?_) (fun j m hj hm nW=>?_) (by rw[aru,dS])
      ·
       rw[Mj,ry,He ha Dx.toKd fun n hn=>asg _ hn,hb];refine wx ?_;have e3:=congrArg (fun l:List (List UInt8)=>l[id]?) hb;simp only[aq1]at e3;rw[jn id (aqY _),hn]at e3;rw[aq1,hn];simp only[arE]at e3⊢;rw[←e3,Ac]
      ·
       have:=ht h;rw[(iv c _ _).len,Kc wJ];exact this
      ·
       rw[arj (by omega)];exact jn j (by omega)
      ·
       rw[arD]at hm;split at hm
       ·
        split at hm
        ·
         obtain rfl:=aqP hm;rw[hq];exact mne
        ·
         cases hm
       ·
        exact eA j m (by omega) hm nW
end Go.Kb
