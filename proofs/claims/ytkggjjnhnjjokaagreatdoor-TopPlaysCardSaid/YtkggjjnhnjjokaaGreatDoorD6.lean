/- Part of a proof. -/
import Derived.Test.YtkggjjnhnjjokaaGreatDoorD5
import Derived.Test.YtkggjjnhnjjokaaGreatDoorD4
import Derived.Test.YtkggjjnhnjjokaaGreatDoorD3
import Derived.Test.YtkggjjnhnjjokaaGreatDoorD2
import Derived.Test.YtkggjjnhnjjokaaGreatDoorD1
import Derived.Lib.Bytealg
import Derived.Lib.ReflectliteSwap
import Derived.Laws.Externs
set_option maxRecDepth 20000
set_option linter.unusedSimpArgs false
set_option linter.unusedVariables false
namespace Go.Proofs.YtkggjjnhnjjokaaGreatDoor
open Go.ax Go.Kb
variable {w0:World}{L:List aj}
instance aqN{s:Sv}{xs:List UInt8}{r:Rt}{i:Nat}{L':Sv->List aj}[q:fu L s aG 1 xs i][u: ∀s',fC L i (own aG 1 s' (xs++eO r)) (L' s')]:bN Tryz.prog 170 w0 L [s.val, .agg (ay r)] Sv (fun s=>s.val) L' (fun _=>True) (xs.length<=1000000):=⟨fun hp w hw=>
 (aeH w0 w (L.eraseIdx i) s xs r (hw.perm (oN q.h)) hp).mono fun e w' ⟨s',h1,h2,h3,h4⟩=>⟨s',h1,trivial,by
  rw[←(u s').h];exact h4.perm (set_perm _ L i (At.lt q.h))⟩⟩
instance aeR{a:Sl (Sl UInt8)}[ha:aU w0 L a]:bN Tryz.prog 182 w0 L [a.sv.val] (Sv) (fun zz=> .tuple #[zz.val, .int .i64 (lf (lx a))]) (fun zz=>own ay 19 zz (jN (lx a))::L) (fun zz=>True) (a.xs.length<=1000/\ ∀x∈a.xs,x.xs.length<=100000):=⟨fun aH w hw=>Gk (fun zz=>[own ay 19 zz (jN (lx a))]) hw (by
 have ha:=ha.h w hw;have LB:cL w a:=⟨ha⟩;obtain⟨qN,pW⟩:=aH;have hl:=yw a;refine cB Tryz.func182 rfl Tryz.ntmps182 rfl ?_;refine sF ?_;refine bQ (X:=Nat×Sv×List Rt) (fun zz=>[(11, .int .i64 (zz.1:Nat)),(4,zz.2.1.val),(9,a.sv.val),(10, .int .i64 (a.xs.length:Nat))]) (fun zz=>[own ay 19 zz.2.1 zz.2.2]) (fun zz=>zz.1<=a.xs.length/\gW ((lx a).take zz.1)=some zz.2.2/\zz.2.2.length<=zz.1*100000) (fun zz=>a.xs.length -zz.1) (0,Sv.none,[]) ⟨oF,rfl,by simp⟩ sb (fun w hw=>Mem.dj ay 19 hw) ?_;rintro⟨i,t,q⟩ ⟨aZ,aE,bo⟩;dsimp only;simp only at aZ aE bo;refine al ?_;refine Gb (fun h0=>?_) fun h0=>?_
 ·
  refine nt ?_;obtain⟨x,hx⟩:=get_some (xs:=a.xs) (i:=i) oM;refine ag (aW rfl rfl i rfl oM) (ag (bE (j:=0) rfl i hx rfl (by decide)) ?_);have Th:Mb x _:=⟨List.mem_of_getElem? hx⟩;have ex:(lx a)[i]? =some x.xs:=by simp[lx,hx]
  have Ha:Mb x _:=⟨List.mem_of_getElem? hx⟩;refine au ?_;refine ag (va (p:=x.xs.length) (q:=20) rfl rfl rfl rfl oM) (av ?_);refine Gb (fun h1=>?_) fun h1=>?_
  ·
   have iS:gW (lx a)=none:=Sk (i:=i+1) (by rw[Lc ex,aE,Sj _ x.xs (asu _) oM];rfl);refine au ?_;refine Gr fun w1 hw=>?_;exact⟨Sv.none,by rw[(GQ iS).2];rfl,trivial,by rw[(GQ iS).1];exact(ai.mem hw:Mem w [] _).dj ay 19⟩
  refine Gc ?_;refine bQ (X:=Sv×List UInt8×Sv×List Rt) (fun zz=>[(6,zz.1.val),(4,zz.2.2.1.val),(9,a.sv.val),(10, .int .i64 (a.xs.length:Nat)),(11, .int .i64 (i:Nat))]) (fun zz=>[own ay 19 zz.2.2.1 zz.2.2.2]) (fun zz=> ∃pre,zz.2.2.2=q++pre/\mK x.xs=(mK zz.2.1).map (pre++ ·)/\dZ aG 1 (hp w) zz.1 zz.2.1/\zz.2.1.length%20=0/\zz.2.2.2.length+zz.2.1.length<=(i+1)*100000) (fun zz=>zz.2.1.length) (x.sv,x.xs,t,q) ⟨[],by simp,by cases mK x.xs<;>rfl,(ha.2 x (List.mem_of_getElem? hx)).1,oF,by have:=pW x (List.mem_of_getElem? hx);simp only;omega⟩ sb (fun w hw=>ai.mem hw) ?_;rintro⟨cu,cs,t2,q2⟩ ⟨pre,ja,dJ,ik,kI,Bw⟩;dsimp only;simp only at ja dJ ik kI Bw;have gcu:Gv w cu aG 1 cs:=⟨ik⟩;refine aM ?_;refine Gb (fun h2=>?_) fun h2=>?_
  ·
   have aeS:20<=cs.length:=by omega
   have DS:(cs.drop 0).take (20 -0)=cs.take 20:=by simp
   have ec:=Lb aeS;rw[Sp]at ec;refine av ?_;have Mu:Rg 0 20 cs.length:=⟨by omega⟩;refine ag (Cs rfl rfl 20 rfl Mu.h.2) (eS (cj rfl (by simp;omega)) (Gs ?_));refine ag (aJ (v:= .agg (ay (rdv ((cs.drop 0).take (20 -0))))) rfl rfl) (ag (aJ (v:= .bool (qM ((cs.drop 0).take (20 -0)))) rfl rfl) (bl fun b7=>aS ?_));refine Gb (fun h3=>?_) fun h3=>?_
   ·
    rw[DS]at h3;have iS:gW (lx a)=none:=Sk (i:=i+1) (by rw[Lc ex,aE,dJ,ec,h3];rfl);refine au ?_;refine Gr fun w1 hw=>?_;exact⟨Sv.none,by rw[(GQ iS).2];rfl,trivial,by rw[(GQ iS).1];exact(ai.mem hw:Mem w [] _).dj ay 19⟩
   rw[DS]at h3;rw[h3]at ec;simp only[if_true,atV]at ec;have ev0:rdv ((cs.drop 0).take (20 -0))=kF (cs.take 20):=by rw[DS,rdv,if_pos h3]
   refine al ?_;refine jF (enc:=ay) (vals:=[_]) [(rdv ((cs.drop 0).take (20 -0)))] rfl rfl rfl (by decide) (by decide) fun DN=>?_;refine gS (s:=t2) (ys:=[(rdv ((cs.drop 0).take (20 -0)))]) rfl rfl (by decide) (fun w hw=>fY (s:=⟨false,DN,0,1,1,none⟩) Tryz.underlying22 (by decide) ((inferInstance:Hd _ _ ⟨false,DN,0,1,1,none⟩ ay 19 [(rdv ((cs.drop 0).take (20 -0)))]).h w hw)) (by simp only[asm,asn];omega) (by simp only[asm,asn];omega) fun s35 aqO aqP=>?_;refine al ?_;have aeT:Rg 20 cs.length cs.length:=⟨by omega⟩;refine ag (vc rfl rfl 20 rfl aeT.h.1) (Gs ?_);refine Gi ?_;exact bj (x:=(cu,cs,t2,q2)) (_,cs.drop 20,s35,q2++[kF (cs.take 20)]) ⟨pre++[kF (cs.take 20)],by simp[ja],by rw[dJ,ec];cases mK (cs.drop 20)<;>simp,by have:=ik.sub (lo:=20) (hi:=cs.length) oF (asu _);rwa [asy (by rw[ass];omega)]at this,by simp only[ass];omega,by simp only[af0,ass,asm,asn];omega⟩ (by simp only[ass];omega) sb (fun w hw=>by rw[ev0]at hw;exact ai.mem hw)
  refine al ?_;refine Gi ?_;exact bj (x:=(i,t,q)) (i+1,t2,q2) ⟨oF,by rw[Lc ex,aE,atV,dJ,show cs=[]from asI.1 oF,Si];simp[ja],by simp only;omega⟩ (by simp only;omega) sb (fun w hw=>ai.mem hw)
 refine ZK ?_;have ei:gW (lx a)=some q:=by rw[←aE,asy oM]
 refine Gi ?_;refine au ?_;refine Gb (fun h4=>?_) fun h4=>?_
 ·
  refine au ?_;refine Gr fun w1 hw=>?_;exact⟨Sv.none,by rw[(Sm ei h4).2];rfl,trivial,by rw[(Sm ei h4).1];exact(ai.mem hw:Mem w [] _).dj ay 19⟩
 refine aM ?_;refine Gr fun w1 hw=>?_;exact⟨t,by rw[(Ld ei h4).2],trivial,by rw[(Ld ei h4).1];exact hw⟩)⟩
instance aqQ{t:Sv}{ts:List Rt}{ids:Int}{room:Int}[ht:cD w0 L ay 19 t ts]:bN Tryz.prog 101 w0 L [t.val, .int .i64 ids, .int .i64 room] (Sl (Sl UInt8)) (fun zz=> .tuple #[zz.sv.val, .int .i64 (kf ts ids room)]) (fun zz=>Deep.bR zz::L) (fun zz=>lx zz=k9 ts ids room) (True):=⟨fun aH w hw=>Gk (fun zz=>[Deep.bR zz]) hw (by
 have ht:=ht.h w hw;have rL:Gv w t ay 19 ts:=⟨ht⟩;refine vn Tryz.func101 rfl Tryz.ntmps101 rfl ?_;refine FB ?_;refine bI rfl rfl rfl (fun hg=>cj (eL (aF hg rfl) iV) trivial) (bI rfl rfl rfl (fun hg=>(Ry.yl (ng (aF hg rfl)))) (av ?_));refine Gb (fun h0=>?_) fun h0=>?_
 ·
  refine au ?_;refine Gr fun w1 hw=>?_;exact⟨⟨Sv.none,[]⟩,by rw[(Ss h0).1];rfl,(Ss h0).2.symm,Mem.yx (enc:=bT) (c:=1) (ai.mem hw)⟩
 obtain⟨Hv,Mv⟩:=h0;have hm:=GO Hv;obtain⟨k,hk⟩: ∃k:Nat,ids=k:=⟨ids.toNat,by omega⟩;obtain⟨n,hn⟩: ∃n:Nat,room/20=n:=⟨(room/20).toNat,by omega⟩;have qR:ids*(room/20)=((k*n:Nat):Int):=by rw[hk,hn,Int.natCast_mul]
 have ek:ids.toNat=k:=by omega
 have en:(room/20).toNat=n:=by omega
 refine aS ?_;refine Gb (fun h1=>?_) fun h1=>?_
 ·
  refine au ?_;refine Gr fun w1 hw=>?_;exact⟨⟨Sv.none,[]⟩,by rw[(St Hv Mv h1).1];rfl,(St Hv Mv h1).2.symm,Mem.yx (enc:=bT) (c:=1) (ai.mem hw)⟩
 have hE:=Le Hv Mv h1;rw[ek,en]at hE;have A8:ts.length<=k*n:=by omega
 have hl:=ht.bd;refine av ?_;refine Yc (τ:=UInt8) (n:=k) (cap:=k) rfl rfl oM oM oM oM oM fun dL aeU=>aS ?_;refine bQ (X:=Nat×Sl (Sl UInt8)) (fun zz=>[(31, .int .i64 (zz.1:Nat)),(9,zz.2.sv.val),(2, .int .i64 room),(29,t.val),(30, .int .i64 (ts.length:Nat))]) (fun zz=>[Deep.bR zz.2]) (fun zz=>zz.1<=ts.length/\lx zz.2=lJ (ts.take zz.1) k n) (fun zz=>ts.length -zz.1) (0,dL) ⟨oF,by rw[ack];show List.map _ _=_;rw[aeU];simp⟩ sb (fun w hw=>ai.mem hw) ?_;rintro⟨i,a⟩ ⟨aZ,aE⟩;dsimp only;simp only at aZ aE;refine al ?_;refine Gb (fun h2=>?_) fun h2=>?_
 ·
  refine av ?_;obtain⟨v8,Mw⟩:=get_some (xs:=ts) (i:=i) oM;refine ag (aW rfl rfl i rfl oM) (ag (iF rfl i Mw rfl) (bl fun px=>aM ?_));refine ag (my rfl rfl oM oM) (ag (my rfl rfl oM oM) (Gs ?_));refine gg ?_;have bc:i/n<k:=avf (by rw[atK];omega);have Mx:i/n<a.xs.length:=by rw[←yw,aE,xx];exact bc
  obtain⟨x,hx⟩:=get_some (xs:=a.xs) (i:=i/n) Mx;have ex:(lx a)[i/n]? =some x.xs:=by simp[lx,hx]
  have T1:((i:Nat):Int)/(room/20)=((i/n:Nat):Int):=by rw[hn];exact(Int.natCast_ediv i n).symm
  have CX:x.xs.length<=240:=by
   rw[aE,lJ,asB]at ex;obtain⟨j,_,hj⟩:=aur.1 ex;have:=La (ts.take i) n j;rw[hj]at this;omega
  refine sh (own bT 1 a.sv a.xs::own aG 1 x.sv x.xs::ar px (ay v8) 34::(a.xs.eraseIdx (i/n)).map Deep.bR) (fun w hw=>(Tr.Yd (B:=[ar px (ay v8) 34]) hx).mem hw) (Ow 9 [7] [own bT 1 a.sv a.xs,ar px (ay v8) 34] (fun w hw=>ai.mem hw) oK oK ?_);simp only[atk,asW];refine au ?_;refine bC (aW rfl rfl (i/n) T1 Mx) (bC (bE (j:=0) rfl (i/n) hx rfl (by decide)) ?_);have aqR:Mb x _:=⟨List.mem_of_getElem? hx⟩;refine Gq ?_;refine XF (bC (aW rfl rfl (i/n) T1 Mx) (wG ?_ (fun _ hw=>ai.mem hw)));refine X5 rfl rfl oM (fun _ w hw=>ai.mem hw) fun kj vS=>wH ?_;simp only[auj,atD];refine E5 (k:=i/n) ⟨kj,x.xs++eO v8⟩ oK rfl rfl rfl hx (al ?_);refine Gi ?_;exact bj (x:=(i,a)) (i+1,⟨a.sv,a.xs.set (i/n) ⟨kj,x.xs++eO v8⟩⟩) ⟨oF,by rw[acp,acj oF Mw (by rw[←aE];exact ex),←aE];rfl⟩ oF sb (fun w hw=>ai.mem ((Tr.Ye (B:=[ar px (ay v8) 34]) (enc:=aG) (c:=1) (by rw[←yw,aE,xx];exact bc)).mem hw))
 refine aM ?_;refine Gr fun w1 hw=>?_;exact⟨a,by rw[hE.1],by rw[aE,hE.2,asy oM],hw⟩)⟩
open Go.RowKit
instance:eR Tryz.prog 65 (.agg (dw nE)):=⟨by kernel_rfl⟩
theorem My(v:cm)(t:Sl Rt)(w:World):(Instr.build 65 #[(0, .agg (cw v)),(1,t.sv.val)]).run Tryz.prog w= .ok (.agg (dw ⟨v,t⟩)) w:=by
 obtain⟨s,xs⟩:=t;obtain⟨⟨a1,a2,⟨a3,a4⟩,a5,a6,⟨a7,a8⟩⟩,⟨a9,a10⟩,a11,a12⟩:=v;unfold dw;obtain⟨e,b,o,l,c,p⟩:=s;obtain⟨e3,b3,o3,l3,c3,p3⟩:=a3;obtain⟨e7,b7,o7,l7,c7,p7⟩:=a7;obtain⟨e9,b9,o9,l9,c9,p9⟩:=a9
 cases e<;>cases e3<;>cases e7<;>cases e9<;>kernel_rfl
instance aqS{b:Int}{p:Int}{s:Int}:cE Tryz.prog 75 w0 L [.int .i64 b, .int .i64 p, .int .i64 s] (.int .i64 (zb b p s)) (True):=⟨fun aH w hw=>by
 have Mr:=ac8 b p;have Tb:=S1 s;refine vn Tryz.func75 rfl Tryz.ntmps75 rfl ?_;refine aS ?_;refine ag (my rfl rfl oM oM) (av ?_);refine ag (IT rfl rfl) (av ?_);refine Gr fun w1 hw=>?_;exact⟨congrArg (fun b=>Ending.returned (Value.int .i64 b)) ((by rw[zb])),ai.mem hw⟩⟩
instance aqT{b:Int}{p:Int}{s:Int}:cE Tryz.prog 25 w0 L [.int .i64 b, .int .i64 p, .int .i64 s] (.int .i64 (zd b p s)) (True):=⟨fun aH w hw=>by
 refine vn Tryz.func25 rfl Tryz.ntmps25 rfl ?_;refine CJ ?_;refine Gr fun w1 hw=>?_;exact⟨congrArg (fun b=>Ending.returned (Value.int .i64 b)) ((by rw[zd])),ai.mem hw⟩⟩
instance aqU{c:Cp}[hc:aU w0 L c]:cE Tryz.prog 98 w0 L [.agg (aT c)] (.int .i64 (eK (cv c))) (True):=⟨fun aH w hw=>by
 have hc:=hc.h w hw;have ln:cL w c:=⟨hc⟩;refine cB Tryz.func98 rfl Tryz.ntmps98 rfl ?_;refine Gc ?_;refine cf rfl fun b1=>CJ ?_;refine Gr fun w1 hw=>?_;exact⟨congrArg (fun b=>Ending.returned (Value.int .i64 b)) ((by simp only[eK,cv,ia])),ai.mem hw⟩⟩
instance aqV{c:Cp}[hc:aU w0 L c]:cE Tryz.prog 95 w0 L [.agg (aT c)] (.int .i64 (eG (cv c))) (True):=⟨fun aH w hw=>by
 have hc:=hc.h w hw;have ln:cL w c:=⟨hc⟩;refine cB Tryz.func95 rfl Tryz.ntmps95 rfl ?_;refine Gc ?_;refine cf rfl fun b1=>CJ ?_;refine Gr fun w1 hw=>?_;exact⟨congrArg (fun b=>Ending.returned (Value.int .i64 b)) ((by simp only[eG,cv,ia])),ai.mem hw⟩⟩
instance aqW{v:cm}{id:Nat}[hv:aU w0 L v]:bN Tryz.prog 181 w0 L [.agg (cw v), .int .i64 (id:Nat)] (Sv) (fun zz=>zz.val) (fun zz=>own aG 1 zz (eU (cv v.ae) (v.at_.xs.getD id 0))::L) (fun zz=>True) (ba (cv v.ae)=true/\id<v.at_.xs.length/\ ∀y∈v.at_.xs,0<=y/\y<=65535/\(y≠0->kV (cv v.ae) (y -1)=true)):=⟨fun aH w hw=>Gk (fun zz=>[own aG 1 zz (eU (cv v.ae) (v.at_.xs.getD id 0))]) hw (by
 have hv:=hv.h w hw;have Dt:cL w v:=⟨hv⟩;obtain⟨hk,hid,iT⟩:=aH;obtain⟨y,hy⟩:=get_some (xs:=v.at_.xs) (i:=id) hid;have mQ:v.at_.xs.getD id 0=y:=p6 hy;obtain⟨mB,G5,bW⟩:=iT y (anc hy);refine cQ Tryz.func181 rfl Tryz.ntmps181 rfl ?_;refine Gc ?_;refine cf rfl fun b2=>aM ?_;refine ag (aW rfl rfl id rfl oM) (ag (bE (j:=0) rfl id hy rfl (by decide)) (aS ?_));refine Gb (fun h0=>?_) fun h0=>?_
 ·
  have hE:(eU (cv v.ae) (v.at_.xs.getD id 0))=[]:=by rw[mQ,eU,if_pos oM]
  refine al ?_;refine Gr fun w1 hw=>?_;exact⟨Sv.none,rfl,trivial,by rw[hE];exact Mem.dj aG 1 (ai.mem hw:Mem w [] _)⟩
 have h1y:1<=y:=by omega
 obtain⟨g1,g2,g3⟩:=mF.1 (bW oM);have dW:=ia v.ae.blocks.xs;have iO:=lX.1 (fF.1 hk).1;simp only[cv,dW]at iO;have Dv:0<=((y -1)/v.ae.pages):=auu oM oM;have oq:0<=((y -1)%v.ae.pages):=auw _ oM;have qe:((y -1)%v.ae.pages)<v.ae.pages:=auE _ oM;have pt:=yP (c:=v.ae) (b:=((y -1)/v.ae.pages));change 2<=((y -1)/v.ae.pages)at g1;change((y -1)/v.ae.pages)<((jh v.ae.blocks.xs).length:Int)at g2;rw[dW]at g2;obtain⟨B,hB⟩:=get_some (xs:=v.ae.blocks.xs) (i:=((y -1)/v.ae.pages).toNat) oM;have ta:Mb B v.ae.blocks:=⟨List.mem_of_getElem? hB⟩;have ff:bv B=ak (cv v.ae) ((y -1)/v.ae.pages):=by rw[←pt];simp[List.getD,hB]
 have gC:=fk.1 ((fF.1 hk).2.2.2.2 (bv B) (anc (nw hB)));have jl:=oU B.pages.xs;have Dw:(B.pages.xs.length:Int)=v.ae.pages:=by have:=gC.1;simp only[bv,cv,jl]at this;exact this
 obtain⟨z,hz⟩:=get_some (xs:=B.pages.xs) (i:=((y -1)%v.ae.pages).toNat) oM;have xF:Mb z B.pages:=⟨List.mem_of_getElem? hz⟩;have qN:bL (cv v.ae) (y -1)=z.xs:=by
  show(ak (cv v.ae) ((y -1)/v.ae.pages)).pages.getD ((y -1)%v.ae.pages).toNat []=z.xs;rw[←ff];simp[bv,List.getD,qG hz]
 have hI:(eU (cv v.ae) (v.at_.xs.getD id 0))=ji (cv v.ae) y:=by rw[mQ,eU,if_neg oM]
 refine Gc ?_;refine ub [18,22,23,2022,4018] [[],[],[],[],[],[],[],[],[],[],[],[],[],[],[],[],[],[],[],[18],[18],[18],[],[18,22],[18,22,23]] [0,1,2,3,4,5,6,7,8,9,10,11,12,13,14,15,16,17,18,19,20,21,22,23,24] [ar b2 (cw v) 63] [(22,nr Tryz.prog 324)] oK (fun _ hw=>ai.mem hw) oK oK (an rfl (aO (o':=0) rfl rfl) (an rfl (aO (o':=2) rfl rfl) (an rfl (bY rfl) (an rfl (bf rfl) (an rfl (aO (o':=0) rfl rfl) (an rfl (aO (o':=0) rfl rfl) (an rfl (bY rfl) (an rfl (my rfl rfl oM oM) (an rfl (aW rfl rfl (((y -1)/v.ae.pages).toNat) oM oM) (an rfl (aO rfl rfl) (an rfl (bE (j:=0) rfl (((y -1)/v.ae.pages).toNat) hB rfl (by decide)) (an rfl (bf rfl) ?_))))))))))));refine an rfl (aO (o':=0) rfl rfl) (an rfl (aO (o':=0) rfl rfl) (an rfl (bY rfl) (an rfl (zV rfl rfl oM oM) (an rfl (aW rfl rfl (((y -1)%v.ae.pages).toNat) oM oM) (an rfl (bE (j:=0) rfl (((y -1)%v.ae.pages).toNat) hz rfl (by decide)) ?_)))));refine wY rfl rfl trivial (fun e x w hw=>ai.mem hw) (Cert.one (i:=22) rfl rfl rfl mC (Cert.none rfl)) fun DJ TJ=>⟨fun _ hw=>ai.mem hw,?_⟩;have e1:DJ.body.xs=(cI z.xs).1.body:=congrArg PV.body TJ;refine an rfl (bf rfl) (an rfl (aJ (v:= .agg (da DJ)) rfl rfl) (an rfl (aJ (v:= .int .i64 ((cI z.xs).2)) rfl rfl) (sE (m:=nr Tryz.prog 324) rfl rfl mC (Cert.none rfl) fun b6=>?_)));change Ln _ _ _ _ _ _ _ _ (cJ _ _ (.pointer (some ⟨b6,0,none⟩))) (ar b6 (da o8) 324::_) _;refine dH rfl (pV rfl rfl ⟨fun _ hw=>ai.mem hw,?_⟩);refine an rfl (hG rfl) (au ?_);refine Gb (fun h1=>?_) fun h1=>?_
 ·
  have hE:(eU (cv v.ae) (v.at_.xs.getD id 0))=[]:=by rw[hI,ji,qN,if_neg h1]
  refine al ?_;refine Gr fun w1 hw=>?_;exact⟨Sv.none,rfl,trivial,by rw[hE];exact Mem.dj aG 1 (ai.mem hw:Mem w [] _)⟩
 have Bz:(cI z.xs).2=0:=h1;have hE:(eU (cv v.ae) (v.at_.xs.getD id 0))=DJ.body.xs:=by rw[hI,ji,qN,if_pos Bz,e1]
 refine aM ?_;refine Gr fun w1 hw=>?_;exact⟨DJ.body.sv,rfl,trivial,by rw[hE];exact ai.mem hw⟩)⟩
instance aqX{s:Sl (Sl UInt8)}[hs:aU w0 L s]:bN Tryz.prog 163 w0 L [s.sv.val] (Sv) (fun zz=>zz.val) (fun zz=>own (bT (τ:=UInt8)) 1 zz s.xs::L) (fun zz=>True) (s.xs.length<=1000000):=⟨fun aH w hw=>Gk (fun zz=>[own (bT (τ:=UInt8)) 1 zz s.xs]) hw (by
 have hs:=hs.h w hw;have ze:cL w s:=⟨hs⟩;refine cB Tryz.func163 rfl Tryz.ntmps163 rfl ?_;refine au ?_;refine ag (vd Tryz.underlying178 rfl) (Gc ?_);refine Gb (fun h0=>?_) fun h0=>?_
 ·
  have e0:s.xs=[]:=asI.1 (by have:=hs.1.ok.nil h0;have:=hs.1.len;omega);refine al ?_;refine Gr fun w1 hw=>?_;exact⟨Sv.none,rfl,trivial,by rw[e0];exact(ai.mem hw:Mem w [] _).dj (bT (τ:=UInt8)) 1⟩
 refine Gc ?_;refine wL (bT (τ:=UInt8)) fun b5=>Gs ?_;refine gS (s:=⟨false,b5,0,0,0,none⟩) (enc:=(bT (τ:=UInt8))) (ys:=s.xs) rfl rfl (by decide) (fun w hw=>fY (s:=s.sv) Tryz.underlying178 (by decide) ((inferInstance:cD _ _ (bT (τ:=UInt8)) 1 s.sv s.xs).h w hw)) (by simp only[asn];omega) (by simp only[asn];omega) fun s7 zf xC=>?_;refine av ?_;refine Gr fun w1 hw=>?_;exact⟨s7,rfl,trivial,by rw[atc]at hw;exact ai.mem hw⟩)⟩
instance aqY{c:Cp}[hc:aU w0 L c]:bN Tryz.prog 96 w0 L [.agg (aT c)] (Cp) (fun zz=> .agg (aT zz)) (fun zz=>fz zz::L) (fun zz=>cv zz=cv c) (gO c):=⟨fun aH w hw=>Gk (fun zz=>[fz zz]) hw (by
 have hc:=hc.h w hw;have ln:cL w c:=⟨hc⟩;obtain⟨gq,gy,kH⟩:=aH;refine cB Tryz.func96 rfl Tryz.ntmps96 rfl ?_;refine Gc ?_;refine cf rfl fun b1=>bl fun b2=>al ?_;refine aX rfl oM fun x9 Ba=>Gs ?_;refine eu (cs':=aT (⟨c.pages,c.size,⟨x9,c.blocks.xs⟩,c.ops,c.off,c.aV⟩:Cp)) rfl rfl (by show 2<6;decide) (by first|rfl|exact Sv.one _) rfl (aS ?_);refine bQ (X:=Nat×List Bk) (fun zz=>[(14, .int .i64 (zz.1:Nat)),(1, .pointer (some ⟨b1,0,none⟩)),(2, .pointer (some ⟨b2,0,none⟩)),(12,x9.val),(13, .int .i64 (c.blocks.xs.length:Nat))]) (fun zz=>[own bZ 4 x9 zz.2,aj.all ((zz.2.take zz.1).map fun b:Bk=>fz b.pages),ar b2 (aT gT) 59,ar b1 (aT (⟨c.pages,c.size,⟨x9,zz.2⟩,c.ops,c.off,c.aV⟩:Cp)) 59]) (fun zz=>zz.1<=c.blocks.xs.length/\zz.2.length=c.blocks.xs.length/\jh zz.2=jh c.blocks.xs/\ ∀j,zz.1<=j->zz.2[j]? =c.blocks.xs[j]?) (fun zz=>c.blocks.xs.length -zz.1) (0,c.blocks.xs) ⟨Nat.zero_le _,rfl,rfl,fun _ _=>rfl⟩ sb (fun w hw=>by
  simp only[asW,ato];exact ai.mem (Mem.yI hw)) ?_
 rintro⟨i,zs⟩ ⟨aZ,aE,bo,dn⟩;dsimp only;simp only at aZ aE bo dn;refine al ?_;refine Gb (fun h0=>?_) fun h0=>?_
 ·
  obtain⟨z,hz⟩:=get_some (xs:=zs) (i:=i) oM;have xF:Mb z c.blocks:=⟨List.mem_of_getElem? (by rw[←dn i (asu _)];exact hz)⟩;have fh:=kH z xF.h;obtain⟨aeV,aqZ⟩:=fh;rw[oU]at aeV;refine av ?_;refine ag (aW rfl rfl i rfl oM) (ag (iF rfl i hz rfl) (bl fun b4=>aM ?_));refine aX rfl oM fun eQ tg=>aS ?_;refine bQ (X:=Nat×List (Sl UInt8)) (fun zz=>[(24, .int .i64 (zz.1:Nat)),(5,eQ.val),(1, .pointer (some ⟨b1,0,none⟩)),(2, .pointer (some ⟨b2,0,none⟩)),(3, .int .i64 (i:Nat)),(12,x9.val),(13, .int .i64 (c.blocks.xs.length:Nat)),(14, .int .i64 (i:Nat)),(23, .int .i64 (z.pages.xs.length:Nat))]) (fun zz=>[own (bT (τ:=UInt8)) 1 eQ zz.2,aj.all ((zz.2.take zz.1).map fun b:Sl UInt8=>fz b),ar b4 (bZ z) 180,own bZ 4 x9 zs,aj.all ((zs.take i).map fun b:Bk=>fz b.pages),ar b2 (aT gT) 59,ar b1 (aT (⟨c.pages,c.size,⟨x9,zs⟩,c.ops,c.off,c.aV⟩:Cp)) 59]) (fun zz=>zz.1<=z.pages.xs.length/\zz.2.length=z.pages.xs.length/\aN zz.2=aN z.pages.xs/\ ∀k,zz.1<=k->zz.2[k]? =z.pages.xs[k]?) (fun zz=>z.pages.xs.length -zz.1) (0,z.pages.xs) ⟨Nat.zero_le _,rfl,rfl,fun _ _=>rfl⟩ sb (fun w hw=>by
   simp only[asW,ato];exact ai.mem (Mem.yI hw)) ?_
  rintro⟨j,qs⟩ ⟨ja,dJ,ik,kI⟩;dsimp only;simp only at ja dJ ik kI;refine al ?_;refine Gb (fun h1=>?_) fun h1=>?_
  ·
   obtain⟨y,hy⟩:=get_some (xs:=qs) (i:=j) oM;have Mz:z.pages.xs[j]? =some y:=by rw[←kI j (asu _)];exact hy
   have Dx:Mb y z.pages:=⟨List.mem_of_getElem? Mz⟩;have A8:=CY (qG Mz);have jl:=CZ (aN z.pages.xs) (j+1);have hyl:y.xs.length<=140737488355328:=by rw[A8]at jl;omega
   refine al ?_;refine gg ?_;refine FC (s:=eQ) (enc:=bT (τ:=UInt8)) (c:=1) (xs:=qs) inferInstance oM fun aq0 aq1 aeW aq2=>?_;refine Gi ?_;refine au ?_;refine ag (aW rfl rfl j rfl oM) (ag (bE (j:=0) rfl j hy rfl (by decide)) (aX rfl hyl fun gu rN=>?_));obtain⟨v8,Mw⟩:=get_some (xs:=qs) (i:=j) oM;refine ag (mz (s:=eQ) (i:=j) rfl rfl rfl aeW oM) (E5 (s:=eQ) (xs:=qs) (k:=j) (a:=y) (⟨gu,y.xs⟩:Sl UInt8) oK rfl rfl rfl hy (al ?_));refine Gi ?_;exact bj (x:=(j,qs)) (j+1,qs.set j (⟨gu,y.xs⟩:Sl UInt8)) ⟨oF,by rw[as1];exact dJ,by rw[aN,auP,←aN,ik];exact xi (z:=y.xs) (qG Mz),fun k hk=>by rw[asS oF];exact kI k oF⟩ (by simp only;omega) sb (fun w hw=>by
    have h1:=Ki (a:=(⟨gu,y.xs⟩:Sl UInt8)) (ai.mem hw:Mem _ (own aG 1 gu y.xs::[own (bT (τ:=UInt8)) 1 eQ (qs.set j (⟨gu,y.xs⟩:Sl UInt8)),aj.all ((qs.take j).map fun b:Sl UInt8=>fz b),ar b4 (bZ z) 180,own bZ 4 x9 zs,aj.all ((zs.take i).map fun b:Bk=>fz b.pages),ar b2 (aT gT) 59,ar b1 (aT (⟨c.pages,c.size,⟨x9,zs⟩,c.ops,c.off,c.aV⟩:Cp)) 59]) _);have h3:=Mem.AK (ai.mem h1:Mem _ (fz (⟨gu,y.xs⟩:Sl UInt8)::aj.all ((qs.take j).map fun b:Sl UInt8=>fz b)::[own (bT (τ:=UInt8)) 1 eQ (qs.set j (⟨gu,y.xs⟩:Sl UInt8)),ar b4 (bZ z) 180,own bZ 4 x9 zs,aj.all ((zs.take i).map fun b:Bk=>fz b.pages),ar b2 (aT gT) 59,ar b1 (aT (⟨c.pages,c.size,⟨x9,zs⟩,c.ops,c.off,c.aV⟩:Cp)) 59]) _);rw[Kr (z':=(⟨gu,y.xs⟩:Sl UInt8)) hy]at h3;exact ai.mem h3)
  obtain rfl:j=qs.length:=by omega
  rw[asy (asu _)]at*;refine ZJ ?_;refine FC (s:=x9) (enc:=bZ) (c:=4) (xs:=zs) inferInstance oM fun hn9 hs9 ho9 hl9=>?_;refine Gi ?_;refine au ?_;obtain⟨e40,aeX⟩:=get_some (xs:=zs) (i:=i) oM;refine ag (mz (s:=x9) (i:=i) rfl rfl rfl ho9 oM) (ag (aO rfl rfl) (ku (n:=1) (k:=i) (j:=0) (a:=z) (a':=({z with pages:=⟨eQ,qs⟩}:Bk)) (xs:=zs) (enc:=bZ) (c:=4) (v:=eQ.val) oK rfl rfl rfl hz (by rw[Sv.iX];simp[Sv.one]) (by rw[Sv.iX];rfl) (by decide) (by rw[Sv.iX];rfl) (al ?_)))
  refine Gi ?_;exact bj (x:=(i,zs)) (i+1,zs.set i ({z with pages:=⟨eQ,qs⟩}:Bk)) ⟨oF,by rw[as1];exact aE,by rw[yO,←bo,show bv ({z with pages:=⟨eQ,qs⟩}:Bk)=bv z from by rw[bv,bv,ik],←yO,xi hz],fun j hj=>by rw[asS oF];exact dn j oF⟩ (by simp only;omega) sb (fun w hw=>by
   have h1:=Kq (ai.mem hw:Mem _ (own (bT (τ:=UInt8)) 1 eQ qs::aj.all (qs.map fun b:Sl UInt8=>fz b)::[own bZ 4 x9 (zs.set i ({z with pages:=⟨eQ,qs⟩}:Bk)),aj.all ((zs.take i).map fun b:Bk=>fz b.pages),ar b2 (aT gT) 59,ar b1 (aT (⟨c.pages,c.size,⟨x9,zs⟩,c.ops,c.off,c.aV⟩:Cp)) 59]) _)
   have h3:=Mem.AK (ai.mem h1:Mem _ (fz (⟨eQ,qs⟩:Sl (Sl UInt8))::aj.all ((zs.take i).map fun b:Bk=>fz b.pages)::[own bZ 4 x9 (zs.set i ({z with pages:=⟨eQ,qs⟩}:Bk)),ar b2 (aT gT) 59,ar b1 (aT (⟨c.pages,c.size,⟨x9,zs⟩,c.ops,c.off,c.aV⟩:Cp)) 59]) _)
   rw[Q6 (z':=({z with pages:=⟨eQ,qs⟩}:Bk)) hz]at h3
   exact(ai.mem h3:Mem _ [own bZ 4 x9 (zs.set i ({z with pages:=⟨eQ,qs⟩}:Bk)),aj.all (((zs.set i ({z with pages:=⟨eQ,qs⟩}:Bk)).take (i+1)).map fun b:Bk=>fz b.pages),ar b2 (aT gT) 59,ar b1 (aT (⟨c.pages,c.size,⟨x9,zs⟩,c.ops,c.off,c.aV⟩:Cp)) 59] _))
 obtain rfl:i=zs.length:=by omega
 rw[asy (asu _)]at*;refine av ?_;refine ag (Ry.to (v':=c.aV.sv.val) (bY rfl) rfl) (aX rfl oM fun tm T2=>Gs ?_);refine eu (cs':=aT (⟨c.pages,c.size,⟨x9,zs⟩,c.ops,c.off,⟨tm,c.aV.xs⟩⟩:Cp)) rfl rfl (by show 5<6;decide) (by first|rfl|exact Sv.one _) rfl (au ?_);refine Gr fun w1 hw=>?_;exact⟨(⟨c.pages,c.size,⟨x9,zs⟩,c.ops,c.off,⟨tm,c.aV.xs⟩⟩:Cp),rfl,by simp only[cv,bo],F3 (d:=(⟨c.pages,c.size,⟨x9,zs⟩,c.ops,c.off,⟨tm,c.aV.xs⟩⟩:Cp)) ((QM (a:=(⟨tm,c.aV.xs⟩:Sl Ft)) ((Q3 (ai.mem hw:Mem w (own bZ 4 x9 zs::aj.all (zs.map fun b:Bk=>fz b.pages)::[own eN 4 tm c.aV.xs]) _)).perm (List.Perm.swap _ _ _))).perm (List.Perm.swap _ _ _))⟩)⟩
instance aq3{c:Cp}[hc:aU w0 L c]:bN Tryz.prog 108 w0 L [.agg (aT c)] (dx×Sl (Sl UInt8)) (fun zz=> .tuple #[.agg (dw zz.1),zz.2.sv.val, .int .i64 ((dz (cv c)).2)]) (fun zz=>fz zz.1::fz zz.2::L) (fun zz=>cg zz.1=(dz (cv c)).1/\lx zz.2=lj (cv c)) (True):=⟨fun aH w hw=>Gk (fun zz:dx×Sl (Sl UInt8)=>[fz zz.1,fz zz.2]) hw (by
 have hc:=hc.h w hw;have ln:cL w c:=⟨hc⟩;refine cB Tryz.func108 rfl Tryz.ntmps108 rfl ?_;refine Gc ?_;refine cf rfl fun b1=>bl fun b2=>cW ?_;refine Gb (fun h0=>?_) fun h0=>?_
 ·
  have hE:=SW h0;refine Gc ?_;refine ag (dm (v:= .agg (dw nE)) rfl (fun w=>by kernel_rfl)) (au ?_);refine Gr fun w1 hw=>?_;exact⟨(nE,⟨Sv.none,[]⟩),by rw[hE.1];rfl,⟨by rw[hE.1];rfl,by rw[hE.2];rfl⟩,G2 (A5 (ai.mem hw:Mem w [] _))⟩
 refine av ?_;refine aX rfl trivial fun aB ki=>?_;have aeY:=Rr (cv c);rw[ace]at ki;have Hw:aB.at_.xs=(bG (cv c)).1.at_:=congrArg VV.at_ ki;rw[←Hw]at aeY;have aq4: ∀(L:List aj) [Hd w L aB.at_.sv bu 1 aB.at_.xs],aU w L aB.at_:=fun L q=>⟨fun w h=>⟨q.h w h,fun _ _=>trivial⟩⟩;have aq5: ∀(L:List aj) [aU w L aB.ae] [aU w L aB.at_],aU w L aB:=fun L p q=>⟨fun w h=>⟨p.h w h,q.h w h⟩⟩;refine Gs ?_;refine ag (aJ (v:= .agg (cw aB)) rfl rfl) (ag (aJ (v:= .int .i64 ((bG (cv c)).2)) rfl rfl) (bl fun b5=>aS ?_));refine Gb (fun h1=>?_) fun h1=>?_
 ·
  have hE:=SX h0 h1;refine Gc ?_;refine ag (dm (v:= .agg (dw nE)) rfl (fun w=>by kernel_rfl)) (aM ?_);refine Gr fun w1 hw=>?_;exact⟨(nE,⟨Sv.none,[]⟩),by rw[hE.1];rfl,⟨by rw[hE.1];rfl,by rw[hE.2];rfl⟩,G2 (A5 (ai.mem hw:Mem w [] _))⟩
 have Bz:(bG (cv c)).2=0:=h1;have MA:me (vv aB)=true:=by rw[ki];exact ada Bz
 have B7:cv aB.ae=(vv aB).ae:=rfl;have T3:ba (cv aB.ae)=true:=(C6 MA).1;have hby: ∀y∈aB.at_.xs,0<=y/\y<=65535/\(y≠0->kV (cv aB.ae) (y -1)=true):=fun y hy=>by
  obtain⟨g1,g2⟩:=(C6 MA).2.2 y hy;obtain⟨j,hj⟩:=asM hy;exact⟨g1,g2,fun g=>(Ru MA hj g).2.2⟩
 refine Gc ?_;refine gJ oK oK (au ?_);refine sd (cj rfl trivial) (av ?_);refine Gb (fun h2=>?_) fun h2=>?_
 ·
  have DT:(((bG (cv c)).1.at_.length:Nat):Int)≠eK (cv c):=by rw[←Hw];exact h2
  have hE:=SY h0 Bz DT;refine Gc ?_;refine ag (dm (v:= .agg (dw nE)) rfl (fun w=>by kernel_rfl)) (au ?_);refine Gr fun w1 hw=>?_;exact⟨(nE,⟨Sv.none,[]⟩),by rw[hE.1];rfl,⟨by rw[hE.1];rfl,by rw[hE.2];rfl⟩,G2 (A5 (ai.mem hw:Mem w [] _))⟩
 have DT:(((bG (cv c)).1.at_.length:Nat):Int)=eK (cv c):=by rw[←Hw];exact h2
 have aq6:aB.at_.xs.length<=64:=by have:=Ls (cv c);rw[←Hw]at DT;omega
 refine au ?_;refine sg (enc:=bT (τ:=UInt8)) (n:=aB.at_.xs.length) (cap:=aB.at_.xs.length) (⟨Sv.none,[]⟩:Sl UInt8) rfl rfl rfl rfl rfl oM oM oM fun jP=>aS ?_;refine bQ (X:=Nat×List (Sl UInt8)) (fun zz=>[(36, .int .i64 (zz.1:Nat)),(7,(⟨false,jP,0,aB.at_.xs.length,aB.at_.xs.length,none⟩:Sv).val),(2, .pointer (some ⟨b2,0,none⟩)),(5, .pointer (some ⟨b5,0,none⟩)),(35, .int .i64 ((List.replicate aB.at_.xs.length (⟨Sv.none,[]⟩:Sl UInt8)).length:Nat))]) (fun zz=>[own (bT (τ:=UInt8)) 1 ⟨false,jP,0,aB.at_.xs.length,aB.at_.xs.length,none⟩ zz.2,aj.all ((zz.2.take zz.1).map fun b:Sl UInt8=>fz b),ar b5 (cw aB) 63,fz aB.ae,own bu 1 aB.at_.sv aB.at_.xs,ar b2 (dw nE) 65,ar b1 (aT c) 59]) (fun zz=>zz.1<=aB.at_.xs.length/\zz.2.length=aB.at_.xs.length/\aN (zz.2.take zz.1)=(aB.at_.xs.take zz.1).map (eU (cv aB.ae))) (fun zz=>aB.at_.xs.length -zz.1) (0,List.replicate aB.at_.xs.length (⟨Sv.none,[]⟩:Sl UInt8)) ⟨Nat.zero_le _,by simp,by simp[aN]⟩ sb (fun w hw=>by
  simp only[asW,ato];exact ai.mem (Mem.yI hw)) ?_
 rintro⟨i,qs⟩ ⟨aZ,aE,bo⟩;dsimp only;simp only at aZ aE bo;refine al ?_;refine Gb (fun h3=>?_) fun h3=>?_
 ·
  rw[ata]at h3;obtain⟨q,hq⟩:=get_some (xs:=qs) (i:=i) oM;obtain⟨y,hy⟩:=get_some (xs:=aB.at_.xs) (i:=i) oM;have mQ:aB.at_.xs.getD i 0=y:=p6 hy;refine al ?_;refine gg ?_;have aeZ:=Gl (b:=jP) (n:=aB.at_.xs.length) oM;refine Gi ?_;refine au ?_;refine aX rfl ⟨T3,by omega,hby⟩ fun kl rP=>?_;obtain⟨e44,aq7⟩:=get_some (xs:=qs) (i:=i) oM;refine ag (mz (s:=⟨false,jP,0,aB.at_.xs.length,aB.at_.xs.length,none⟩) (i:=i) rfl rfl rfl aeZ (by simp only;omega)) (E5 (s:=⟨false,jP,0,aB.at_.xs.length,aB.at_.xs.length,none⟩) (xs:=qs) (k:=i) (a:=q) (⟨kl,eU (cv aB.ae) (aB.at_.xs.getD i 0)⟩:Sl UInt8) oK rfl rfl oM hq (al ?_));refine Gi ?_;exact bj (x:=(i,qs)) (i+1,qs.set i (⟨kl,eU (cv aB.ae) (aB.at_.xs.getD i 0)⟩:Sl UInt8)) ⟨oF,by rw[as1];exact aE,by rw[aN,Gj hq,←aN,bo,asC,hy,as0,mQ];rfl⟩ (by simp only;omega) sb (fun w hw=>by
   have h1:=Ki (a:=(⟨kl,eU (cv aB.ae) (aB.at_.xs.getD i 0)⟩:Sl UInt8)) (ai.mem hw:Mem _ (own aG 1 kl (eU (cv aB.ae) (aB.at_.xs.getD i 0))::[own (bT (τ:=UInt8)) 1 ⟨false,jP,0,aB.at_.xs.length,aB.at_.xs.length,none⟩ (qs.set i (⟨kl,eU (cv aB.ae) (aB.at_.xs.getD i 0)⟩:Sl UInt8)),aj.all ((qs.take i).map fun b:Sl UInt8=>fz b),ar b5 (cw aB) 63,fz aB.ae,own bu 1 aB.at_.sv aB.at_.xs,ar b2 (dw nE) 65,ar b1 (aT c) 59]) _);have h3:=Mem.AK (ai.mem h1:Mem _ (fz (⟨kl,eU (cv aB.ae) (aB.at_.xs.getD i 0)⟩:Sl UInt8)::aj.all ((qs.take i).map fun b:Sl UInt8=>fz b)::[own (bT (τ:=UInt8)) 1 ⟨false,jP,0,aB.at_.xs.length,aB.at_.xs.length,none⟩ (qs.set i (⟨kl,eU (cv aB.ae) (aB.at_.xs.getD i 0)⟩:Sl UInt8)),ar b5 (cw aB) 63,fz aB.ae,own bu 1 aB.at_.sv aB.at_.xs,ar b2 (dw nE) 65,ar b1 (aT c) 59]) _);rw[Kr (z':=(⟨kl,eU (cv aB.ae) (aB.at_.xs.getD i 0)⟩:Sl UInt8)) hq]at h3;exact ai.mem h3)
 rw[ata]at h3;obtain rfl:i=qs.length:=by omega
 rw[asy (asu _)]at*;rw[asy oM]at bo;have vO:lx (⟨⟨false,jP,0,aB.at_.xs.length,aB.at_.xs.length,none⟩,qs⟩:Sl (Sl UInt8))=cy (bG (cv c)).1:=by rw[←ki];exact bo
 have dW: ∀x∈qs,x.xs.length<=100000:=fun x hx=>by
  have hm:x.xs∈aN qs:=asN (f:=fun x:Sl UInt8=>x.xs) hx;rw[bo]at hm;obtain⟨y,_,hye⟩:=atw.1 hm;rw[←hye];exact auO (ade _ _) (by decide)
 refine nt ?_;refine sh [fz (⟨⟨false,jP,0,aB.at_.xs.length,aB.at_.xs.length,none⟩,qs⟩:Sl (Sl UInt8)),ar b5 (cw aB) 63,fz aB.ae,own bu 1 aB.at_.sv aB.at_.xs,ar b2 (dw nE) 65,ar b1 (aT c) 59] (fun w hw=>ai.mem (Kq (ai.mem hw:Mem _ (own (bT (τ:=UInt8)) 1 ⟨false,jP,0,aB.at_.xs.length,aB.at_.xs.length,none⟩ qs::aj.all (qs.map fun b:Sl UInt8=>fz b)::[ar b5 (cw aB) 63,fz aB.ae,own bu 1 aB.at_.sv aB.at_.xs,ar b2 (dw nE) 65,ar b1 (aT c) 59]) _))) (Gi ?_);refine Gs ?_;refine aX (hc:=aeR (a:=(⟨⟨false,jP,0,aB.at_.xs.length,aB.at_.xs.length,none⟩,qs⟩:Sl (Sl UInt8)))) rfl ⟨by show qs.length<=1000;omega,dW⟩ fun xQ TK=>Gs ?_;refine ag (aJ (v:=xQ.val) rfl rfl) (ag (aJ (v:= .int .i64 (lf (lx (⟨⟨false,jP,0,aB.at_.xs.length,aB.at_.xs.length,none⟩,qs⟩:Sl (Sl UInt8))))) rfl rfl) (aS ?_));refine Gb (fun h4=>?_) fun h4=>?_
 ·
  rw[vO]at h4;have hE:=SZ h0 Bz DT h4;refine Gc ?_;refine ag (dm (v:= .agg (dw nE)) rfl (fun w=>by kernel_rfl)) (au ?_);refine Gr fun w1 hw=>?_;exact⟨(nE,⟨Sv.none,[]⟩),by rw[hE.1];rfl,⟨by rw[hE.1];rfl,by rw[hE.2];rfl⟩,G2 (A5 (ai.mem hw:Mem w [] _))⟩
 have T4:=h4;rw[vO]at T4;have hE:=GZ h0 Bz DT T4;refine al ?_;refine ag (dm (v:= .agg (dw (⟨aB,⟨xQ,jN (lx (⟨⟨false,jP,0,aB.at_.xs.length,aB.at_.xs.length,none⟩,qs⟩:Sl (Sl UInt8)))⟩⟩:dx))) rfl (My aB ⟨xQ,jN (lx (⟨⟨false,jP,0,aB.at_.xs.length,aB.at_.xs.length,none⟩,qs⟩:Sl (Sl UInt8)))⟩)) (aM ?_);refine Gr fun w1 hw=>?_;exact⟨((⟨aB,⟨xQ,jN (lx (⟨⟨false,jP,0,aB.at_.xs.length,aB.at_.xs.length,none⟩,qs⟩:Sl (Sl UInt8)))⟩⟩:dx),(⟨⟨false,jP,0,aB.at_.xs.length,aB.at_.xs.length,none⟩,qs⟩:Sl (Sl UInt8))),by rw[hE.1],⟨by rw[hE.1];simp only[cg,vO,ki],by rw[hE.2];exact vO⟩,S0 (f:=(⟨aB,⟨xQ,jN (lx (⟨⟨false,jP,0,aB.at_.xs.length,aB.at_.xs.length,none⟩,qs⟩:Sl (Sl UInt8)))⟩⟩:dx)) (ai.mem hw:Mem w [fz aB.ae,own bu 1 aB.at_.sv aB.at_.xs,own ay 19 xQ (jN (lx (⟨⟨false,jP,0,aB.at_.xs.length,aB.at_.xs.length,none⟩,qs⟩:Sl (Sl UInt8)))),fz (⟨⟨false,jP,0,aB.at_.xs.length,aB.at_.xs.length,none⟩,qs⟩:Sl (Sl UInt8))] _)⟩)⟩
instance aq8{x:Sv}{xs:List Rt}{y:Sv}{ys:List Rt}[hx:cD w0 L ay 19 x xs][hy:cD w0 L ay 19 y ys]:cE Tryz.prog 168 w0 L [x.val,y.val] (.bool (decide (xs=ys))) (True):=⟨fun aH w hw=>by
 have hx:=hx.h w hw;have hy:=hy.h w hw;have Bb:Gv w x ay 19 xs:=⟨hx⟩;have Tl:Gv w y ay 19 ys:=⟨hy⟩;have hbx:=hx.bd;refine cQ Tryz.func168 rfl Tryz.ntmps168 rfl ?_;refine hU ?_;refine Gb (fun h0=>?_) fun h0=>?_
 ·
  have hz:decide (xs=ys)=false:=decide_eq_false fun e=>h0 (by rw[e]);refine al ?_;refine Gr fun w1 hw=>?_;exact Ge (hz.symm) hw
 have oY:xs.length=ys.length:=by omega
 refine aM ?_;refine bQ (X:=Nat) (fun zz=>[(13, .int .i64 (zz:Nat)),(0,x.val),(1,y.val),(12, .int .i64 (xs.length:Nat))]) (fun zz=>[]) (fun zz=>zz<=xs.length/\ ∀j,j<zz->xs[j]? =ys[j]?) (fun zz=>xs.length -zz) 0 ⟨Nat.zero_le _,fun j hj=>by first|omega|(simp only[];omega)⟩ sb (fun w hw=>ai.mem hw) ?_;rintro i ⟨aZ,aE⟩;refine al ?_;refine Gb (fun h1=>?_) fun h1=>?_
 ·
  obtain⟨p,kS⟩:=get_some (xs:=xs) (i:=i) oM;obtain⟨q,vQ⟩:=get_some (xs:=ys) (i:=i) oM;refine au ?_;refine gJ oK oK (av ?_);refine bC (aW rfl rfl i rfl oM) (bC (iF rfl i kS rfl) (av ?_));refine bC (aW rfl rfl i rfl oM) (bC (iF rfl i vQ rfl) (bC (IS rfl rfl) (Gc ?_)));refine Gb (fun h2=>?_) fun h2=>?_
  ·
   have hz:decide (xs=ys)=false:=decide_eq_false fun e=>h2 (by rw[e]at kS;rw[kS]at vQ;cases vQ;rfl);refine al ?_;refine Gr fun w1 hw=>?_;exact Ge (hz.symm) hw
  refine al ?_;refine Gi ?_;exact bj (x:=(i)) (i+1) ⟨oF,fun j hj=>if e:j=i then(by subst e;rw[kS,vQ,h2])else aE j oF⟩ oF sb (fun w hw=>ai.mem hw)
 obtain rfl:i=xs.length:=by omega
 have hz:decide (xs=ys)=true:=decide_eq_true (atj fun j=>by
  rcases asx j xs.length with hj|hj
  ·
   exact aE j hj
  rw[ast hj,ast oM])
 refine al ?_;refine Gr fun w1 hw=>?_;exact⟨congrArg (fun b=>Ending.returned (Value.bool b)) (hz.symm),ai.mem hw⟩⟩
instance aq9{f:dx}[hf:aU w0 L f]:bN Tryz.prog 99 w0 L [.agg (dw f)] (Sl (Sl UInt8)) (fun zz=> .tuple #[zz.sv.val, .bool (ll (cg f))]) (fun zz=>fz zz::L) (fun zz=>ll (cg f)=true->lx zz=lj {(cg f).aq.ae with off:=false}) (True):=⟨fun aH w hw=>Gk (fun zz=>[fz zz]) hw (by
 have hf:=hf.h w hw;have T5:cL w f:=⟨hf⟩;refine cB Tryz.func99 rfl Tryz.ntmps99 rfl ?_;refine Gc ?_;refine cf rfl fun b1=>aM ?_;refine ag (hK rfl) (bl fun b4=>al ?_);refine eu (cs':=aT (⟨f.aq.ae.pages,f.aq.ae.size,f.aq.ae.blocks,f.aq.ae.ops,false,f.aq.ae.aV⟩:Cp)) rfl rfl (by show 4<6;decide) (by first|rfl|exact Sv.one _) rfl (av ?_);refine aX rfl trivial fun jB xL=>?_;have Hx:cg jB.1=(dz {(cg f).aq.ae with off:=false}).1:=xL.1
 have g1:jB.1.aq.gen.toNat=(dz {(cg f).aq.ae with off:=false}).1.aq.gen:=congrArg (fun z:FV=>z.aq.gen) Hx
 have g2:jB.1.aq.last=(dz {(cg f).aq.ae with off:=false}).1.aq.last:=congrArg (fun z:FV=>z.aq.last) Hx
 have g3:jB.1.aq.at_.xs=(dz {(cg f).aq.ae with off:=false}).1.aq.at_:=congrArg (fun z:FV=>z.aq.at_) Hx
 have g4:jB.1.table.xs=(dz {(cg f).aq.ae with off:=false}).1.table:=congrArg FV.table Hx
 have hS:ll (cg f)=true↔(dz {(cg f).aq.ae with off:=false}).2=0/\f.aq.gen.toNat=jB.1.aq.gen.toNat/\f.aq.last=jB.1.aq.last/\f.aq.at_.xs=jB.1.aq.at_.xs/\f.table.xs=jB.1.table.xs:=by rw[Lr,g1,g2,g3,g4];rfl
 refine Gs ?_;refine ag (aJ (v:= .agg (dw jB.1)) rfl rfl) (ag (aJ (v:=jB.2.sv.val) rfl rfl) (ag (aJ (v:= .int .i64 ((dz (cv (⟨f.aq.ae.pages,f.aq.ae.size,f.aq.ae.blocks,f.aq.ae.ops,false,f.aq.ae.aV⟩:Cp))).2)) rfl rfl) (bl fun b5=>eI ?_)));refine bI rfl rfl rfl (fun hg=>(Ry.yl (aO (o':=7) (aF hg rfl) rfl))) (av ?_);refine bI rfl rfl rfl (fun hg=>(Ry.yl (aO (o':=7) (aF hg rfl) rfl))) (aM ?_);refine bI rfl rfl rfl (fun hg=>(Ry.yl (aO (o':=8) (aF hg rfl) rfl))) (av ?_);refine bI rfl rfl rfl (fun hg=>(Ry.yl (aO (o':=8) (aF hg rfl) rfl))) (au ?_);refine Gb (fun h0=>?_) fun h0=>?_
 ·
  have hE:ll (cg f)=false:=by
   cases hk:ll (cg f)with
   |false=>rfl
   |true=>
    obtain⟨q1,q2,q3,q4,q5⟩:=hS.1 hk;rcases h0 with(h|h)|h
    ·
     exact absurd q1 h
    ·
     omega
    exact absurd q3 h
  refine au ?_;refine Gr fun w1 hw=>?_;exact⟨⟨Sv.none,[]⟩,by rw[hE];rfl,(fun h=>by rw[hE]at h;cases h),A5 (ai.mem hw:Mem w [] _)⟩
 refine PZ ?_;refine bI rfl rfl rfl (fun hg=>cj (eL (aF hg rfl) (eL (aF hg rfl) iV)) trivial) (bI rfl rfl rfl (fun hg=>(Ry.yl (ng (aF hg rfl)))) (av ?_));refine Gb (fun h1=>?_) fun h1=>?_
 ·
  have hE:ll (cg f)=false:=by
   cases hk:ll (cg f)with
   |false=>rfl
   |true=>
    obtain⟨q1,q2,q3,q4,q5⟩:=hS.1 hk;rcases h1 with h|h
    ·
     exact absurd q4 h
    exact absurd q5 h
  refine au ?_;refine Gr fun w1 hw=>?_;exact⟨⟨Sv.none,[]⟩,by rw[hE];rfl,(fun h=>by rw[hE]at h;cases h),A5 (ai.mem hw:Mem w [] _)⟩
 have hE:ll (cg f)=true:=hS.2 ⟨h0.1.1,by have:=h0.1.2;omega,h0.2,h1.1,h1.2⟩;refine aM ?_;refine Gr fun w1 hw=>?_;exact⟨jB.2,by rw[hE],(fun _=>xL.2),ai.mem hw⟩)⟩
instance ara{c:Cp}[hc:aU w0 L c]:bN Tryz.prog 43 w0 L [.agg (aT c)] (dx) (fun zz=> .tuple #[.agg (dw zz), .int .i64 ((dz (cv c)).2)]) (fun zz=>fz zz::L) (fun zz=>cg zz=(dz (cv c)).1) (True):=⟨fun aH w hw=>Gk (fun zz=>[fz zz]) hw (by
 have hc:=hc.h w hw;have ln:cL w c:=⟨hc⟩;refine cB Tryz.func43 rfl Tryz.ntmps43 rfl ?_;refine Gc ?_;refine cf rfl fun b1=>bl fun b2=>al ?_;refine aX rfl trivial fun x9 Ba=>Gs ?_;refine ag (aJ (v:= .agg (dw x9.1)) rfl rfl) (ag (aJ (v:=x9.2.sv.val) rfl rfl) (ag (aJ (v:= .int .i64 ((dz (cv c)).2)) rfl rfl) (bl fun b4=>hU ?_)));refine Gr fun w1 hw=>?_;exact⟨x9.1,rfl,Ba.1,ai.mem hw⟩)⟩
theorem T6(v:cm)(w:World):(Instr.build 65 #[(0, .agg (cw v))]).run Tryz.prog w= .ok (.agg (dw ⟨v,⟨Sv.none,[]⟩⟩)) w:=by
 obtain⟨⟨a1,a2,⟨a3,a4⟩,a5,a6,⟨a7,a8⟩⟩,⟨a9,a10⟩,a11,a12⟩:=v;unfold dw cw;obtain⟨e3,b3,o3,l3,c3,p3⟩:=a3;obtain⟨e7,b7,o7,l7,c7,p7⟩:=a7;obtain⟨e9,b9,o9,l9,c9,p9⟩:=a9
 cases e3<;>cases e7<;>cases e9<;>kernel_rfl
theorem T7{w0 w:World}{L:List aj}{v:cm}(h:Mem w0 (fz v.ae::fz v.at_::L) w):Mem w0 (fz (⟨v,⟨Sv.none,[]⟩⟩:dx)::L) w:=
 G1 (f:=⟨v,⟨Sv.none,[]⟩⟩) ((Dj (a:=⟨Sv.none,[]⟩) (Mem.dj ay 19 h)).perm ((List.Perm.swap _ _ _).trans (List.Perm.cons _ (List.Perm.swap _ _ _))))
instance arb{c:Cp}[hc:aU w0 L c]:bN Tryz.prog 38 w0 L [.agg (aT c)] (dx) (fun zz=> .tuple #[.agg (dw zz), .int .i64 ((rI (cv c)).2)]) (fun zz=>fz zz::L) (fun zz=>cg zz=(rI (cv c)).1) (gO c):=⟨fun aH w hw=>Gk (fun zz=>[fz zz]) hw (by
 have hc:=hc.h w hw;have ln:cL w c:=⟨hc⟩;have lM:gO c:=aH;refine cB Tryz.func38 rfl Tryz.ntmps38 rfl ?_;refine Gc ?_;refine cf rfl fun b1=>bl fun b2=>aS ?_;refine Gb (fun h0=>?_) fun h0=>?_
 ·
  have hE:rI (cv c)=(⟨⟨cv c,[],0,0⟩,[]⟩,1):=by rw[rI,if_pos h0]
  refine av ?_;refine aX rfl (by assumption) fun rQ T8=>ag (dm (v:= .agg (cw (⟨rQ,⟨Sv.none,[]⟩,0,0⟩:cm))) rfl (DL rQ)) (ag (dm (v:= .agg (dw (⟨(⟨rQ,⟨Sv.none,[]⟩,0,0⟩:cm),⟨Sv.none,[]⟩⟩:dx))) rfl (T6 (⟨rQ,⟨Sv.none,[]⟩,0,0⟩:cm))) (al ?_));refine Gr fun w1 hw=>?_;exact⟨(⟨(⟨rQ,⟨Sv.none,[]⟩,0,0⟩:cm),⟨Sv.none,[]⟩⟩:dx),by rw[hE],by rw[hE];simp only[cg,vv,T8];rfl,T7 (v:=(⟨rQ,⟨Sv.none,[]⟩,0,0⟩:cm)) (ai.mem (DM (ai.mem hw:Mem w [fz rQ] _)))⟩
 have hE:rI (cv c)=(⟨(pn (cv c) (eK (cv c))).1,[]⟩,(pn (cv c) (eK (cv c))).2):=by rw[rI,if_neg h0]
 refine Gc ?_;refine ub [3,7,8,2007,4003] [[],[],[],[],[3],[3],[3],[],[3,7],[3,7,8]] [0,1,2,3,4,5,6,7,8,9] [ar b1 (aT c) 59] [(7,nr Tryz.prog 63)] oK (fun _ hw=>ai.mem hw) oK oK (an rfl (jY rfl) (an rfl (jY rfl) (wX rfl (cj rfl trivial) ?_)));refine wY rfl rfl (by assumption) (fun e x w hw=>ai.mem hw) (Cert.one (i:=7) rfl rfl rfl mC (Cert.none rfl)) fun jc Me=>⟨fun _ hw=>ai.mem hw,?_⟩;refine an rfl (bf rfl) (an rfl (aJ (v:= .agg (cw (⟨jc.1,jc.2.1,jc.2.2.1,jc.2.2.2⟩:cm))) rfl rfl) (an rfl (aJ (v:= .int .i64 ((pn (cv c) (eK (cv c))).2)) rfl rfl) (sE (m:=nr Tryz.prog 63) rfl rfl mC (Cert.none rfl) fun b4=>?_)));change Ln _ _ _ _ _ _ _ _ (cJ _ _ (.pointer (some ⟨b4,0,none⟩))) (ar b4 (cw l6) 63::_) _;refine dH rfl (pV rfl rfl ⟨fun _ hw=>ai.mem hw,?_⟩);refine an rfl (hG rfl) (av ?_);refine ag (dm (v:= .agg (dw (⟨(⟨jc.1,jc.2.1,jc.2.2.1,jc.2.2.2⟩:cm),⟨Sv.none,[]⟩⟩:dx))) rfl (T6 (⟨jc.1,jc.2.1,jc.2.2.1,jc.2.2.2⟩:cm))) (au ?_);refine Gr fun w1 hw=>?_;exact⟨(⟨(⟨jc.1,jc.2.1,jc.2.2.1,jc.2.2.2⟩:cm),⟨Sv.none,[]⟩⟩:dx),by rw[hE],by rw[hE];simp only[cg,vv,Me],T7 (v:=(⟨jc.1,jc.2.1,jc.2.2.1,jc.2.2.2⟩:cm)) (ai.mem hw)⟩)⟩
theorem ae0{w0 w:World}{L:List aj}{f:dx}{a:Sl Rt}(h:Mem w0 (fz f::own ay 19 a.sv a.xs::L) w):Mem w0 (fz (⟨f.aq,a⟩:dx)::L) w:=by
 have h2:=(Dj (a:=a) (h.perm (List.Perm.swap _ _ _))).perm (List.Perm.swap _ _ _);refine Mem.freeze (es:=[fz f,fz a]) (⟨f.aq,a⟩:dx) ⟨(h2.sat (fz f) (by simp)).1,h2.sat (fz a) (by simp)⟩ (fun k hk=>?_) h2;rcases hk with hk|hk
 ·
  exact⟨fz f,by simp, .inl hk⟩
 exact⟨fz a,by simp,hk⟩
instance arc{f:dx}[hf:aU w0 L f]:bN Tryz.prog 100 w0 L [.agg (dw f)] (dx) (fun zz=> .agg (dw zz)) (fun zz=>fz zz::L) (fun zz=>cg zz=cg f) (gO f.aq.ae/\f.aq.at_.xs.length<=1000000/\f.table.xs.length<=1000000):=⟨fun aH w hw=>Gk (fun zz=>[fz zz]) hw (by
 have hf:=hf.h w hw;have T5:cL w f:=⟨hf⟩;obtain⟨gq,gy,kH⟩:=aH;refine cB Tryz.func100 rfl Tryz.ntmps100 rfl ?_;refine Gc ?_;refine cf rfl fun b1=>bl fun b2=>al ?_;refine ag (hK rfl) (aX rfl gq fun x6 Tc=>av ?_);refine Cf (cs':=dw ({f with aq:=({f.aq with ae:=x6}:cm)}:dx)) rfl rfl (by show 0+6<=10;decide) rfl (au ?_)
 refine aX rfl gy fun uK TL=>av ?_;refine eu (cs':=dw ({f with aq:=({f.aq with ae:=x6,at_:=⟨uK,f.aq.at_.xs⟩}:cm)}:dx)) rfl rfl (by show 6<10;decide) (by first|rfl|exact Sv.one _) rfl (al ?_)
 refine aX rfl kH fun jc Me=>Gs ?_;refine eu (cs':=dw (⟨({f.aq with ae:=x6,at_:=⟨uK,f.aq.at_.xs⟩}:cm),⟨jc,f.table.xs⟩⟩:dx)) rfl rfl (by show 9<10;decide) (by first|rfl|exact Sv.one _) rfl (au ?_)
 refine Gr fun w1 hw=>?_;exact⟨(⟨({f.aq with ae:=x6,at_:=⟨uK,f.aq.at_.xs⟩}:cm),⟨jc,f.table.xs⟩⟩:dx),rfl,by simp only[cg,vv,Tc],S0 (f:=(⟨({f.aq with ae:=x6,at_:=⟨uK,f.aq.at_.xs⟩}:cm),⟨jc,f.table.xs⟩⟩:dx)) (ai.mem hw)⟩)⟩
end Go.Proofs.YtkggjjnhnjjokaaGreatDoor
namespace Go.Kb
open Go.ax
theorem T9{p q:bt}(h:cO p q=true):bw p=true/\bw q=true:=by
 simp only[cO,alM]at h;exact⟨h.1.1,h.1.2⟩
theorem ae1{p q r:bt}(h:cO p q=true)(h':cO q r=true):cO p r=true:=by
 obtain⟨hp,hq⟩:=T9 h;obtain⟨_,hr⟩:=T9 h';rw[nn hp hq]at h;rw[nn hq hr]at h';rw[nn hp hr];omega
def tok(ps:List bt):Prop:=ps.length<=256/\(∀p∈ps,bw p=true)/\ps.Pairwise fun p q=>cO p q=true
theorem Ua(xs:List Rt): ∀n,n<=xs.length->(sq xs n=true↔(∀p∈(xs.take n).map (·.p),bw p=true)/\((xs.take n).map (·.p)).Pairwise fun p q=>cO p q=true)
 |0,_=>by simp[Pg]
 |n+1,h=>by
  obtain⟨r,hr⟩:=get_some (xs:=xs) (i:=n) (by omega);have e:xs.take (n+1)=xs.take n++[r]:=by rw[asC,hr];rfl
  rw[Js,alM,Ua xs n (by omega),e,as0,auF];simp only[asL,ato,asz,as6,asT,aui,false_implies,implies_true,List.Pairwise.nil,and_self,true_and,and_true]
  cases n with
  |zero=>rw[Jt hr];simp
  |succ m=>
   obtain⟨q,hq⟩:=get_some (xs:=xs) (i:=m) (by omega);rw[Fi hr hq,alM];have e2:xs.take (m+1)=xs.take m++[q]:=by rw[asC,hq];rfl
   constructor
   ·
    rintro⟨⟨h1,h2⟩,h3,h4⟩;refine⟨fun p hp=>hp.elim (h1 p) (fun e=>e▸h3),h2,fun p hp b hb=>?_⟩;subst hb;rw[e2,as0]at hp h2;rcases asz.1 hp with hp|hp
    ·
     have:=(auF.1 h2).2.2 p hp q.p (by simp);exact ae1 this h4
    have:p=q.p:=by simpa using hp
    rw[this];exact h4
   rintro⟨h1,h2,h3⟩;refine⟨⟨fun p hp=>h1 p (.inl hp),h2⟩,h1 _ (.inr rfl),h3 q.p ?_ _ rfl⟩;rw[e2];simp
theorem ae2(xs:List Rt):bF xs=true↔tok (xs.map (·.p)):=by
 rw[bF,alM,Ua xs _ (asu _),asP,decide_eq_true_iff];simp[tok]
theorem ae3{xs:List Rt}(h:bF xs=true): ∀r∈xs,bw r.p=true:=fun r hr=>((ae2 xs).1 h).2.1 r.p (asN hr)
theorem ae4{r:Rt}(h:bw r.p=true):rd (eO r)=some r:=by
 obtain⟨h1,h2,h3,-⟩:=(wR r.p).1 h;have e0:(eO r).getD 0 0=if r.p.bits=128 then 1 else 0:=by simp[List.getD,Ks]
 have e1:(eO r).getD 1 0=bS r.p.len:=by simp[List.getD,Kt]
 have xT:(eO r).getD 18 0=b8 (r.bH.toNat/256):=by simp[List.getD,Kv]
 have BA:(eO r).getD 19 0=b8 r.bH.toNat:=by simp[List.getD,Kw]
 have ok:qM (eO r)=true:=by
  rw[qM,e0];split<;>decide
 rw[Sp,if_pos ok];congr 1;obtain⟨⟨b,l,k⟩,bH⟩:=r;simp only at h1 h2 h3 e0 e1 xT BA;have ek:(nk fun i=>((eO ⟨⟨b,l,k⟩,bH⟩).getD (2+i) 0).toNat)=k:=by
  refine tV fun i hi=>?_;rw[sj _ _ hi];simp only[List.getD,Ku _ i hi,auC,pO];have:=jG k i;omega
 have el:((bS l).toNat:Int)=l:=by
  obtain⟨n,rfl⟩: ∃n:Nat,l=n:=⟨l.toNat,by omega⟩;rw[Q9,pO];omega
 have eh:oL (b8 (bH.toNat/256)) (b8 bH.toNat)=bH:=by
  apply UInt16.toNat_inj.1;have:=bH.toNat_lt;rw[EX,pO,pO];omega
 show(⟨⟨if(eO ⟨⟨b,l,k⟩,bH⟩).getD 0 0=1 then 128 else 32,((eO ⟨⟨b,l,k⟩,bH⟩).getD 1 0).toNat,nk fun i=>((eO ⟨⟨b,l,k⟩,bH⟩).getD (2+i) 0).toNat⟩,oL ((eO ⟨⟨b,l,k⟩,bH⟩).getD 18 0) ((eO ⟨⟨b,l,k⟩,bH⟩).getD 19 0)⟩:Rt)=_;rw[ek,e0,e1,xT,BA,el,eh];congr 2;rcases h1 with rfl|rfl<;>simp
theorem Ub: ∀{l:List Rt},(∀r∈l,bw r.p=true)->mK (l.flatMap eO)=some l
 |[],_=>Si
 |r::l,h=>by
  rw[au9,Lb (by rw[af0,pa];omega),List.take_left' (pa r),List.drop_left' (pa r),ae4 (h r (by simp)),Ub fun r hr=>h r (by simp[hr])];rfl
theorem Uc{t:List Rt}(n:Nat)(h: ∀r∈t,bw r.p=true): ∀k,gW (lJ t k n)=some (t.take (k*n))
 |0=>by simp[lJ,gW]
 |k+1=>by
  rw[acm,GP,Uc n h k,atV,gW,gW,rF,Ub fun r hr=>h r (avd (aum hr))];simp only[as7,atV,asZ,at0];rw[asY,Nat.one_mul,List.take_add]
theorem Ud{t:List Rt}{ids room:Int}(h:kf t ids room=0):jN (k9 t ids room)=t/\lf (k9 t ids room)=0:=by
 obtain⟨h1,h2,h3⟩: ¬jA ids room=0/\bF t=true/\ ¬jA ids room<t.length:=by
  unfold kf at h;split at h
  ·
   cases h
  rename_i hn;split at h
  ·
   cases h
  rename_i hm;exact⟨fun e=>hn (.inr e),by cases hr:bF t;exact absurd (.inl hr) hn;rfl,hm⟩
 have hm:=GO h1;obtain⟨_,hV⟩:=Le h1 h2 h3;have qR:ids*(room/20)=((ids.toNat*(room/20).toNat:Nat):Int):=by
  rw[Int.natCast_mul,atC (by omega),atC (by omega)]
 have hu:gW (k9 t ids room)=some t:=by
  rw[hV,Uc _ (ae3 h2),asy (by omega)]
 exact Ld hu h2
theorem MB{t:List Rt}{ids room:Int}(h:kf t ids room=0): ¬jA ids room=0/\bF t=true/\ ¬jA ids room<t.length/\k9 t ids room=lJ t ids.toNat (room/20).toNat:=by
 unfold kf at h;split at h
 ·
  cases h
 rename_i hn;split at h
 ·
  cases h
 rename_i hm;have h1: ¬jA ids room=0:=fun e=>hn (.inr e);have h2:bF t=true:=by cases hr:bF t;exact absurd (.inl hr) hn;rfl
 exact⟨h1,h2,hm,(Le h1 h2 hm).2⟩
theorem ae5{t:List Rt}{ids room:Int}(h: ¬kf t ids room=0):k9 t ids room=[]:=by rw[k9,if_neg h]
theorem DU{t:List Rt}{ids room:Int}(h:kf t ids room=0):((k9 t ids room).length:Int)=ids/\1<=ids/\ids<=64:=by
 obtain⟨h1,_,_,hV⟩:=MB h;have:=GO h1;rw[hV,xx];omega
theorem ae6{t:List Rt}{ids room:Int}:(k9 t ids room).length<=64/\ ∀x∈k9 t ids room,x.length<=240:=by
 by_cases h:kf t ids room=0
 ·
  have h2:=DU h;obtain⟨h1,_,_,hV⟩:=MB h;have hm:=GO h1;refine⟨by omega,fun x hx=>?_⟩;rw[hV]at hx;obtain⟨j,_,rfl⟩:=atw.1 hx;have:=La t (room/20).toNat j;omega
 rw[ae5 h];simp
theorem Ue(a:List (List UInt8)):fe a a=[]:=by
 rw[fe,oh,List.filterMap_eq_nil_iff];intro i _;rw[uw,if_pos rfl]
theorem ae7{a b:List (List UInt8)}(hl:a.length=b.length):fe a b=[]↔a=b:=by
 refine⟨fun h=>?_,fun h=>by rw[h,Ue]⟩;rw[fe,oh,List.filterMap_eq_nil_iff,hl,Nat.max_self]at h;refine atj fun i=>?_
 by_cases hi:i<b.length
 ·
  have:=h i (asU.2 hi);unfold uw at this;split at this
  ·
   rename_i he;rw[asr (by omega),asr hi];simpa[List.getD,hi,show i<a.length by omega]using he
  cases this
 rw[ast (by omega),ast (by omega)]
theorem MC{a b:List (List UInt8)}{n:Nat}{p:Int×List UInt8}(h:p∈oh a b n): ∃i:Nat,i<n/\p=((i:Int),b.getD i [])/\ ¬a.getD i []=b.getD i []:=by
 rw[oh,List.mem_filterMap]at h;obtain⟨i,hi,he⟩:=h;unfold uw at he;split at he
 ·
  cases he
 rename_i hn;exact⟨i,asU.1 hi,(aso he).symm,hn⟩
theorem Hy(a b:List (List UInt8)): ∀n,(oh a b n).Pairwise fun p q=>p.1<q.1
 |0=>List.Pairwise.nil
 |n+1=>by
  by_cases h:a.getD n []=b.getD n []
  ·
   rw[Sn h];exact Hy a b n
  rw[So h,auF];refine⟨Hy a b n,List.pairwise_singleton _ _,fun p hp q hq=>?_⟩;obtain⟨i,hi,rfl,_⟩:=MC hp;obtain rfl:=as6.1 hq;simp only;omega
end Go.Kb
namespace Go.Proofs.YtkggjjnhnjjokaaGreatDoor
open Go.ax Go.Kb Go.RowKit
variable {w0:World}{L:List aj}
instance ard{f:dx}{l:Sv}{ls:List Ch}[hf:aU w0 L f][hl:cD w0 L cq 20 l ls]:bN Tryz.prog 39 w0 L [.agg (dw f),l.val] (dx) (fun zz=> .tuple #[.agg (dw zz), .int .i64 ((cG (cg f) ls).2)]) (fun zz=>fz zz::L) (fun zz=>cg zz=(cG (cg f) ls).1) (gO f.aq.ae/\f.aq.at_.xs.length<=1000000/\f.table.xs.length<=1000000):=⟨fun aH w hw=>Gk (fun zz=>[fz zz]) hw (by
 have hf:=hf.h w hw;have hl:=hl.h w hw;have T5:cL w f:=⟨hf⟩;have pw:Gv w l cq 20 ls:=⟨hl⟩;have zI:=aH;obtain⟨gq,gy,kH⟩:=aH;refine cQ Tryz.func39 rfl Tryz.ntmps39 rfl ?_;refine Gc ?_;refine cf rfl fun b2=>bl fun b4=>al ?_;refine aX rfl trivial fun MD ae8=>Gs ?_;refine ag (aJ (v:=MD.sv.val) rfl rfl) (ag (aJ (v:= .bool (ll (cg f))) rfl rfl) (aS ?_));refine Gb (fun h0=>?_) fun h0=>?_
 ·
  have hE:(cG (cg f) ls)=(cg f,1):=adg h0;refine av ?_;refine aX rfl zI fun eQ tg=>al ?_;refine Gr fun w1 hw=>?_;exact⟨eQ,by rw[hE],by rw[hE];exact tg,ai.mem hw⟩
 have wS:lx MD=eV (cg f):=ae8 h0;refine au ?_;refine aX rfl kH fun iP qd=>Gs ?_;refine ag (aJ (v:=iP.val) rfl rfl) (ag (aJ (v:= .int .i64 (cx f.table.xs ls)) rfl rfl) (aS ?_));refine Gb (fun h1=>?_) fun h1=>?_
 ·
  have hE:(cG (cg f) ls)=(cg f,cx f.table.xs ls):=S3 h0 h1;refine av ?_;refine aX rfl zI fun aD xM=>au ?_;refine Gr fun w1 hw=>?_;exact⟨aD,by rw[hE],by rw[hE];exact xM,ai.mem hw⟩
 refine Gc ?_;refine iY [10] [[],[],[],[],[],[],[],[],[],[],[],[10],[10],[10],[10],[10]] [0,1,2,3,4,5,6,7,8,9,10,11,12,13,14,15] _ (fun _ hw=>hw) oK oK (an rfl (bf rfl) (an rfl (aO (o':=0) rfl rfl) (an rfl (aO (o':=0) rfl rfl) (an rfl (hK rfl) (wX rfl (cj rfl trivial) (an rfl (aO (o':=0) rfl rfl) (an rfl (aO (o':=0) rfl rfl) (an rfl (aO (o':=1) rfl rfl) (an rfl (bY rfl) (wX rfl (cj rfl trivial) (dH rfl (pU rfl trivial fun tm T2=>⟨fun _ hw=>ai.mem hw,?_⟩))))))))))));refine an rfl (bf rfl) (an rfl (aJ (v:=tm.sv.val) rfl rfl) (an rfl (aJ (v:= .int .i64 (kf (bM f.table.xs ls) (eK (cv f.aq.ae)) (dV f.aq.ae.size))) rfl rfl) (an rfl (hG rfl) (an rfl (hG rfl) (au ?_)))));refine Gb (fun h2=>?_) fun h2=>?_
 ·
  have hE:(cG (cg f) ls)=(cg f,(kf (bM f.table.xs ls) (eK (cv f.aq.ae)) (dV f.aq.ae.size))):=S4 h0 h1 h2;refine av ?_;refine aX rfl zI fun x51 ae9=>au ?_;refine Gr fun w1 hw=>?_;exact⟨x51,by rw[hE],by rw[hE];exact ae9,ai.mem hw⟩
 have rC:lx tm=dF (cg f) ls:=T2;have A9:(eV (cg f)).length<=64:=adf _;have Mr:MD.xs.length<=1000000:=by rw[←wS,yw]at A9;omega
 have Hs:(dF (cg f) ls).length<=64/\ ∀x∈dF (cg f) ls,x.length<=240:=ae6;have afa:tm.xs.length<=1000000:=by have:=Hs.1;rw[←rC,yw]at this;omega
 have afb: ∀x∈tm.xs,x.xs.length<=140737488355328:=fun x hx=>by
  have hm:x.xs∈lx tm:=asN (f:=fun x:Sl UInt8=>x.xs) hx;rw[rC]at hm;have:=Hs.2 _ hm;omega
 refine al ?_;refine aX rfl ⟨Mr,afa,afb⟩ fun rR Uf=>aS ?_;refine Gb (fun h3=>?_) fun h3=>?_
 ·
  have DV:fe (eV (cg f)) (dF (cg f) ls)=[]:=by rw[←wS,←rC,←Uf,Ap,asI.1 (by omega:rR.xs.length=0)];rfl
  have hE:(cG (cg f) ls)=(⟨(cg f).aq,(bM f.table.xs ls)⟩,0):=S5 h0 h1 h2 DV;refine av ?_;refine aX rfl zI fun wa Ug=>au ?_;refine eu (cs':=dw (⟨wa.aq,⟨iP,(bM f.table.xs ls)⟩⟩:dx)) rfl rfl (by show 9<10;decide) (by first|rfl|exact Sv.one _) rfl (aM ?_);refine Gr fun w1 hw=>?_;exact⟨(⟨wa.aq,⟨iP,(bM f.table.xs ls)⟩⟩:dx),by rw[hE],by rw[hE,←Ug];rfl,ae0 (f:=wa) (ai.mem hw:Mem w [fz wa,own ay 19 iP (bM f.table.xs ls)] _)⟩
 have DV:fe (eV (cg f)) (dF (cg f) ls)=rR.xs.map bq:=by rw[←wS,←rC,←Uf];rfl
 have h3n: ¬fe (eV (cg f)) (dF (cg f) ls)=[]:=by rw[DV];intro h;have:=congrArg List.length h;rw[as8,asn]at this;omega
 have afc:rR.xs.length<=1000000:=by have:=congrArg List.length DV;have hq:=GR (eV (cg f)) (dF (cg f) ls) (max (eV (cg f)).length (dF (cg f) ls).length);rw[as8]at this;have h7:=Hs.1;rw[fe]at this;omega
 have vY:=G4 h0 h1 h2 h3n;rw[DV]at vY;refine av ?_;refine ag (hK rfl) (Gs ?_);refine aX rfl ⟨gq,gy,afc⟩ fun fg L5=>Gs ?_;refine ag (aJ (v:= .agg (cw (⟨fg.1,fg.2.1,fg.2.2.1,fg.2.2.2⟩:cm))) rfl rfl) (ag (aJ (v:= .int .i64 ((fV (vv f.aq) (rR.xs.map bq)).2)) rfl rfl) (bl fun xI=>aS ?_));refine Gb (fun h4=>?_) fun h4=>?_
 ·
  have hE:(cG (cg f) ls)=(⟨(fV (vv f.aq) (rR.xs.map bq)).1,f.table.xs⟩,(fV (vv f.aq) (rR.xs.map bq)).2):=vY.trans (congrArg (fun z=>((⟨(fV (vv f.aq) (rR.xs.map bq)).1,z⟩:FV),(fV (vv f.aq) (rR.xs.map bq)).2)) (if_pos h4));refine Gi ?_;refine av ?_;refine aX rfl kH fun BB are=>au ?_;refine ag (dm (v:= .agg (dw (⟨(⟨fg.1,fg.2.1,fg.2.2.1,fg.2.2.2⟩:cm),⟨BB,f.table.xs⟩⟩:dx))) rfl (My (⟨fg.1,fg.2.1,fg.2.2.1,fg.2.2.2⟩:cm) ⟨BB,f.table.xs⟩)) (au ?_);refine Gr fun w1 hw=>?_;exact⟨(⟨(⟨fg.1,fg.2.1,fg.2.2.1,fg.2.2.2⟩:cm),⟨BB,f.table.xs⟩⟩:dx),by rw[hE],by rw[hE];simp only[cg,vv,L5],G1 (f:=(⟨(⟨fg.1,fg.2.1,fg.2.2.1,fg.2.2.2⟩:cm),⟨BB,f.table.xs⟩⟩:dx)) (ai.mem (Dj (a:=(⟨BB,f.table.xs⟩:Sl Rt)) (ai.mem hw:Mem w [own ay 19 BB f.table.xs,fz fg.1,fz fg.2.1] _)))⟩
 have hE:(cG (cg f) ls)=(⟨(fV (vv f.aq) (rR.xs.map bq)).1,(bM f.table.xs ls)⟩,(fV (vv f.aq) (rR.xs.map bq)).2):=vY.trans (congrArg (fun z=>((⟨(fV (vv f.aq) (rR.xs.map bq)).1,z⟩:FV),(fV (vv f.aq) (rR.xs.map bq)).2)) (if_neg (fun h=>h h4)));refine al ?_;refine ag (dm (v:= .agg (dw (⟨(⟨fg.1,fg.2.1,fg.2.2.1,fg.2.2.2⟩:cm),⟨iP,(bM f.table.xs ls)⟩⟩:dx))) rfl (My (⟨fg.1,fg.2.1,fg.2.2.1,fg.2.2.2⟩:cm) ⟨iP,(bM f.table.xs ls)⟩)) (au ?_);refine Gr fun w1 hw=>?_;exact⟨(⟨(⟨fg.1,fg.2.1,fg.2.2.1,fg.2.2.2⟩:cm),⟨iP,(bM f.table.xs ls)⟩⟩:dx),by rw[hE],by rw[hE];simp only[cg,vv,L5],G1 (f:=(⟨(⟨fg.1,fg.2.1,fg.2.2.1,fg.2.2.2⟩:cm),⟨iP,(bM f.table.xs ls)⟩⟩:dx)) (ai.mem (Dj (a:=(⟨iP,(bM f.table.xs ls)⟩:Sl Rt)) (ai.mem hw:Mem w [own ay 19 iP (bM f.table.xs ls),fz fg.1,fz fg.2.1] _)))⟩)⟩
theorem afd(n s:Int)(b:Sv)(xs:List Bk)(w:World):(Instr.build 59 #[(0, .int .i64 n),(1, .int .i64 s),(2,b.val)]).run Tryz.prog w= .ok (.agg (aT ⟨n,s,⟨b,xs⟩,0,false,⟨Sv.none,[]⟩⟩)) w:=by
 unfold aT;obtain⟨e,b,o,l,c,p⟩:=b
 cases e<;>kernel_rfl
instance arf{b:Int}{n:Int}{s:Int}:bN Tryz.prog 37 w0 L [.int .i64 b, .int .i64 n, .int .i64 s] (Cp) (fun zz=> .tuple #[.agg (aT zz), .int .i64 ((rp b n s).2)]) (fun zz=>fz zz::L) (fun zz=>cv zz=(rp b n s).1) (True):=⟨fun aH w hw=>Gk (fun zz=>[fz zz]) hw (by
 refine vn Tryz.func37 rfl Tryz.ntmps37 rfl ?_;refine Gc ?_;refine bl fun b6=>eI ?_;refine Gb (fun h0=>?_) fun h0=>?_
 ·
  have hN:rp b n s=(⟨0,0,[],0,false,[]⟩,1):=by rw[rp,if_neg (by rw[h0];simp)]
  refine Gc ?_;refine ag (dm (v:= .agg (aT gT)) rfl (fun w=>by kernel_rfl)) (al ?_);refine Gr fun w1 hw=>?_;exact⟨gT,by rw[hN],by rw[hN];rfl,Q5 (d:=gT) rfl (show Mem w [own bZ 4 Sv.none [],aj.all []] _ from ai.mem (Mem.yI (Mem.dj bZ 4 (ai.mem hw:Mem w [] _))))⟩
 have iO:=lX.1 h0;have hN:rp b n s=(⟨n,s,List.replicate b.toNat (⟨List.replicate n.toNat (ie s),0,0,false⟩:BV),0,false,[]⟩,0):=by rw[rp,if_pos h0]
 refine au ?_;refine sg (enc:=bZ) (n:=b.toNat) (cap:=b.toNat) qF rfl rfl rfl oM oM oM oM oM fun iq=>ag (dm (v:= .agg (aT (⟨n,s,⟨⟨false,iq,0,b.toNat,b.toNat,none⟩,[]⟩,0,false,⟨Sv.none,[]⟩⟩:Cp))) rfl (afd n s ⟨false,iq,0,b.toNat,b.toNat,none⟩ [])) (bl fun b8=>aM ?_);refine bQ (X:=Nat×List Bk) (fun zz=>[(23, .int .i64 (zz.1:Nat)),(8, .pointer (some ⟨b8,0,none⟩)),(1, .int .i64 n),(2, .int .i64 s),(6, .pointer (some ⟨b6,0,none⟩)),(22, .int .i64 b)]) (fun zz=>[own bZ 4 ⟨false,iq,0,b.toNat,b.toNat,none⟩ zz.2,aj.all ((zz.2.take zz.1).map fun b:Bk=>fz b.pages),ar b8 (aT (⟨n,s,⟨⟨false,iq,0,b.toNat,b.toNat,none⟩,[]⟩,0,false,⟨Sv.none,[]⟩⟩:Cp)) 59,ar b6 (aT gT) 59]) (fun zz=>zz.1<=b.toNat/\zz.2.length=b.toNat/\(zz.2.take zz.1).map bv=List.replicate zz.1 (⟨List.replicate n.toNat (ie s),0,0,false⟩:BV)/\ ∀j,zz.1<=j->j<b.toNat->zz.2[j]? =Option.some qF) (fun zz=>b.toNat -zz.1) (0,List.replicate b.toNat qF) ⟨Nat.zero_le _,by simp,by simp,fun j _ hj=>by simp[hj]⟩ sb (fun w hw=>by
  simp only[asW,ato];exact ai.mem (Mem.yI hw)) ?_
 rintro⟨i,zs⟩ ⟨aZ,aE,bo,dn⟩;dsimp only;simp only at aZ aE bo dn;refine al ?_;refine Gb (fun h1=>?_) fun h1=>?_
 ·
  obtain⟨z,hz⟩:=get_some (xs:=zs) (i:=i) oM;obtain rfl:z=qF:=aso (hz.symm.trans (dn i (asu _) oM));have afe:=Gl (b:=iq) (n:=b.toNat) oM;refine au ?_;refine iY [4,7] [[],[],[],[],[],[4],[4],[4]] [0,1,2,3,4,5,6,7] [ar b8 (aT (⟨n,s,⟨⟨false,iq,0,b.toNat,b.toNat,none⟩,[]⟩,0,false,⟨Sv.none,[]⟩⟩:Cp)) 59] (fun _ hw=>ai.mem hw) oK oK (an rfl (aO (o':=2) rfl rfl) (an rfl (bY rfl) (an rfl (bf rfl) (an rfl (bf rfl) (dH rfl (PQ (enc:=bT (τ:=UInt8)) (n:=n.toNat) (cap:=n.toNat) (⟨Sv.none,[]⟩:Sl UInt8) rfl rfl rfl oM oM oM oM oM fun gv=>⟨fun _ hw=>ai.mem hw,?_⟩))))));obtain⟨e31,arh⟩:=get_some (xs:=zs) (i:=i) oM;refine an rfl (mz (s:=⟨false,iq,0,b.toNat,b.toNat,none⟩) (i:=i) rfl rfl rfl afe (by simp only;omega)) (an rfl (aO rfl rfl) ?_);refine dH rfl (wW (s:=⟨false,iq,0,b.toNat,b.toNat,none⟩) (n:=1) (k:=i) (j:=0) (a:=qF) (a':=⟨⟨⟨false,gv,0,n.toNat,n.toNat,none⟩,[]⟩,0,0,false⟩) (xs:=zs) (enc:=bZ) (c:=4) (v:=(⟨false,gv,0,n.toNat,n.toNat,none⟩:Sv).val) oK rfl rfl rfl hz (by rw[Sv.iX];simp[Sv.one]) (by rw[Sv.iX];rfl) (by decide) (by rw[Sv.iX];rfl) ⟨fun _ hw=>ai.mem hw,?_⟩);refine ky ?_;have Uh:(zs.set i ⟨⟨⟨false,gv,0,n.toNat,n.toNat,none⟩,[]⟩,0,0,false⟩)[i]? =Option.some (⟨⟨⟨false,gv,0,n.toNat,n.toNat,none⟩,[]⟩,0,0,false⟩:Bk):=asJ oM;have qP:(zs.set i ⟨⟨⟨false,gv,0,n.toNat,n.toNat,none⟩,[]⟩,0,0,false⟩).length=b.toNat:=by rw[as1];exact aE
  refine Gi ?_;refine al ?_;refine bQ (X:=Nat×List (Sl UInt8)) (fun zz=>[(34, .int .i64 (zz.1:Nat)),(8, .pointer (some ⟨b8,0,none⟩)),(1, .int .i64 n),(2, .int .i64 s),(6, .pointer (some ⟨b6,0,none⟩)),(9, .int .i64 (i:Nat)),(22, .int .i64 b),(23, .int .i64 (i:Nat)),(33, .int .i64 n)]) (fun zz=>[own (bT (τ:=UInt8)) 1 ⟨false,gv,0,n.toNat,n.toNat,none⟩ zz.2,aj.all ((zz.2.take zz.1).map fun b:Sl UInt8=>fz b),own bZ 4 ⟨false,iq,0,b.toNat,b.toNat,none⟩ (zs.set i ⟨⟨⟨false,gv,0,n.toNat,n.toNat,none⟩,[]⟩,0,0,false⟩),aj.all ((zs.take i).map fun b:Bk=>fz b.pages),ar b8 (aT (⟨n,s,⟨⟨false,iq,0,b.toNat,b.toNat,none⟩,[]⟩,0,false,⟨Sv.none,[]⟩⟩:Cp)) 59,ar b6 (aT gT) 59]) (fun zz=>zz.1<=n.toNat/\zz.2.length=n.toNat/\aN (zz.2.take zz.1)=List.replicate zz.1 (ie s)) (fun zz=>n.toNat -zz.1) (0,List.replicate n.toNat ⟨Sv.none,[]⟩) ⟨Nat.zero_le _,by simp,by simp[aN]⟩ sb (fun w hw=>by
   simp only[asW,ato];exact ai.mem (Mem.yI hw)) ?_
  rintro⟨j,qs⟩ ⟨ja,dJ,ik⟩;dsimp only;simp only at ja dJ ik;refine al ?_;refine Gb (fun h2=>?_) fun h2=>?_
  ·
   obtain⟨y,hy⟩:=get_some (xs:=qs) (i:=j) oM;have aff:=Gl (b:=gv) (n:=n.toNat) oM;refine au ?_;refine iY [8,10] [[],[],[],[],[],[],[],[],[],[8],[8]] [0,1,2,3,4,5,6,7,8,9,10] [ar b8 (aT (⟨n,s,⟨⟨false,iq,0,b.toNat,b.toNat,none⟩,[]⟩,0,false,⟨Sv.none,[]⟩⟩:Cp)) 59,own bZ 4 ⟨false,iq,0,b.toNat,b.toNat,none⟩ (zs.set i ⟨⟨⟨false,gv,0,n.toNat,n.toNat,none⟩,[]⟩,0,0,false⟩)] (fun _ hw=>ai.mem hw) oK oK (an rfl (aO (o':=2) rfl rfl) (an rfl (bY rfl) (an rfl (bf rfl) ?_)));obtain⟨e40,aeX⟩:=get_some (xs:=(zs.set i ⟨⟨⟨false,gv,0,n.toNat,n.toNat,none⟩,[]⟩,0,0,false⟩)) (i:=i) oM;refine an rfl (aW (s:=⟨false,iq,0,b.toNat,b.toNat,none⟩) (xs:=(zs.set i ⟨⟨⟨false,gv,0,n.toNat,n.toNat,none⟩,[]⟩,0,0,false⟩)) rfl rfl i rfl oM) (an rfl (aO rfl rfl) (an rfl (Ry.to (v':=(⟨false,gv,0,n.toNat,n.toNat,none⟩:Sv).val) (bE (s:=⟨false,iq,0,b.toNat,b.toNat,none⟩) (j:=0) rfl i Uh rfl (by decide)) rfl) (an rfl (bf rfl) (an rfl (bf rfl) (dH rfl (PQ (enc:=aG) (n:=s.toNat) (cap:=s.toNat) 0 rfl rfl rfl oM oM oM oM oM fun rS=>⟨fun _ hw=>ai.mem hw,?_⟩))))));obtain⟨e46,ari⟩:=get_some (xs:=qs) (i:=j) oM;refine an rfl (mz (s:=⟨false,gv,0,n.toNat,n.toNat,none⟩) (i:=j) rfl rfl rfl aff (by simp only;omega)) (dH rfl (Zs (s:=⟨false,gv,0,n.toNat,n.toNat,none⟩) (xs:=qs) (k:=j) (a:=y) (⟨⟨false,rS,0,s.toNat,s.toNat,none⟩,ie s⟩:Sl UInt8) oK rfl rfl oM hy ⟨fun _ hw=>ai.mem hw,?_⟩));refine au ?_;obtain⟨e50,arj⟩:=get_some (xs:=(zs.set i ⟨⟨⟨false,gv,0,n.toNat,n.toNat,none⟩,[]⟩,0,0,false⟩)) (i:=i) oM;refine ag (aW (s:=⟨false,iq,0,b.toNat,b.toNat,none⟩) (xs:=(zs.set i ⟨⟨⟨false,gv,0,n.toNat,n.toNat,none⟩,[]⟩,0,0,false⟩)) rfl rfl i rfl oM) (ag (aO rfl rfl) (ag (Ry.to (v':=(⟨false,gv,0,n.toNat,n.toNat,none⟩:Sv).val) (bE (s:=⟨false,iq,0,b.toNat,b.toNat,none⟩) (j:=0) rfl i Uh rfl (by decide)) rfl) (Gs ?_)));refine ag (aW rfl rfl j rfl (by rw[as1];omega)) (ag (Ry.to (v':= .slice (some ⟨(⟨false,rS,0,s.toNat,s.toNat,none⟩:Sv).b,(⟨false,rS,0,s.toNat,s.toNat,none⟩:Sv).o+0,none⟩) s.toNat s.toNat) (bE (s:=⟨false,gv,0,n.toNat,n.toNat,none⟩) (xs:=qs.set j (⟨⟨false,rS,0,s.toNat,s.toNat,none⟩,ie s⟩:Sl UInt8)) (j:=0) rfl j (asJ oM) rfl (by decide)) rfl) ?_);refine aX (hc:=adu (rm:=⟨false,rS,0,s.toNat,s.toNat,none⟩) (k:=0) (n:=s.toNat) (cap:=s.toNat) (xs:=List.replicate s.toNat 0)) rfl ⟨by simp,by omega⟩ fun Hp Mf=>al ?_;refine Gi ?_;exact bj (x:=(j,qs)) (j+1,qs.set j (⟨⟨false,rS,0,s.toNat,s.toNat,none⟩,ie s⟩:Sl UInt8)) ⟨oF,by rw[as1];exact dJ,by rw[aN,Gj hy,←aN,ik,List.replicate_succ']⟩ (by simp only;omega) sb (fun w hw=>by
    have h1:=Ki (a:=(⟨⟨false,rS,0,s.toNat,s.toNat,none⟩,ie s⟩:Sl UInt8)) (by
     simp only[asW,atc,as3,List.drop_replicate,atS,List.replicate_zero,asZ]at hw;exact(ai.mem hw:Mem _ (own aG 1 ⟨false,rS,0,s.toNat,s.toNat,none⟩ (List.replicate s.toNat 255)::[own (bT (τ:=UInt8)) 1 ⟨false,gv,0,n.toNat,n.toNat,none⟩ (qs.set j (⟨⟨false,rS,0,s.toNat,s.toNat,none⟩,ie s⟩:Sl UInt8)),aj.all ((qs.take j).map fun b:Sl UInt8=>fz b),own bZ 4 ⟨false,iq,0,b.toNat,b.toNat,none⟩ (zs.set i ⟨⟨⟨false,gv,0,n.toNat,n.toNat,none⟩,[]⟩,0,0,false⟩),aj.all ((zs.take i).map fun b:Bk=>fz b.pages),ar b8 (aT (⟨n,s,⟨⟨false,iq,0,b.toNat,b.toNat,none⟩,[]⟩,0,false,⟨Sv.none,[]⟩⟩:Cp)) 59,ar b6 (aT gT) 59]) _))
    have h3:=Mem.AK (ai.mem h1:Mem _ (fz (⟨⟨false,rS,0,s.toNat,s.toNat,none⟩,ie s⟩:Sl UInt8)::aj.all ((qs.take j).map fun b:Sl UInt8=>fz b)::[own (bT (τ:=UInt8)) 1 ⟨false,gv,0,n.toNat,n.toNat,none⟩ (qs.set j (⟨⟨false,rS,0,s.toNat,s.toNat,none⟩,ie s⟩:Sl UInt8)),own bZ 4 ⟨false,iq,0,b.toNat,b.toNat,none⟩ (zs.set i ⟨⟨⟨false,gv,0,n.toNat,n.toNat,none⟩,[]⟩,0,0,false⟩),aj.all ((zs.take i).map fun b:Bk=>fz b.pages),ar b8 (aT (⟨n,s,⟨⟨false,iq,0,b.toNat,b.toNat,none⟩,[]⟩,0,false,⟨Sv.none,[]⟩⟩:Cp)) 59,ar b6 (aT gT) 59]) _);rw[Kr (z':=(⟨⟨false,rS,0,s.toNat,s.toNat,none⟩,ie s⟩:Sl UInt8)) hy]at h3;exact ai.mem h3)
  have wB:j=n.toNat:=by omega
  have iu:j=qs.length:=by omega
  rw[asy oM]at ik;refine al ?_;refine Gi ?_;exact bj (x:=(i,zs)) (i+1,zs.set i (⟨⟨⟨false,gv,0,n.toNat,n.toNat,none⟩,qs⟩,0,0,false⟩:Bk)) ⟨oF,by rw[as1];exact aE,by rw[Gj hz,bo,List.replicate_succ',show bv (⟨⟨⟨false,gv,0,n.toNat,n.toNat,none⟩,qs⟩,0,0,false⟩:Bk)=(⟨List.replicate n.toNat (ie s),0,0,false⟩:BV) by rw[bv,ik,wB]],fun k hk oJ=>by rw[asS oF];exact dn k oF oJ⟩ (by simp only;omega) sb (fun w hw=>by
   rw[asy oM]at hw;have h1:=Kq (ai.mem hw:Mem _ (own (bT (τ:=UInt8)) 1 ⟨false,gv,0,n.toNat,n.toNat,none⟩ qs::aj.all (qs.map fun b:Sl UInt8=>fz b)::[own bZ 4 ⟨false,iq,0,b.toNat,b.toNat,none⟩ (zs.set i ⟨⟨⟨false,gv,0,n.toNat,n.toNat,none⟩,[]⟩,0,0,false⟩),aj.all ((zs.take i).map fun b:Bk=>fz b.pages),ar b8 (aT (⟨n,s,⟨⟨false,iq,0,b.toNat,b.toNat,none⟩,[]⟩,0,false,⟨Sv.none,[]⟩⟩:Cp)) 59,ar b6 (aT gT) 59]) _);have h2:=Kj (ys:=zs.set i (⟨⟨⟨false,gv,0,n.toNat,n.toNat,none⟩,qs⟩,0,0,false⟩:Bk)) (by rw[auP,auP];rfl) (ai.mem h1:Mem _ (own bZ 4 ⟨false,iq,0,b.toNat,b.toNat,none⟩ (zs.set i ⟨⟨⟨false,gv,0,n.toNat,n.toNat,none⟩,[]⟩,0,0,false⟩)::[fz (⟨⟨false,gv,0,n.toNat,n.toNat,none⟩,qs⟩:Sl (Sl UInt8)),aj.all ((zs.take i).map fun b:Bk=>fz b.pages),ar b8 (aT (⟨n,s,⟨⟨false,iq,0,b.toNat,b.toNat,none⟩,[]⟩,0,false,⟨Sv.none,[]⟩⟩:Cp)) 59,ar b6 (aT gT) 59]) _);have h3:=Mem.AK (ai.mem h2:Mem _ (fz (⟨⟨false,gv,0,n.toNat,n.toNat,none⟩,qs⟩:Sl (Sl UInt8))::aj.all ((zs.take i).map fun b:Bk=>fz b.pages)::[own bZ 4 ⟨false,iq,0,b.toNat,b.toNat,none⟩ (zs.set i (⟨⟨⟨false,gv,0,n.toNat,n.toNat,none⟩,qs⟩,0,0,false⟩:Bk)),ar b8 (aT (⟨n,s,⟨⟨false,iq,0,b.toNat,b.toNat,none⟩,[]⟩,0,false,⟨Sv.none,[]⟩⟩:Cp)) 59,ar b6 (aT gT) 59]) _);rw[Q6 (z':=(⟨⟨⟨false,gv,0,n.toNat,n.toNat,none⟩,qs⟩,0,0,false⟩:Bk)) hz]at h3;exact ai.mem h3)
 obtain rfl:i=zs.length:=by omega
 rw[asP]at bo;refine aM ?_;refine Gr fun w1 hw=>?_;exact⟨⟨n,s,⟨⟨false,iq,0,b.toNat,b.toNat,none⟩,zs⟩,0,false,⟨Sv.none,[]⟩⟩,by rw[hN];rfl,by rw[hN];simp only[cv,jh];rw[bo,aE],Q5 rfl (by rw[asP]at hw;exact ai.mem hw)⟩)⟩
theorem ark(w:World)(c:UInt8):Calls Tryz.prog 211 #[.int .u8 (c.toNat:Nat)] w fun e w'=>e= .returned (.int .i64 (sA c))/\Mem w [] w':=by
 refine cB Tryz.func211 rfl Tryz.ntmps211 rfl ?_;refine sF ?_;refine Gb (fun h0=>?_) fun h0=>?_
 ·
  refine av ?_;refine ag (Fa (p:=c.toNat) (q:=48) rfl rfl rfl rfl oM) (ag (gH rfl (by simp only[nb];omega)) (av ?_));refine Gr fun w1 hw=>?_;exact Gf ((by simp only[sA,lu];rw[if_pos oM])) hw
 refine eI ?_;refine Gb (fun h1=>?_) fun h1=>?_
 ·
  refine av ?_;refine ag (Fa (p:=c.toNat) (q:=97) rfl rfl rfl rfl oM) (ag (gH rfl (by simp only[nb];omega)) (al ?_));refine Gr fun w1 hw=>?_;exact Gf ((by simp only[sA,lu];rw[if_neg oM,if_pos oM];simp only[];omega)) hw
 refine al ?_;refine Gr fun w1 hw=>?_;exact Gf ((by simp only[sA,lu];rw[if_neg oM,if_neg oM])) hw
theorem arl(w:World)(s:List UInt8)(top:Nat)(aH:top<=65535):Calls Tryz.prog 210 #[.string ⟨s.toArray⟩, .int .i64 (top:Nat)] w fun e w'=>e= .returned (.int .i64 (CA s top))/\Mem w [] w':=by
 refine cQ Tryz.func210 rfl Tryz.ntmps210 rfl ?_;refine au ?_;refine ag (si (s:=s) Tryz.underlying9 rfl) (al ?_);refine bI rfl rfl rfl (fun hg=>(Ry.yl (si (s:=s) Tryz.underlying9 (aF hg rfl)))) (au ?_);refine bI rfl rfl rfl (fun hg=>(Ry.yl (si (s:=s) Tryz.underlying9 (aF hg rfl)))) (Gg ?_);refine bI rfl rfl rfl (fun hg=>(Ry.yl (bf (aF hg rfl)))) (oA rfl rfl rfl (fun hg=>(Ry.yl (bf rfl))) (oA rfl rfl rfl (fun hg=>(Ry.yl (ve (s:=s) 0 Tryz.underlying9 (aF hg rfl) rfl rfl (by simp only[Z0,Z1,Z2,Z3,Z4,Z5,Z6,Z7,Z8,Z9]at hg;omega)))) (oA rfl rfl rfl (fun hg=>(Ry.yl (et (aF hg rfl) rfl rfl))) (bI rfl rfl rfl (fun hg=>(Ry.yl (zN (aF hg rfl) (yj hg rfl) rfl))) (av ?_)))));refine Gb (fun h0=>?_) fun h0=>?_
 ·
  refine al ?_;refine Gr fun w1 hw=>?_;exact Gf ((by rw[CA,YT aH oM])) hw
 have hx:s.length<=5/\0<s.length:=by omega
 refine aM ?_;refine bQ (X:=Nat) (fun zz=>[(6, .int .i64 (zz:Nat)),(5, .int .i64 ((val (s.take zz)):Nat)),(0, .string ⟨s.toArray⟩),(1, .int .i64 (top:Nat))]) (fun zz=>[]) (fun zz=>zz<=s.length/\(s.take zz).all lT=true) (fun zz=>s.length -zz) 0 ⟨Nat.zero_le _,rfl⟩ (Sub.cons rfl (Sub.cons (look_eq rfl rfl) sb)) (fun w hw=>ai.mem hw) ?_;rintro i ⟨hi,hd⟩;have hv:=YR (s:=s) (i:=i) oM hi hd;refine al ?_;refine ag (si (s:=s) Tryz.underlying9 rfl) (av ?_);refine Gb (fun h1=>?_) fun h1=>?_
 ·
  refine al ?_;refine ag (ve (s:=s) i Tryz.underlying9 rfl rfl rfl oM) (au ?_);refine bI rfl rfl rfl (fun hg=>(Ry.yl (ve (s:=s) i Tryz.underlying9 (aF hg rfl) (aF hg rfl) rfl (by simp only[Z0,Z1,Z2,Z3,Z4,Z5,Z6,Z7,Z8,Z9]at hg;omega)))) (al ?_);refine Gb (fun h2=>?_) fun h2=>?_
  ·
   refine al ?_;refine Gr fun w1 hw=>?_;exact Gf ((by rw[CA,Pv (i:=i) oM oM])) hw
  refine av ?_;refine ag (pL rfl rfl oM) (av ?_);refine ag (ve (s:=s) i Tryz.underlying9 rfl rfl rfl oM) (ag (Fa (p:=(s.getD i 0).toNat) (q:=48) rfl rfl rfl rfl oM) (ag (gH rfl (by simp only[nb];omega)) (aS ?_)));refine Gi ?_;exact bj (x:=(i)) (i+1) ⟨oF,Pu oF hd oF⟩ oF (Sub.cons rfl (Sub.cons (look_eq rfl (by rw[Fl oM,atK 10];rfl)) sb)) (fun w hw=>ai.mem hw)
 refine aM ?_;refine Gb (fun h3=>?_) fun h3=>?_
 ·
  refine al ?_;refine Gr fun w1 hw=>?_;exact Gf ((by rw[CA,Pw (i:=i) oM])) hw
 refine au ?_;refine Gr fun w1 hw=>?_;exact Gf ((by have e:s.take i=s:=asy oM;rw[e]at hd;rw[CA,Px (auN.1 hx.2) oM hd (by rw[←e];omega),e])) hw
instance arn{s:List UInt8}{top:Nat}:cE Tryz.prog 117 w0 L [.string ⟨s.toArray⟩, .int .i64 (top:Nat)] (.tuple #[.int .i64 (((c6 s top).getD 0):Nat), .bool ((c6 s top).isSome)]) (top<=65535/\s.length<=1000000000):=⟨fun aH w hw=>by
 refine cQ Tryz.func117 rfl Tryz.ntmps117 rfl ?_;refine aM ?_;refine ag (OR rfl rfl) (av ?_);refine bI rfl rfl rfl (fun hg=>(Ry.yl (si (s:=s) Tryz.underlying9 (aF hg rfl)))) (Gg ?_);refine bI rfl rfl rfl (fun hg=>(Ry.yl (bf (aF hg rfl)))) (oA rfl rfl rfl (fun hg=>(Ry.yl (bf rfl))) (oA rfl rfl rfl (fun hg=>(Ry.yl (ve (s:=s) 0 Tryz.underlying9 (aF hg rfl) rfl rfl (by simp only[Z0,Z1,Z2,Z3,Z4,Z5,Z6,Z7,Z8,Z9]at hg;omega)))) (oA rfl rfl rfl (fun hg=>(Ry.yl (et (aF hg rfl) rfl rfl))) (bI rfl rfl rfl (fun hg=>(Ry.yl (zN (aF hg rfl) (yj hg rfl) rfl))) (av ?_)))));refine Gb (fun h0=>?_) fun h0=>?_
 ·
  refine au ?_;refine Gr fun w1 hw=>?_;exact⟨(by rw[YU (h0.imp id fun h=>⟨by omega,by omega⟩)];rfl),ai.mem hw⟩
 refine au ?_;refine ag (si (s:=s) Tryz.underlying9 rfl) (av ?_);refine bQ (X:=Nat) (fun zz=>[(22, .int .i64 (zz:Nat)),(6, .int .i64 ((val (s.take zz)):Nat)),(0, .string ⟨s.toArray⟩),(1, .int .i64 (top:Nat)),(21, .int .i64 (s.length:Nat))]) (fun zz=>[]) (fun zz=>zz<=s.length/\(s.take zz).all lT=true/\val (s.take zz)<=top) (fun zz=>s.length -zz) 0 ⟨Nat.zero_le _,rfl,asO _⟩ (Sub.cons rfl (Sub.cons (look_eq rfl rfl) sb)) (fun w hw=>ai.mem hw) ?_;rintro i ⟨hi,hd,hv⟩;refine al ?_;refine Gb (fun h1=>?_) fun h1=>?_
 ·
  refine aS ?_;refine ag (ve (s:=s) i Tryz.underlying9 rfl rfl rfl oM) (au ?_);refine bI rfl rfl rfl (fun hg=>(Ry.yl (ve (s:=s) i Tryz.underlying9 (aF hg rfl) (aF hg rfl) rfl (by simp only[Z0,Z1,Z2,Z3,Z4,Z5,Z6,Z7,Z8,Z9]at hg;omega)))) (al ?_);refine Gb (fun h2=>?_) fun h2=>?_
  ·
   refine au ?_;refine Gr fun w1 hw=>?_;exact⟨(by rw[Pv (i:=i) oM oM];rfl),ai.mem hw⟩
  refine av ?_;refine ag (pL rfl rfl oM) (av ?_);refine ag (ve (s:=s) i Tryz.underlying9 rfl rfl rfl oM) (ag (Fa (p:=(s.getD i 0).toNat) (q:=48) rfl rfl rfl rfl oM) (ag (gH rfl (by simp only[nb];omega)) (cW ?_)));refine Gb (fun h3=>?_) fun h3=>?_
  ·
   refine au ?_;refine Gr fun w1 hw=>?_;exact⟨(by rw[Pw (i:=i+1) (by rw[Fl oM];omega)];rfl),ai.mem hw⟩
  refine al ?_;refine Gi ?_;exact bj (x:=(i)) (i+1) ⟨oF,Pu oF hd oF,by rw[Fl oF];omega⟩ oF (Sub.cons rfl (Sub.cons (look_eq rfl (by rw[Fl oM];rfl)) sb)) (fun w hw=>ai.mem hw)
 refine aM ?_;refine Gr fun w1 hw=>?_;exact⟨(by have e:s.take i=s:=asy oM;rw[e]at hd hv;rw[Px h0.1 (by have:=h0.2;omega) hd hv,e];rfl),ai.mem hw⟩⟩
instance:eR Tryz.prog 5 (.int .u8 0):=⟨by kernel_rfl⟩
end Go.Proofs.YtkggjjnhnjjokaaGreatDoor
namespace Go.Kb
open Go.ax
variable {k kk:Key} {i j n v:Nat} {s:cd} {c:UInt8}
def wb(k:Key)(i v:Nat):Key:=nk fun j=>if j=i then v else bk k j
theorem ME(k:Key)(i:Nat)(hv:v<256)(hj:j<16):bk (wb k i v) j=if j=i then v else bk k j:=by
 rw[wb,sj _ _ hj];have:=jG k j;split<;>omega
theorem Ui(k:Key)(i:Nat)(hi:i<16)(hv:v<256):(ck k).setIfInBounds i (.int .u8 ((v:Nat):Int))=ck (wb k i v):=by
 refine Jp (by simp[gf]) fun j hj=>?_;rw[ME k i hv hj,atg]
 by_cases e:i=j
 ·
  subst e;simp[gf,hi]
 rw[if_neg e,if_neg (fun h=>e h.symm)];exact kO k j hj
theorem Uj:bk (0#128) j=0:=by simp[bk]
def BC(ps:List cd)(i:Nat)(k:Key):Prop:=(∀j,j<16->bk k j=if j<i then(c6 (ps.getD j []) 255).getD 0 else 0)/\ ∀j,j<i->(c6 (ps.getD j []) 255).isSome=true
theorem afg(ps:List cd):BC ps 0 (0#128):=⟨fun j _=>by rw[Uj,if_neg (by omega)],fun j h=>absurd h (Nat.not_lt_zero j)⟩
theorem MF(s:cd):(c6 s 255).getD 0<256:=by
 cases e:c6 s 255 with
 |none=>simp
 |some n=>have:=(lU.1 e).2;simp;omega
theorem getD_at{α:Type}{xs:List α}{i:Nat}{x d:α}(h:xs[i]? =some x):xs.getD i d=x:=by simp[List.getD,h]
theorem BC.step{ps:List cd}{x:cd}(h:BC ps i k)(hx:ps[i]? =some x)(ho:(c6 x 255).isSome=true)(hi:i<4):BC ps (i+1) (wb k i ((c6 x 255).getD 0)):=by
 have e:ps.getD i []=x:=getD_at hx;refine⟨fun j hj=>?_,fun j hj=>?_⟩
 ·
  rw[ME k i (MF x) hj]
  by_cases ej:j=i
  ·
   subst ej;rw[if_pos rfl,if_pos (by omega),e]
  rw[if_neg ej,h.1 j hj]
  by_cases hl:j<i
  ·
   rw[if_pos hl,if_pos (by omega)]
  rw[if_neg hl,if_neg (by omega)]
 by_cases ej:j=i
 ·
  subst ej;rw[e];exact ho
 exact h.2 j (by omega)
theorem Uk{ps:List cd}(h:ps.length=4): ∃a b c d,ps=[a,b,c,d]:=by
 match ps,h with
 |[a,b,c,d],_=>exact⟨a,b,c,d,rfl⟩
theorem afh(h:(cV 46 s).length≠4):kQ s=none:=by
 unfold kQ;split
 ·
  rename_i a b c d e;rw[e]at h;exact absurd rfl h
 rfl
theorem afi{x:cd}(hl:(cV 46 s).length=4)(hx:(cV 46 s)[i]? =some x)(hn:(c6 x 255).isSome=false):kQ s=none:=by
 obtain⟨a,b,c,d,e⟩:=Uk hl;have MG:c6 x 255=none:=by cases q:c6 x 255 with
  |none=>rfl
  |some z=>rw[q]at hn;cases hn
 unfold kQ;rw[e]at hx⊢;have hm:x∈[a,b,c,d]:=anc hx;simp only[asw,aui,or_false]at hm;rcases hm with rfl|rfl|rfl|rfl
 all_goals simp only[MG]
 all_goals(split<;>first|rfl|(rename_i h1 h2 h3 h4;simp_all))
theorem afj(hl:(cV 46 s).length=4)(h:BC (cV 46 s) 4 k):kQ s=some k:=by
 obtain⟨a,b,c,d,e⟩:=Uk hl;rw[e]at h;obtain⟨na,ha⟩:=atr.1 (h.2 0 (by decide));obtain⟨nb,hb⟩:=atr.1 (h.2 1 (by decide));obtain⟨nc,hc⟩:=atr.1 (h.2 2 (by decide));obtain⟨nd,hd⟩:=atr.1 (h.2 3 (by decide));simp only[List.getD_cons_zero,List.getD_cons_succ]at ha hb hc hd;unfold kQ;rw[e];simp only[ha,hb,hc,hd];refine congrArg some (tV fun j hj=>?_);rw[yC (lU.1 ha).2 (lU.1 hb).2 (lU.1 hc).2 (lU.1 hd).2 hj,h.1 j hj];rcases asx j 4 with h4|h4
 ·
  have:j=0\/j=1\/j=2\/j=3:=by omega
  rcases this with rfl|rfl|rfl|rfl
  ·
   simp[ha]
  ·
   simp[hb]
  ·
   simp[hc]
  simp[hd]
 rw[if_neg (by omega),if_neg (by omega),if_neg (by omega),if_neg (by omega),if_neg (by omega)]
theorem afk(h: ¬sA (s.getD i 0)<0):sA (s.getD i 0)=((ly s i:Nat):Int)/\ly s i<16/\(lu (s.getD i 0)).isSome=true:=by
 unfold sA ly at*
 cases e:lu (s.getD i 0)with
 |none=>rw[e]at h;simp at h
 |some n=>exact⟨rfl,Ju e,rfl⟩
theorem afl(h:sA (s.getD i 0)<0)(hi:i<s.length):np s=none:=by
 unfold np;rw[if_neg];rintro⟨_,ha⟩;have:=asD.1 ha (s.getD i 0) (by simp[List.getD,hi]);unfold sA at h
 cases e:lu (s.getD i 0)with
 |none=>rw[e]at this;cases this
 |some n=>rw[e]at h;simp only at h;omega
theorem afm(c:UInt8):Lib.indexByte ([48,49,50,51,52,53,54,55,56,57,97,98,99,100,101,102]:cd) c=sA c:=by
 have key: ∀n,n<256->Lib.indexByte ([48,49,50,51,52,53,54,55,56,57,97,98,99,100,101,102]:cd) (UInt8.ofNat n)=sA (UInt8.ofNat n):=by decide+kernel
 have:=key c.toNat c.toNat_lt;rwa [UInt8.ofNat_toNat]at this
def xU(s:cd)(i:Nat)(k:Key):Prop:=(∀j,j<16->bk k j=if 2*j+1<i then 16*ly s (2*j)+ly s (2*j+1)else if 2*j<i then ly s (2*j)else 0)/\ ∀j,j<i->(lu (s.getD j 0)).isSome=true
theorem afn(s:cd):xU s 0 (0#128):=⟨fun j _=>by rw[Uj,if_neg (by omega),if_neg (by omega)],fun j h=>absurd h (Nat.not_lt_zero j)⟩
theorem Hz(h:(lu (s.getD i 0)).isSome=true):ly s i<16:=by
 unfold ly;obtain⟨n,e⟩:=atr.1 h;rw[e];exact Ju e
theorem xU.lt(h:xU s i k)(hi:i<32):bk k (i/2)<16:=by
 rw[h.1 (i/2) (by omega),if_neg (by omega)];split
 ·
  exact Hz (h.2 _ (by omega))
 omega
theorem Ul(hn:n<16):v*16|||n=v*16+n:=by
 have:=Nat.two_pow_add_eq_or_of_lt (i:=4) (show n<2^4 from hn) v;rw[atK v 16];exact this.symm
theorem xU.step(h:xU s i k)(hi:i<32)(ho:(lu (s.getD i 0)).isSome=true):xU s (i+1) (wb k (i/2) (bk k (i/2)*16|||ly s i)):=by
 have hl:=h.lt hi;have hx:=Hz ho;rw[Ul hx];refine⟨fun j hj=>?_,fun j hj=>?_⟩
 ·
  rw[ME k _ (by omega) hj]
  by_cases ej:j=i/2
  ·
   rw[if_pos ej,←ej,h.1 j hj,if_neg (by omega)];rcases Nat.mod_two_eq_zero_or_one i with e|e
   ·
    rw[if_neg (by omega),if_neg (by omega),if_pos (by omega),show 2*j=i by omega];omega
   rw[if_pos (by omega),if_pos (by omega),show 2*j+1=i by omega];omega
  rw[if_neg ej,h.1 j hj]
  by_cases h1:2*j+1<i
  ·
   rw[if_pos h1,if_pos (by omega)]
  rw[if_neg h1,if_neg (by omega),if_neg (by omega),if_neg (by omega)]
 by_cases ej:j=i
 ·
  subst ej;exact ho
 exact h.2 j (by omega)
theorem afo(h:s.length≠32):np s=none:=by unfold np;rw[if_neg (fun e=>h e.1)]
theorem afp(h: ∀j,j<s.length->(lu (s.getD j 0)).isSome=true):Fk s=true:=by
 refine asD.2 fun c hc=>?_;obtain⟨j,hj,rfl⟩:=atZ hc;have:=h j hj;simpa[List.getD,hj]using this
theorem afq(hl:s.length=32)(h:xU s 32 k):np s=some k:=by
 unfold np;rw[if_pos ⟨hl,afp fun j hj=>h.2 j (by omega)⟩];refine congrArg some (tV fun j hj=>?_);rw[h.1 j hj,if_pos (by omega),Ao,sj _ _ hj];have:=Hz (h.2 (2*j) (by omega));have:=Hz (h.2 (2*j+1) (by omega));omega
def pz(s:cd):Key:=if 60<s.length then 0#128 else match nQ s with|some (k,_)=>k|none=>0#128
def jC(s:cd):Nat:=if 60<s.length then 0 else match nQ s with|some (_,n)=>n.toNat|none=>0
def mW(s:cd):Int:=if 60<s.length then 3 else match nQ s with|some _=>0|none=>2
theorem afr(h:60<s.length):pz s=0#128/\jC s=0/\mW s=3:=by simp[pz,jC,mW,h]
theorem afs(h: ¬60<s.length)(hs:kQ s=some k):pz s=k/\jC s=32/\mW s=0:=by simp[pz,jC,mW,h,nQ,hs]
theorem aft(h: ¬60<s.length)(hs:kQ s=none)(hw:np s=some k):pz s=k/\jC s=128/\mW s=0:=by simp[pz,jC,mW,h,nQ,hs,hw]
theorem afu(h: ¬60<s.length)(hs:kQ s=none)(hw:np s=none):pz s=0#128/\jC s=0/\mW s=2:=by simp[pz,jC,mW,h,nQ,hs,hw]
end Go.Kb
namespace Go.Proofs.YtkggjjnhnjjokaaGreatDoor
open Go.ax Go.Kb
instance:nK Tryz.prog 25 [] (.agg (ck 0#128)):=⟨fun w=>by rw[uz];kernel_rfl⟩
instance:nK Tryz.prog 32 [] (.agg (cP ⟨0,0,0#128⟩)):=⟨fun w=>by unfold cP;rw[uz];kernel_rfl⟩
instance:nK Tryz.prog 34 [] (.agg (ay dM)):=⟨fun w=>by unfold ay cP dM;rw[uz];kernel_rfl⟩
variable {w0:World}{L:List aj}
instance aro{s:List UInt8}[tb:rh w0]:cE Tryz.prog 208 w0 L [.string ⟨s.toArray⟩] (.tuple #[.agg (ck ((kQ s).getD 0#128)), .bool ((kQ s).isSome)]) (s.length<=60):=⟨fun aH w hw=>by
 have tb:=tb.at hw;refine cB Tryz.func208 rfl Tryz.ntmps208 rfl ?_;refine Gc ?_;refine bl fun b2=>al ?_;refine aX rfl oM fun dR zl=>aS ?_;refine Gb (fun h0=>?_) fun h0=>?_
 ·
  refine Gc ?_;refine ag (iz rfl) (al ?_);refine Gr fun w1 hw=>?_;exact⟨(by rw[afh oM];rfl),ai.mem hw⟩
 refine Gc ?_;refine bl fun b5=>aM ?_;refine bQ (X:=Nat×Key) (fun zz=>[(18, .int .i64 (zz.1:Nat)),(5, .pointer (some ⟨b5,0,none⟩)),(2, .pointer (some ⟨b2,0,none⟩)),(16,(⟨false,dR,0,(cV 46 s).length,(cV 46 s).length,none⟩:Sv).val),(17, .int .i64 ((cV 46 s).length:Nat))]) (fun zz=>[ar b5 (ck zz.2) 25,own Cx 1 ⟨false,dR,0,(cV 46 s).length,(cV 46 s).length,none⟩ (cV 46 s),ar b2 (ck 0#128) 25]) (fun zz=>zz.1<=4/\BC (cV 46 s) zz.1 zz.2) (fun zz=>4 -zz.1) (0,0#128) ⟨Nat.zero_le _,afg _⟩ sb (fun w hw=>ai.mem hw) ?_;rintro⟨i,kk⟩ ⟨hi,hp⟩;dsimp only;simp only at hi hp;refine al ?_;refine Gb (fun h1=>?_) fun h1=>?_
 ·
  refine av ?_;obtain⟨x,hx⟩:=get_some (xs:=(cV 46 s)) (i:=i) oM;refine ag (aW rfl rfl i rfl oM) (ag (bE (j:=0) rfl i hx rfl (by decide)) (au ?_));refine eS (cj (vs:=[_, .int .i64 ((255:Nat):Int)]) rfl ⟨by decide,by have:=YV s (anc hx);omega⟩) (Gs ?_);refine ag (aJ (v:= .int .i64 (((c6 x 255).getD 0):Nat)) rfl rfl) (ag (aJ (v:= .bool ((c6 x 255).isSome)) rfl rfl) (aS ?_));refine Gb (fun h2=>?_) fun h2=>?_
  ·
   refine Gc ?_;refine ag (iz rfl) (al ?_);refine Gr fun w1 hw=>?_;exact⟨(by rw[afi oM hx h2];rfl),ai.mem hw⟩
  refine al ?_;refine ag (IU (n:=(((c6 x 255).getD 0:Nat):Int)) rfl oM (by have:=MF x;simp only[nb];omega)) (ag (qv rfl rfl oM oM) (eu (cs':=ck (wb kk i ((c6 x 255).getD 0))) rfl rfl (by rw[gf];omega) rfl (Ui kk i oM (MF x)) (al ?_)));refine Gi ?_;exact bj (x:=(i,kk)) (i+1,wb kk i ((c6 x 255).getD 0)) ⟨oF,hp.step hx h2 oF⟩ (by simp only;omega) sb (fun w hw=>ai.mem hw)
 refine aM ?_;refine Gr fun w1 hw=>?_;exact⟨(by rw[afj oM (by rw[show i=4 by omega]at hp;exact hp)];rfl),ai.mem hw⟩⟩
instance arp{s:List UInt8}:cE Tryz.prog 209 w0 L [.string ⟨s.toArray⟩] (.tuple #[.agg (ck ((np s).getD 0#128)), .bool ((np s).isSome)]) (s.length<=60):=⟨fun aH w hw=>by
 refine cB Tryz.func209 rfl Tryz.ntmps209 rfl ?_;refine Gc ?_;refine bl fun b2=>av ?_;refine bl fun b4=>av ?_;refine ag (si (s:=s) Tryz.underlying9 rfl) (av ?_);refine Gb (fun h0=>?_) fun h0=>?_
 ·
  refine Gc ?_;refine ag (iz rfl) (al ?_);refine Gr fun w1 hw=>?_;exact⟨(by rw[afo oM];rfl),ai.mem hw⟩
 refine av ?_;refine ag (si (s:=s) Tryz.underlying9 rfl) (av ?_);refine bQ (X:=Nat×Key) (fun zz=>[(13, .int .i64 (zz.1:Nat)),(4, .pointer (some ⟨b4,0,none⟩)),(0, .string ⟨s.toArray⟩),(2, .pointer (some ⟨b2,0,none⟩)),(12, .int .i64 (s.length:Nat))]) (fun zz=>[ar b4 (ck zz.2) 25,ar b2 (ck 0#128) 25]) (fun zz=>zz.1<=32/\xU s zz.1 zz.2) (fun zz=>32 -zz.1) (0,0#128) ⟨Nat.zero_le _,afn s⟩ sb (fun w hw=>ai.mem hw) ?_;rintro⟨i,kk⟩ ⟨hi,hp⟩;dsimp only;simp only at hi hp;refine al ?_;refine Gb (fun h1=>?_) fun h1=>?_
 ·
  refine aS ?_;refine ag (ve (s:=s) i Tryz.underlying9 rfl rfl rfl oM) (Gs ?_);rw[afm];refine aM ?_;refine Gb (fun h2=>?_) fun h2=>?_
  ·
   refine Gc ?_;refine ag (iz rfl) (al ?_);refine Gr fun w1 hw=>?_;exact⟨(by rw[afl h2 oM];rfl),ai.mem hw⟩
  refine gg ?_;obtain⟨he,hx,ho⟩:=afk h2;have bc:=hp.lt (show i<32 by omega);have aE:(((i:Nat):Int)/2).toNat=i/2:=by omega
  refine Gi ?_;refine Gs ?_;refine ag (my rfl rfl oM oM) (Gs ?_);refine ag (my rfl rfl oM oM) (ag (qv rfl rfl oM oM) (ag (Ry.as (v':= .int .u8 ((bk kk (i/2):Nat):Int)) (zR rfl (kO kk (((i:Nat):Int)/2).toNat oM)) (by rw[aE])) (ag (Yn (p:=bk kk (i/2)) rfl rfl rfl oM) (Gs ?_))));refine ag (IU rfl oM (by simp only[nb];omega)) (ag (Cd (p:=bk kk (i/2)*16) (q:=ly s i) rfl rfl rfl he (by simp only[nb];omega) (by simp only[nb];omega)) (ag (qv rfl rfl oM oM) (eu (cs':=ck (wb kk (i/2) (bk kk (i/2)*16|||ly s i))) rfl rfl (by rw[gf];omega) rfl (by rw[aE];exact Ui kk (i/2) oM (by rw[Ul hx];omega)) (al ?_))));refine Gi ?_;exact bj (x:=(i,kk)) (i+1,wb kk (i/2) (bk kk (i/2)*16|||ly s i)) ⟨oF,hp.step oF ho⟩ (by simp only;omega) sb (fun w hw=>ai.mem hw)
 refine aM ?_;refine Gr fun w1 hw=>?_;exact⟨(by rw[afq oM (by rw[show i=32 by omega]at hp;exact hp)];rfl),ai.mem hw⟩⟩
instance arq{s:List UInt8}[tb:rh w0]:cE Tryz.prog 149 w0 L [.string ⟨s.toArray⟩] (.tuple #[.agg (ck (pz s)), .int .i64 ((jC s):Nat), .int .i64 (mW s)]) (s.length<=1000000000):=⟨fun aH w hw=>by
 have tb:=tb.at hw;refine cB Tryz.func149 rfl Tryz.ntmps149 rfl ?_;refine Gc ?_;refine bl fun b2=>au ?_;refine ag (si (s:=s) Tryz.underlying9 rfl) (av ?_);refine Gb (fun h0=>?_) fun h0=>?_
 ·
  refine Gc ?_;refine ag (iz rfl) (au ?_);refine Gr fun w1 hw=>?_;exact⟨(by obtain⟨e1,e2,e3⟩:=afr (s:=s) oM;rw[e1,e2,e3];rfl),ai.mem hw⟩
 refine av ?_;refine eS (cj rfl oM) (Gs ?_);refine ag (aJ (v:= .agg (ck ((kQ s).getD 0#128))) rfl rfl) (ag (aJ (v:= .bool ((kQ s).isSome)) rfl rfl) (bl fun b5=>aM ?_));refine Gb (fun h1=>?_) fun h1=>?_
 ·
  obtain⟨q,hq⟩:=atr.1 h1;refine aS ?_;refine Gr fun w1 hw=>?_;exact⟨(by obtain⟨e1,e2,e3⟩:=afs oM hq;rw[e1,e2,e3,hq];rfl),ai.mem hw⟩
 have hs:kQ s=none:=by simpa using h1
 refine av ?_;refine eS (cj rfl oM) (Gs ?_);refine ag (aJ (v:= .agg (ck ((np s).getD 0#128))) rfl rfl) (ag (aJ (v:= .bool ((np s).isSome)) rfl rfl) (bl fun b7=>aM ?_));refine Gb (fun h2=>?_) fun h2=>?_
 ·
  obtain⟨q,hq⟩:=atr.1 h2;refine aS ?_;refine Gr fun w1 hw=>?_;exact⟨(by obtain⟨e1,e2,e3⟩:=aft oM hs hq;rw[e1,e2,e3,hq];rfl),ai.mem hw⟩
 have MH:np s=none:=by simpa using h2
 refine Gc ?_;refine ag (iz rfl) (au ?_);refine Gr fun w1 hw=>?_;exact⟨(by obtain⟨e1,e2,e3⟩:=afu oM hs MH;rw[e1,e2,e3];rfl),ai.mem hw⟩⟩
end Go.Proofs.YtkggjjnhnjjokaaGreatDoor
namespace Go.Kb
open Go.ax
variable {s a b:cd} {c:UInt8} {n top:Nat}
theorem zv(c:UInt8)(s:cd):(∃a b,s=a++c::b/\eM c s=(a,b,true)/\cV c s=a::cV c b)\/(eM c s=(s,[],false)/\cV c s=[s]):=by
 rcases Ak (c:=c) s with⟨h1,h2⟩|⟨a,b,h1,h2,h3⟩
 ·
  exact .inr ⟨Yo h1,h2⟩
 exact .inl ⟨a,b,h1,by rw[h1,Yp h2],h3⟩
theorem Um(hc:c∈b)(hd:lT c=false):c6 b top=none:=by
 cases e:c6 b top with
 |none=>rfl
 |some n=>
  obtain⟨rfl,_⟩:=lU.1 e;exact absurd hc (O1 hd)
theorem Un(c:UInt8)(s:cd):(eM c s).1.length<=s.length/\(eM c s).2.1.length<=s.length:=by
 rcases zv c s with⟨a,b,h1,h2,_⟩|⟨h2,_⟩
 ·
  rw[h2,h1];simp;omega
 rw[h2];simp
theorem afv(h:(eM 47 s).2.2=false):nq s=none:=by
 rcases zv 47 s with⟨a,b,_,h2,_⟩|⟨_,h3⟩
 ·
  rw[h2]at h;cases h
 unfold nq;rw[h3]
def wc(a b:cd):Option bt:=match nQ a,c6 b 128 with
 |some (k,bits),some n=>if bw ⟨bits,(n:Int),k⟩=true then some ⟨bits,(n:Int),k⟩else none
 |_,_=>none
theorem afw(h:cV 47 s=[a,b]):nq s=wc a b:=by
 unfold nq;rw[h];rfl
theorem HA(h:(eM 47 s).2.2=true):nq s=wc (eM 47 s).1 (eM 47 s).2.1:=by
 rcases zv 47 s with⟨a,b,_,h2,h3⟩|⟨h2,_⟩
 ·
  rw[h2];rcases zv 47 b with⟨x,y,e1,_,e3⟩|⟨_,e3⟩
  ·
   have hn:c6 b 128=none:=Um (c:=47) (by rw[e1];simp) (by decide);unfold nq wc;rw[h3,e3,hn];have:cV 47 y≠[]:=Jk y
   cases q:cV 47 y with
   |nil=>exact absurd q this
   |cons z zs=>simp only;split<;>simp_all
  exact afw (by rw[h3,e3])
 rw[h2]at h;cases h
def we(a b:cd):Option Rt:=match nq a,c6 b 65535 with
 |some p,some n=>some ⟨p,UInt16.ofNat n⟩
 |_,_=>none
theorem afx(h:(eM 32 s).2.2=false):tX s=none:=by
 rcases zv 32 s with⟨a,b,_,h2,_⟩|⟨_,h3⟩
 ·
  rw[h2]at h;cases h
 unfold tX;rw[h3]
theorem afy(h:cV 32 s=[a,b]):tX s=we a b:=by
 unfold tX;rw[h];rfl
theorem MI(h:(eM 32 s).2.2=true):tX s=we (eM 32 s).1 (eM 32 s).2.1:=by
 rcases zv 32 s with⟨a,b,_,h2,h3⟩|⟨h2,_⟩
 ·
  rw[h2];rcases zv 32 b with⟨x,y,e1,_,e3⟩|⟨_,e3⟩
  ·
   have hn:c6 b 65535=none:=Um (c:=32) (by rw[e1];simp) (by decide);unfold tX we;rw[h3,e3,hn];have:cV 32 y≠[]:=Jk y
   cases q:cV 32 y with
   |nil=>exact absurd q this
   |cons z zs=>simp only;split<;>simp_all
  exact afy (by rw[h3,e3])
 rw[h2]at h;cases h
theorem MJ(h:a.length<=60)(he:mW a=0):nQ a=some (pz a,((jC a:Nat):Int))/\(jC a=32\/jC a=128):=by
 have hl: ¬60<a.length:=by omega
 unfold mW at he;rw[if_neg hl]at he
 cases e:nQ a with
 |none=>rw[e]at he;cases he
 |some z=>
  obtain⟨k,m⟩:=z;have hm:=((Fg _).1 (YP.1 e).1).1;simp only at hm;unfold pz jC;rw[if_neg hl,if_neg hl,e];simp only;rcases hm with rfl|rfl
  ·
   exact⟨rfl, .inl rfl⟩
  exact⟨rfl, .inr rfl⟩
theorem afz(h:a.length<=60)(he: ¬mW a=0):nQ a=none:=by
 unfold mW at he;rw[if_neg (show ¬60<a.length by omega)]at he
 cases e:nQ a with
 |none=>rfl
 |some z=>rw[e]at he;exact absurd rfl he
def tn(s:cd):bt:=if 60<s.length then⟨0,0,0#128⟩else(nq s).getD ⟨0,0,0#128⟩
def qm(s:cd):Int:=if 60<s.length then 3 else if(nq s).isSome=true then 0 else 2
theorem afA(h:60<s.length):tn s=⟨0,0,0#128⟩/\qm s=3:=by simp[tn,qm,h]
theorem HB(h: ¬60<s.length)(hp:nq s=none):tn s=⟨0,0,0#128⟩/\qm s=2:=by simp[tn,qm,h,hp]
theorem afB{p:bt}(h: ¬60<s.length)(hp:nq s=some p):tn s=p/\qm s=0:=by simp[tn,qm,h,hp]
theorem afC(h:a.length<=60)(he:qm a=0):nq a=some (tn a):=by
 have hl: ¬60<a.length:=by omega
 unfold qm at he;rw[if_neg hl]at he
 cases e:nq a with
 |none=>rw[e]at he;simp at he
 |some z=>rw[tn,if_neg hl,e];rfl
theorem afD(h:a.length<=60)(he: ¬qm a=0):nq a=none:=by
 unfold qm at he;rw[if_neg (show ¬60<a.length by omega)]at he
 cases e:nq a with
 |none=>rfl
 |some z=>rw[e]at he;exact absurd rfl he
def rT(s:cd):Rt:=if 60<s.length then dM else(tX s).getD dM
def wg(s:cd):Int:=if 60<s.length then 3 else if(tX s).isSome=true then 0 else 2
theorem afE(h:60<s.length):rT s=dM/\wg s=3:=by simp[rT,wg,h]
theorem MK(h: ¬60<s.length)(hp:tX s=none):rT s=dM/\wg s=2:=by simp[rT,wg,h,hp]
theorem afF{r:Rt}(h: ¬60<s.length)(hp:tX s=some r):rT s=r/\wg s=0:=by simp[rT,wg,h,hp]
theorem afG(h:a.length<=60)(he: ¬mW a=0):wc a b=none:=by unfold wc;rw[afz h he]
theorem afH(h:c6 b n=none)(hn:n<=top){m:Nat}(e:c6 b top=some m):n<m:=by
 obtain⟨rfl,h2⟩:=lU.1 e;rcases asx n m with q|q
 ·
  exact q
 rw[Jj q]at h;cases h
theorem afI(h:a.length<=60)(he:mW a=0)(hn:(c6 b (jC a)).isSome=false):wc a b=none:=by
 obtain⟨hk,hm⟩:=MJ h he;have MG:c6 b (jC a)=none:=by simpa using hn
 unfold wc;rw[hk]
 cases e:c6 b 128 with
 |none=>rfl
 |some m=>
  have:=afH MG (by omega) e;simp only;rw[if_neg];intro hp;have:=((Fg _).1 hp).2.2.1;simp only at this;omega
theorem Uo(h:a.length<=60)(he:mW a=0)(hn:(c6 b (jC a)).isSome=true):wc a b=if bw ⟨((jC a:Nat):Int),(((c6 b (jC a)).getD 0:Nat):Int),pz a⟩=true then some ⟨((jC a:Nat):Int),(((c6 b (jC a)).getD 0:Nat):Int),pz a⟩else none:=by
 obtain⟨hk,hm⟩:=MJ h he;obtain⟨m,e⟩:=atr.1 hn;obtain⟨rfl,h2⟩:=lU.1 e;unfold wc;rw[hk,e,Jj (show m<=128 by omega)];rfl
theorem afJ(h:a.length<=60)(he: ¬qm a=0):we a b=none:=by unfold we;rw[afD h he]
theorem afK(hn:c6 b 65535=none):we a b=none:=by
 unfold we;rw[hn];cases nq a<;>rfl
theorem afL(h:a.length<=60)(he:qm a=0)(hn:c6 b 65535=some n):we a b=some ⟨tn a,UInt16.ofNat n⟩:=by
 unfold we;rw[hn,afC h he]
theorem Up(s:cd)(top:Nat):(c6 s top).getD 0<=top:=by
 cases e:c6 s top with
 |none=>simp
 |some n=>exact(lU.1 e).2
theorem afM{n:Nat}(h:n<=65535):(Value.int .u16 ((n:Nat):Int))=Value.int .u16 (((UInt16.ofNat n).toNat:Nat):Int):=by
 rw[UInt16.toNat_ofNat',as5 (show n<2^16 by omega)]
theorem QU{ps:List cd}(h:ps.length=2): ∃a b,ps=[a,b]:=by
 match ps,h with
 |[a,b],_=>exact⟨a,b,rfl⟩
end Go.Kb
namespace Go.Proofs.YtkggjjnhnjjokaaGreatDoor
open Go.ax Go.Kb
variable {w0:World}{L:List aj}
instance ars{s:List UInt8}[tb:rh w0]:cE Tryz.prog 116 w0 L [.string ⟨s.toArray⟩] (.tuple #[.agg (cP (tn s)), .int .i64 (qm s)]) (s.length<=1000000000):=⟨fun aH w hw=>by
 have tb:=tb.at hw;obtain⟨hca,pq⟩:=Un 47 s;refine cB Tryz.func116 rfl Tryz.ntmps116 rfl ?_;refine Gc ?_;refine bl fun b2=>al ?_;refine ag (si (s:=s) Tryz.underlying9 rfl) (av ?_);refine Gb (fun h0=>?_) fun h0=>?_
 ·
  refine Gc ?_;refine ag (iz rfl) (al ?_);refine Gr fun w1 hw=>?_;exact⟨(by obtain⟨e1,e2⟩:=afA (s:=s) oM;rw[e1,e2]),ai.mem hw⟩
 refine av ?_;refine eS (cj rfl oM) (Gs ?_);refine ag (aJ (v:= .string ⟨((eM 47 s).1).toArray⟩) rfl rfl) (ag (aJ (v:= .string ⟨((eM 47 s).2.1).toArray⟩) rfl rfl) (ag (aJ (v:= .bool ((eM 47 s).2.2)) rfl rfl) (cW ?_)));refine Gb (fun h1=>?_) fun h1=>?_
 ·
  refine Gc ?_;refine ag (iz rfl) (al ?_);refine Gr fun w1 hw=>?_;exact⟨(by obtain⟨e1,e2⟩:=HB (s:=s) oM (afv h1);rw[e1,e2]),ai.mem hw⟩
 refine av ?_;refine eS (cj rfl oM) (Gs ?_);refine ag (aJ (v:= .agg (ck (pz ((eM 47 s).1)))) rfl rfl) (ag (aJ (v:= .int .i64 ((jC ((eM 47 s).1)):Nat)) rfl rfl) (ag (aJ (v:= .int .i64 (mW ((eM 47 s).1))) rfl rfl) (bl fun b7=>cW ?_)));refine Gb (fun h2=>?_) fun h2=>?_
 ·
  refine Gc ?_;refine ag (iz rfl) (al ?_);refine Gr fun w1 hw=>?_;exact⟨(by obtain⟨e1,e2⟩:=HB (s:=s) oM (by rw[HA h1];exact afG oM oM);rw[e1,e2]),ai.mem hw⟩
 have hr:mW (eM 47 s).1=0:=by omega
 obtain⟨_,hm⟩:=MJ oM hr;refine al ?_;refine eS (cj rfl ⟨by omega,by omega⟩) (Gs ?_);refine ag (aJ (v:= .int .i64 (((c6 ((eM 47 s).2.1) (jC ((eM 47 s).1))).getD 0):Nat)) rfl rfl) (ag (aJ (v:= .bool ((c6 ((eM 47 s).2.1) (jC ((eM 47 s).1))).isSome)) rfl rfl) (aS ?_));refine Gb (fun h3=>?_) fun h3=>?_
 ·
  refine Gc ?_;refine ag (iz rfl) (al ?_);refine Gr fun w1 hw=>?_;exact⟨(by obtain⟨e1,e2⟩:=HB (s:=s) oM (by rw[HA h1];exact afI oM hr h3);rw[e1,e2]),ai.mem hw⟩
 refine au ?_;refine ag (iz rfl) (bl fun px=>aS ?_);refine Gb (fun h4=>?_) fun h4=>?_
 ·
  refine Gc ?_;refine ag (iz rfl) (al ?_);refine Gr fun w1 hw=>?_;exact⟨(by obtain⟨e1,e2⟩:=HB (s:=s) oM (by rw[HA h1,Uo oM hr h3,h4];rfl);rw[e1,e2]),ai.mem hw⟩
 refine aM ?_;refine Gr fun w1 hw=>?_;exact⟨(by obtain⟨e1,e2⟩:=afB (s:=s) (p:=(⟨((jC (eM 47 s).1:Nat):Int),(((c6 (eM 47 s).2.1 (jC (eM 47 s).1)).getD 0:Nat):Int),pz (eM 47 s).1⟩:bt)) oM (by rw[HA h1,Uo oM hr h3,if_pos h4]);rw[e1,e2]),ai.mem hw⟩⟩
instance art{s:List UInt8}[tb:rh w0]:cE Tryz.prog 50 w0 L [.string ⟨s.toArray⟩] (.tuple #[.agg (ay (rT s)), .int .i64 (wg s)]) (s.length<=1000000000):=⟨fun aH w hw=>by
 have tb:=tb.at hw;obtain⟨hca,pq⟩:=Un 32 s;refine cB Tryz.func50 rfl Tryz.ntmps50 rfl ?_;refine Gc ?_;refine bl fun b2=>al ?_;refine ag (si (s:=s) Tryz.underlying9 rfl) (av ?_);refine Gb (fun h0=>?_) fun h0=>?_
 ·
  refine Gc ?_;refine ag (iz rfl) (al ?_);refine Gr fun w1 hw=>?_;exact⟨(by obtain⟨e1,e2⟩:=afE (s:=s) oM;rw[e1,e2]),ai.mem hw⟩
 refine av ?_;refine eS (cj rfl oM) (Gs ?_);refine ag (aJ (v:= .string ⟨((eM 32 s).1).toArray⟩) rfl rfl) (ag (aJ (v:= .string ⟨((eM 32 s).2.1).toArray⟩) rfl rfl) (ag (aJ (v:= .bool ((eM 32 s).2.2)) rfl rfl) (cW ?_)));refine Gb (fun h1=>?_) fun h1=>?_
 ·
  refine Gc ?_;refine ag (iz rfl) (al ?_);refine Gr fun w1 hw=>?_;exact⟨(by obtain⟨e1,e2⟩:=MK (s:=s) oM (afx h1);rw[e1,e2]),ai.mem hw⟩
 refine av ?_;refine eS (cj rfl oM) (Gs ?_);refine ag (aJ (v:= .agg (cP (tn ((eM 32 s).1)))) rfl rfl) (ag (aJ (v:= .int .i64 (qm ((eM 32 s).1))) rfl rfl) (bl fun b7=>aS ?_));refine Gb (fun h2=>?_) fun h2=>?_
 ·
  refine Gc ?_;refine ag (iz rfl) (al ?_);refine Gr fun w1 hw=>?_;exact⟨(by obtain⟨e1,e2⟩:=MK (s:=s) oM (by rw[MI h1];exact afJ oM oM);rw[e1,e2]),ai.mem hw⟩
 refine av ?_;refine eS (cj (vs:=[_, .int .i64 ((65535:Nat):Int)]) rfl ⟨by omega,by omega⟩) (Gs ?_);refine ag (aJ (v:= .int .i64 (((c6 ((eM 32 s).2.1) 65535).getD 0):Nat)) rfl rfl) (ag (aJ (v:= .bool ((c6 ((eM 32 s).2.1) 65535).isSome)) rfl rfl) (aS ?_));refine Gb (fun h3=>?_) fun h3=>?_
 ·
  refine Gc ?_;refine ag (iz rfl) (al ?_);refine Gr fun w1 hw=>?_;exact⟨(by obtain⟨e1,e2⟩:=MK (s:=s) oM (by rw[MI h1];exact afK (by simpa using h3));rw[e1,e2]),ai.mem hw⟩
 obtain⟨m,hm⟩:=atr.1 h3;have Bh:=(lU.1 hm).2;refine al ?_;refine ag (Ry.as (v':= .int .u16 (((UInt16.ofNat ((c6 (eM 32 s).2.1 65535).getD 0)).toNat:Nat):Int)) (gH rfl (by have:=Up (eM 32 s).2.1 65535;simp only[nb];omega)) (afM (Up (eM 32 s).2.1 65535))) (ag (iz rfl) (al ?_));refine Gr fun w1 hw=>?_;exact⟨(by obtain⟨e1,e2⟩:=afF (s:=s) oM ((MI h1).trans (afL oM oM hm));rw[e1,e2,hm];rfl),ai.mem hw⟩⟩
instance:eR Tryz.prog 225 (.agg (dB Nd.zero)):=⟨by kernel_rfl⟩
instance:eR Tryz.prog 221 (.agg (pX gw.no)):=⟨by kernel_rfl⟩
instance:eR Tryz.prog 124 (.agg (dO ⟨0,⟨Sv.none,[]⟩⟩)):=⟨by kernel_rfl⟩
instance:eR Tryz.prog 217 (.agg (dO ⟨0,⟨Sv.none,[]⟩⟩)):=⟨by kernel_rfl⟩
instance:eR Tryz.prog 3 (.int .i64 0):=⟨by kernel_rfl⟩
instance:nK Tryz.prog 225 [] (.agg (dB Nd.zero)):=⟨fun w=>by kernel_rfl⟩
instance (n:Int)(h:UInt16):nK Tryz.prog 221 [(0, .int .i64 n),(1, .int .u16 h.toNat)] (.agg (pX ⟨n,h⟩)):=⟨fun w=>by kernel_rfl⟩
instance:nK Tryz.prog 124 [] (.agg (dO ⟨0,⟨Sv.none,[]⟩⟩)):=⟨fun w=>by kernel_rfl⟩
theorem afN(n:Int)(s:Sv)(xs:List Nd)(w:World):(Instr.build 124 #[(0, .int .i64 n),(1,s.val)]).run Tryz.prog w= .ok (.agg (dO ⟨n,⟨s,xs⟩⟩)) w:=by
 unfold dO;obtain⟨e,b,o,l,c,p⟩:=s
 cases e<;>kernel_rfl
instance (t:lW):nK Tryz.prog 217 [(0, .agg (dO t))] (.agg (dO t)):=⟨fun w=>by
 obtain⟨n,⟨⟨e,b,o,l,c,p⟩,xs⟩⟩:=t;unfold dO
 cases e<;>kernel_rfl⟩
instance aru{b:Int}:cE Tryz.prog 122 w0 L [.int .i64 b] (.bool (decide (b=32)||decide (b=128))) (True):=⟨fun aH w hw=>by
 refine cB Tryz.func122 rfl Tryz.ntmps122 rfl ?_;refine oP ?_;refine Gr fun w1 hw=>?_;exact⟨congrArg (fun b=>Ending.returned (Value.bool b)) (rfl),ai.mem hw⟩⟩
theorem afO(w0 w:World)(L:List aj)(B:Nat)(T:TypeId)(bits:Int)(s:Sv)(ns:List Nd)(node:Nat)(four:Int)(hw:Mem w0 (ar B (dO ⟨bits,⟨s,[]⟩⟩) T::own dB 48 s ns::L) w)(aH:node<ns.length/\0<=four/\four<16/\ns.length<=512):Calls Tryz.prog 197 #[.pointer (some ⟨B,0,none⟩), .int .i64 (node:Nat), .int .i64 four] w fun e w'=> ∃zz:Sv,e= .returned (.tuple #[.int .i64 (vu ns node four.toNat), .bool (vt ns node four.toNat)])/\(True)/\Mem w0 (ar B (dO ⟨bits,⟨zz,[]⟩⟩) T::own dB 48 zz (vw ns node four.toNat)::L) w':=by
 obtain⟨gq,gy,kH,DW⟩:=aH;refine jZ (args:=[_,_,_]) Tryz.func197 rfl Tryz.ntmps197 rfl hw ?_;change Cw _ _ _ _ _ [(0, .pointer (some ⟨B,0,none⟩)),(1, .int .i64 (node:Nat)),(2, .int .i64 four)] (ar B (dO ⟨bits,⟨s,[]⟩⟩) T::own dB 48 s ns::L);refine oP ?_;obtain⟨n,hn⟩:=get_some (xs:=ns) (i:=node) oM;refine ag (aW rfl rfl node rfl oM) ?_;have en:ns.getD node Nd.zero=n:=by simp[List.getD,hn]
 refine ag (aO rfl rfl) (ag (wD rfl rfl oM oM) ?_);refine ag (QH rfl node hn ((four).toNat) oM (by simp only[avc,atu,at2,as3,atl]<;>omega)) ?_;refine aM ?_;refine Gb (fun h0=>?_) fun h0=>?_
 ·
  refine aM ?_;refine Gr fun w1 hw=>?_;exact⟨s,by rw[vu,vt,en,if_pos h0,decide_eq_true h0];rfl,trivial,by rw[vw,en,if_pos (.inl h0)];exact ai.mem hw⟩
 refine hU ?_;refine Gb (fun h1=>?_) fun h1=>?_
 ·
  refine au ?_;refine Gr fun w1 hw=>?_;exact⟨s,by rw[vu,vt,en,if_neg h0,if_pos oM,decide_eq_false h0,decide_eq_false oM];rfl,trivial,by rw[vw,en,if_pos (.inr oM)];exact ai.mem hw⟩
 refine cW ?_;refine ag (iz rfl) ?_;refine jF (enc:=dB) (vals:=[_]) [Nd.zero] rfl rfl rfl (by decide) (by decide) fun BD=>?_;refine gS (s:=s) (ys:=[Nd.zero]) rfl rfl (by decide) (fun w hw=>fY (s:=⟨false,BD,0,1,1,none⟩) Tryz.underlying122 (by decide) ((inferInstance:Hd _ _ ⟨false,BD,0,1,1,none⟩ dB 48 [Nd.zero]).h w hw)) (by simp only[af0,asm,asn];omega) (by simp only[af0,asm,asn];omega) fun HC ML MM=>?_;refine al ?_;refine eu (cs':=dO (⟨bits,⟨HC,[]⟩⟩:lW)) rfl rfl (by show 1<2;decide) (by first|rfl|exact Sv.one _) rfl (ky ?_);have hm:(ns++[Nd.zero])[node]? =some n:=by rw[asG gq];exact hn
 have bc:node<HC.len:=by rw[MM,af0];omega
 refine iY [17] [[],[],[],[],[],[],[],[],[],[],[],[],[],[],[],[],[],[]] [0,1,2,3,4,5,6,7,8,9,10,11,12,13,14,15,16,17] [ar B (dO ⟨bits,⟨HC,[]⟩⟩) T] (fun _ hw=>ai.mem hw) oK oK (an rfl (bf rfl) (an rfl (jf rfl) (an rfl (aO (o':=0) rfl rfl) (an rfl (aO (o':=1) rfl rfl) (an rfl (bY rfl) (an rfl (bf rfl) (an rfl (bf rfl) (an rfl (bf rfl) (an rfl (jf rfl) (an rfl (aO (o':=0) rfl rfl) (an rfl (aO (o':=1) rfl rfl) (an rfl (bY rfl) ?_))))))))))));refine an rfl (tL rfl ML (MM.trans (by simp:_=ns.length+1))) (an rfl (zU rfl rfl oM) ?_);obtain⟨e56,arv⟩:=get_some (xs:=(ns++[Nd.zero])) (i:=node) oM;refine an rfl (mz rfl rfl rfl ML bc) (an rfl (aO rfl rfl) (an rfl (wD rfl rfl oM oM) ?_));refine dH rfl (adq rfl rfl hm ((four).toNat) oM (by simp only[avc,atu,at2,as3,atl]<;>omega) ⟨fun _ hw=>ai.mem hw,?_⟩);refine aS ?_;refine ag (tL rfl ML (MM.trans (by simp:_=ns.length+1))) (au ?_);refine Gr fun w1 hw=>?_;exact⟨HC,by rw[vu,vt,en,if_neg h0,if_neg oM,decide_eq_true (show ns.length<512 by omega)];simp,trivial,by rw[vw,en,if_neg oM];have:=hw.sub (atm _ _);simpa using this⟩
instance arw{w0:World}{L R1 L2:List aj}{i j:Nat}{B:Nat}{T:TypeId}{bits:Int}{s:Sv}{ns:List Nd}{node:Nat}{four:Int}[h:Has L B (dO ⟨bits,⟨s,[]⟩⟩) T i][d1:dt L i R1][q:fu R1 s dB 48 ns j][d2:dt R1 j L2]:bN Tryz.prog 197 w0 L [.pointer (some ⟨B,0,none⟩), .int .i64 (node:Nat), .int .i64 four] (Sv) (fun zz=> .tuple #[.int .i64 (vu ns node four.toNat), .bool (vt ns node four.toNat)]) (fun zz=>ar B (dO ⟨bits,⟨zz,[]⟩⟩) T::own dB 48 zz (vw ns node four.toNat)::L2) (fun zz=>True) (node<ns.length/\0<=four/\four<16/\ns.length<=512):=⟨fun hp w hw=>afO w0 w L2 B T bits s ns node four (s0 h.h d1.h q.h d2.h hw) hp⟩
theorem afP(w0 w:World)(L:List aj)(B:Nat)(T:TypeId)(bits:Int)(s:Sv)(W:List Wy)(R:List Rt)(r:Rt)(hw:Mem w0 (ar B (dO ⟨bits,⟨s,[]⟩⟩) T::own dB 48 s (nodes bits W R)::L) w)(aH:bw r.p=true/\r.p.bits=bits/\jg W/\vr bits W R/\W.length<=512):Calls Tryz.prog 123 #[.pointer (some ⟨B,0,none⟩), .agg (ay r)] w fun e w'=> ∃zz:Sv×List Nd,e= .returned (.bool (decide ((dN W r.p (bK r.p)).length<=512)))/\((dN W r.p (bK r.p)).length<=512->zz.2=nodes bits (dN W r.p (bK r.p)) (R++[r]))/\Mem w0 (ar B (dO ⟨bits,⟨zz.1,[]⟩⟩) T::own dB 48 zz.1 zz.2::L) w':=by
 obtain⟨gq,gy,kH,DW,LH⟩:=aH;obtain⟨IJ,EA,hq3,hq4⟩:=(wR r.p).1 gq;have bc:=FR gq;have oI:=QB gq;have MN:=CP r.p.key (bK r.p);have bH:=CS gq;have L4:=aaE EA oM;refine jZ (args:=[_,_]) Tryz.func123 rfl Tryz.ntmps123 rfl hw ?_;change Cw _ _ _ _ _ [(0, .pointer (some ⟨B,0,none⟩)),(1, .agg (ay r))] (ar B (dO ⟨bits,⟨s,[]⟩⟩) T::own dB 48 s (nodes bits W R)::L);refine Gc ?_;refine cf rfl fun b3=>aS ?_;refine ag (et rfl rfl (by rw[lQ,if_neg (by decide),wrap64_in oM])) (ag (Ry.to (wE rfl rfl) (by rw[aaD EA])) (cW ?_));refine bQ (X:=Nat×Sv) (fun zz=>[(21, .int .i64 (zz.1:Nat)),(6, .int .i64 (((dN W r.p zz.1).idxOf (c8 r.p.key zz.1)):Nat)),(0, .pointer (some ⟨B,0,none⟩)),(3, .pointer (some ⟨b3,0,none⟩)),(5, .int .i64 (bK r.p:Nat)),(20, .int .i64 (bK r.p:Nat))]) (fun zz=>ar B (dO ⟨bits,⟨zz.2,[]⟩⟩) T::own dB 48 zz.2 (nodes bits (dN W r.p zz.1) R)::ar b3 (ay r) 34::L) (fun zz=>zz.1<=bK r.p/\(dN W r.p zz.1).length<=512) (fun zz=>bK r.p -zz.1) (0,s) ⟨Nat.zero_le _,LH⟩ (Sub.cons rfl (Sub.cons (look_eq rfl (by rw[AB,J5,J8 kH.nodup kH.root];rfl)) sb)) (fun w hw=>(ai.mem hw:Mem _ (ar B (dO ⟨bits,⟨s,[]⟩⟩) T::own dB 48 s (nodes bits W R)::ar b3 (ay r) 34::L) _)) ?_;rintro⟨i,s1⟩ ⟨aZ,aE⟩;dsimp only;simp only at aZ aE;have wh:=kH.add (p:=r.p) (n:=i) oM;have vi:=Qw (QF kH r.p i);have dK:=aas (QF kH r.p i);have hk:=vp r.p.key i;have arx:=CP r.p.key i;refine al ?_;refine Gb (fun h0=>?_) fun h0=>?_
 ·
  refine eI ?_;refine ag (hK rfl) (av ?_);refine aX rfl ⟨by rw[AF];exact dK,by omega,by omega,by rw[AF];exact aE⟩ fun aD xM=>?_;have ho:vt (nodes bits (dN W r.p i) R) ((dN W r.p i).idxOf (c8 r.p.key i)) (je r.p.key i).toNat=decide ((dN W r.p (i+1)).length<=512):=by have:=aav wh (R:=R) (bits:=bits) vi hk aE;rw[FO _ _ oM,←vo]at this;exact this
  refine Gs ?_;refine ag (aJ (v:= .int .i64 (vu (nodes bits (dN W r.p i) R) ((dN W r.p i).idxOf (c8 r.p.key i)) (je r.p.key ((i:Nat):Int)).toNat)) rfl rfl) (ag (aJ (v:= .bool (vt (nodes bits (dN W r.p i) R) ((dN W r.p i).idxOf (c8 r.p.key i)) (je r.p.key ((i:Nat):Int)).toNat)) rfl rfl) (aS ?_));refine Gb (fun h1=>?_) fun h1=>?_
  ·
   refine al ?_;refine Gr fun w1 hw=>?_;have fP: ¬(dN W r.p (bK r.p)).length<=512:=by
    have h5:=(aaq (W:=W) (p:=r.p) (show i+1<=bK r.p by omega)).length_le;have h6: ¬(dN W r.p (i+1)).length<=512:=by simpa[ho]using h1
    omega
   exact⟨(aD,vw (nodes bits (dN W r.p i) R) ((dN W r.p i).idxOf (c8 r.p.key i)) (je r.p.key i).toNat),by rw[decide_eq_false fP],fun h=>absurd h fP,ai.mem hw⟩
  refine aS ?_;refine Gi ?_;have pN:(dN W r.p (i+1)).length<=512:=by simpa[ho]using h1
  have tp:=pN;rw[vo,←FO _ _ oM]at tp;have td:vw (nodes bits (dN W r.p i) R) ((dN W r.p i).idxOf (c8 r.p.key i)) (gM r.p.key i)=nodes bits (dN W r.p (i+1)) R:=by rw[aax wh vi hk (by show i<31;omega) (DW.mono (FQ _)) tp,FO _ _ oM,←vo]
  have TH:vu (nodes bits (dN W r.p i) R) ((dN W r.p i).idxOf (c8 r.p.key i)) (je r.p.key i).toNat=(((dN W r.p (i+1)).idxOf (c8 r.p.key (i+1)):Nat):Int):=by have:=aaw wh (R:=R) (bits:=bits) vi hk tp;rw[FO _ _ oM,←vo]at this;exact this
  unfold gM at td;exact bj (x:=(i,s1)) (i+1,aD) ⟨oF,by simpa[ho]using h1⟩ (by simp only;omega) (Sub.cons rfl (Sub.cons (look_eq rfl (by rw[TH])) sb)) (fun w hw=>by rw[td]at hw;exact ai.mem hw)
 obtain rfl:i=bK r.p:=by omega
 refine al ?_;refine ag (hK rfl) (eI ?_);refine ag (pL rfl rfl oM) (av ?_);refine ag (Ry.to (EH rfl rfl oM) (by rw[adp gq])) (aM ?_);refine bQ (X:=Nat) (fun zz=>[(12, .int .i64 (zz:Nat)),(0, .pointer (some ⟨B,0,none⟩)),(3, .pointer (some ⟨b3,0,none⟩)),(6, .int .i64 (((dN W r.p (bK r.p)).idxOf (c8 r.p.key (bK r.p))):Nat)),(10, .int .i64 (je r.p.key ((bK r.p:Nat):Int))),(11, .int .i64 (2^lV r.p:Nat))]) (fun zz=>ar B (dO ⟨bits,⟨s1,[]⟩⟩) T::own dB 48 s1 (nZ bits (dN W r.p (bK r.p)) R r zz)::ar b3 (ay r) 34::L) (fun zz=>gM r.p.key (bK r.p)<=zz/\zz<=gM r.p.key (bK r.p)+2^lV r.p) (fun zz=>gM r.p.key (bK r.p)+2^lV r.p -zz) (gM r.p.key (bK r.p)) ⟨Nat.le_refl _,Nat.le_add_right _ _⟩ (Sub.cons (look_eq rfl (by rw[MN])) sb) (fun w hw=>by rw[aaz wh gq gy];exact ai.mem hw) ?_;rintro f ⟨wZ,lz⟩;refine cW ?_;refine Gb (fun h2=>?_) fun h2=>?_
 ·
  refine eI ?_;obtain⟨n,hn⟩:=get_some (xs:=(nZ bits (dN W r.p (bK r.p)) R r f)) (i:=((dN W r.p (bK r.p)).idxOf (c8 r.p.key (bK r.p)))) (by rw[QD];exact dK);refine ag (aW rfl rfl ((dN W r.p (bK r.p)).idxOf (c8 r.p.key (bK r.p))) rfl (by rw[QD];exact dK)) (ag (aO rfl rfl) (ag (wD rfl rfl oM oM) (av ?_)));refine gJ oK oK (av ?_);refine bC (aO rfl rfl) ?_;refine bC (aaP rfl ((dN W r.p (bK r.p)).idxOf (c8 r.p.key (bK r.p))) hn f oM (by simp only[avc,atu,at2,as3,atl]<;>omega)) ?_;refine aM ?_;refine Gb (fun h3=>?_) fun h3=>?_
  ·
   refine Gi ?_;refine cW ?_;refine ag (iz rfl) (Gs ?_);refine aaT rfl rfl hn f oM (by simp only[avc,atu,at2,as3,atl]<;>omega) ?_;refine au ?_;refine Gi ?_;have nU:(nv bits R (c8 r.p.key (bK r.p)) f).len<=r.p.len:=by rw[←QE vi oM hn];exact h3
   exact bj (x:=(f)) (f+1) ⟨oF,oF⟩ oF sb (fun w hw=>by rw[aaC wh gq gy vi hn wZ oM nU]at hw;exact ai.mem hw)
  refine au ?_;refine Gi ?_;have nU: ¬(nv bits R (c8 r.p.key (bK r.p)) f).len<=r.p.len:=by rw[←QE vi oM hn];exact h3
  exact bj (x:=(f)) (f+1) ⟨oF,oF⟩ oF sb (fun w hw=>by rw[aaB wh nU];exact ai.mem hw)
 obtain rfl:f=gM r.p.key (bK r.p)+2^lV r.p:=by omega
 refine al ?_;refine Gr fun w1 hw=>?_;exact⟨(s1,nZ bits (dN W r.p (bK r.p)) R r (gM r.p.key (bK r.p)+2^lV r.p)),by rw[decide_eq_true aE],fun _=>aaA wh gq gy,ai.mem hw⟩
instance ary{w0:World}{L R1 L2:List aj}{i j:Nat}{B:Nat}{T:TypeId}{bits:Int}{s:Sv}{W:List Wy}{R:List Rt}{r:Rt}[h:Has L B (dO ⟨bits,⟨s,[]⟩⟩) T i][d1:dt L i R1][q:fu R1 s dB 48 (nodes bits W R) j][d2:dt R1 j L2]:bN Tryz.prog 123 w0 L [.pointer (some ⟨B,0,none⟩), .agg (ay r)] (Sv×List Nd) (fun zz=> .bool (decide ((dN W r.p (bK r.p)).length<=512))) (fun zz=>ar B (dO ⟨bits,⟨zz.1,[]⟩⟩) T::own dB 48 zz.1 zz.2::L2) (fun zz=>(dN W r.p (bK r.p)).length<=512->zz.2=nodes bits (dN W r.p (bK r.p)) (R++[r])) (bw r.p=true/\r.p.bits=bits/\jg W/\vr bits W R/\W.length<=512):=⟨fun hp w hw=>afP w0 w L2 B T bits s W R r (s0 h.h d1.h q.h d2.h hw) hp⟩
instance arz{t:Sv}{ts:List Rt}{bits:Int}[ht:cD w0 L ay 19 t ts]:bN Tryz.prog 55 w0 L [t.val, .int .i64 bits] (lW) (fun zz=> .tuple #[.agg (dO zz), .int .i64 (oT ts bits)]) (fun zz=>Deep.bR zz::L) (fun zz=>zz.bits=ud ts bits/\zz.ns.xs=ue ts bits) (True):=⟨fun aH w hw=>Gk (fun zz=>[Deep.bR zz]) hw (by
 have ht:=ht.h w hw;have rL:Gv w t ay 19 ts:=⟨ht⟩;refine cQ Tryz.func55 rfl Tryz.ntmps55 rfl ?_;refine Gc ?_;refine bl fun b4=>cW ?_;refine bI rfl rfl rfl (fun hg=>cj (eL (aF hg rfl) iV) trivial) (bI rfl rfl rfl (fun hg=>(Ry.yl (ng (aF hg rfl)))) (av ?_));refine Gb (fun h0=>?_) fun h0=>?_
 ·
  have hc: ¬(bF ts=true/\(bits=32\/bits=128)):=by rintro⟨h1,h2⟩;rcases h2 with h2|h2<;>simp[h1,h2]at h0
  obtain⟨yK,ri,DX⟩:=aaI hc;refine Gc ?_;refine ag (iz rfl) (al ?_);refine Gr fun w1 hw=>?_;exact⟨(⟨0,⟨Sv.none,[]⟩⟩:lW),by rw[yK],⟨ri.symm,DX.symm⟩,Mem.yx (τ:=Nd) (enc:=dB) (c:=48) (ai.mem hw:Mem w [] _)⟩
 have hc:bF ts=true/\(bits=32\/bits=128):=by simpa using h0
 have hlen:=xe hc.1;refine av ?_;refine sg (enc:=dB) (n:=1) (cap:=1) Nd.zero rfl rfl rfl rfl rfl oM oM oM fun lN=>ag (dm (v:= .agg (dO ⟨bits,⟨⟨false,lN,0,1,1,none⟩,[]⟩⟩)) rfl (afN bits _ [])) (ag (iz rfl) (bl fun b6=>aS ?_));refine bQ (X:=Nat×Sv) (fun zz=>[(24, .int .i64 (zz.1:Nat)),(6, .pointer (some ⟨b6,0,none⟩)),(1, .int .i64 bits),(4, .pointer (some ⟨b4,0,none⟩)),(22,t.val),(23, .int .i64 (ts.length:Nat))]) (fun zz=>[ar b6 (dO ⟨bits,⟨zz.2,[]⟩⟩) 217,own dB 48 zz.2 (nodes bits (lD bits (ts.take zz.1)) (ts.take zz.1)),ar b4 (dO (⟨0,⟨Sv.none,[]⟩⟩:lW)) 124]) (fun zz=>zz.1<=ts.length/\(lD bits (ts.take zz.1)).length<=512) (fun zz=>ts.length -zz.1) (0,⟨false,lN,0,1,1,none⟩) ⟨Nat.zero_le _,(by decide:[root].length<=512)⟩ sb (fun w hw=>by rw[show List.replicate 1 Nd.zero=nodes bits [root] []from(aaH bits).symm]at hw;exact(ai.mem hw:Mem _ [ar b6 (dO ⟨bits,⟨⟨false,lN,0,1,1,none⟩,[]⟩⟩) 217,own dB 48 ⟨false,lN,0,1,1,none⟩ (nodes bits [root] []),ar b4 (dO (⟨0,⟨Sv.none,[]⟩⟩:lW)) 124] _)) ?_;rintro⟨i,s1⟩ ⟨aZ,aE⟩;dsimp only;simp only at aZ aE;refine al ?_;refine Gb (fun h1=>?_) fun h1=>?_
 ·
  refine nt ?_;obtain⟨BE,wi⟩:=get_some (xs:=ts) (i:=i) oM;refine ag (aW rfl rfl i rfl oM) (ag (iF rfl i wi rfl) (bl fun b8=>eI ?_));refine Gb (fun h2=>?_) fun h2=>?_
  ·
   refine al ?_;refine Gi ?_;have tk:ts.take (i+1)=ts.take i++[BE]:=by obtain⟨hl,rfl⟩:=ad2.1 wi;exact atU hl
   exact bj (x:=(i,s1)) (i+1,s1) ⟨oF,by rw[CT wi,nY,if_neg h2];exact aE⟩ (by simp only;omega) sb (fun w hw=>by rw[CT wi,nY,if_neg h2,tk,aaG h2];exact ai.mem hw)
  have hme:=uc hc.1 (anc wi);have wh:jg (lD bits (ts.take i)):=aar fun x hx=>uc hc.1 (aum hx);refine av ?_;refine aX rfl ⟨hme,h2,wh,Kf i ts,aE⟩ fun gD uI=>av ?_;refine Gb (fun h3=>?_) fun h3=>?_
  ·
   have fP: ¬(lD bits ts).length<=512:=fun h=>by have h5:=(aaF (bits:=bits) (t:=ts) (show i+1<=ts.length by omega)).length_le;rw[asP,CT wi,nY,if_pos h2]at h5;omega
   obtain⟨yK,ri,DX⟩:=aaJ hc fP;refine Gc ?_;refine ag (iz rfl) (al ?_);refine Gr fun w1 hw=>?_;exact⟨(⟨0,⟨Sv.none,[]⟩⟩:lW),by rw[yK],⟨ri.symm,DX.symm⟩,Mem.yx (τ:=Nd) (enc:=dB) (c:=48) (ai.mem hw:Mem w [] _)⟩
  refine al ?_;refine Gi ?_;have tk:ts.take (i+1)=ts.take i++[BE]:=by obtain⟨hl,rfl⟩:=ad2.1 wi;exact atU hl
  have bB:=h3;exact bj (x:=(i,s1)) (i+1,gD.1) ⟨oF,by rw[CT wi,nY,if_pos h2];exact bB⟩ (by simp only;omega) sb (fun w hw=>by rw[CT wi,nY,if_pos h2,tk,←uI bB];exact ai.mem hw)
 refine av ?_;refine ag (hK rfl) (al ?_);refine Gr fun w1 hw=>?_;obtain rfl:i=ts.length:=by omega
 rw[asP]at aE hw;obtain⟨yK,ri,DX⟩:=aaK hc aE;exact⟨⟨bits,⟨s1,nodes bits (lD bits ts) ts⟩⟩,by rw[yK];rfl,⟨ri.symm,DX.symm⟩,(Tr.EZ (a:=(⟨s1,nodes bits (lD bits ts) ts⟩:Sl Nd))).mem (ai.mem hw)⟩)⟩
instance arA{t:lW}[ht:aU w0 L t]:bN Tryz.prog 237 w0 L [.agg (dO t)] (Sv) (fun zz=>zz.val) (fun zz=>own bu 1 zz ((lh t.bits t.ns.xs).getD [])::L) (fun zz=>zz.nil=(lh t.bits t.ns.xs).isNone) (True):=⟨fun aH w hw=>Gk (fun zz=>[own bu 1 zz ((lh t.bits t.ns.xs).getD [])]) hw (by
 have ht:=ht.h w hw;have rL:cL w t:=⟨ht⟩;have jH:=ht.1.bd;refine cB Tryz.func237 rfl Tryz.ntmps237 rfl ?_;refine Gc ?_;refine cf rfl fun b1=>ZB ?_;refine Gb (fun h0=>?_) fun h0=>?_
 ·
  have hv:lh t.bits t.ns.xs=none:=by rw[lh,if_neg];omega
  refine al ?_;refine Gr fun w1 hw=>?_;exact⟨Sv.none,rfl,by rw[hv];rfl,by rw[hv];exact Mem.dj bu 1 (ai.mem hw:Mem w [] _)⟩
 have hb:t.bits=32\/t.bits=128:=by omega
 have pN:1<=t.ns.xs.length:=by omega
 have tp:t.ns.xs.length<=512:=by omega
 have HD:lh t.bits t.ns.xs=lg t.bits t.ns.xs t.ns.xs.length:=by rw[lh,if_pos ⟨hb,pN,tp⟩]
 refine au ?_;refine sg (enc:=bu) (n:=t.ns.xs.length) (cap:=t.ns.xs.length) (0:Int) rfl rfl rfl rfl rfl oM oM oM fun s8=>al ?_;obtain⟨z,hz⟩:=get_some (xs:=(List.replicate t.ns.xs.length (0:Int))) (i:=0) (by simp;omega);refine ag (aW rfl rfl 0 rfl (by simp;omega)) (QI rfl rfl hz rfl (aS ?_));refine bQ (X:=Nat×List Int) (fun zz=>[(34, .int .i64 (zz.1:Nat)),(3,(⟨false,s8,0,t.ns.xs.length,t.ns.xs.length,none⟩:Sv).val),(1, .pointer (some ⟨b1,0,none⟩)),(32,t.ns.sv.val),(33, .int .i64 (t.ns.xs.length:Nat))]) (fun zz=>[own bu 1 ⟨false,s8,0,t.ns.xs.length,t.ns.xs.length,none⟩ zz.2,ar b1 (dO t) 124]) (fun zz=>zz.1<=t.ns.xs.length/\lg t.bits t.ns.xs zz.1=some zz.2/\zz.2.length=t.ns.xs.length/\(∀y∈zz.2,0<=y/\y<=33)) (fun zz=>t.ns.xs.length -zz.1) (0,(List.replicate t.ns.xs.length 0).set 0 1) ⟨Nat.zero_le _,rfl,by simp,fun y hy=>by rcases asV hy with h|h;rw[List.eq_of_mem_replicate h];omega;omega⟩ sb (fun w hw=>ai.mem hw) ?_
 rintro⟨i,a⟩ ⟨hi,hs,ha,hy⟩;dsimp only;simp only at hi hs ha hy;refine al ?_;refine Gb (fun h1=>?_) fun h1=>?_
 ·
  refine av ?_;obtain⟨n,hn⟩:=get_some (xs:=t.ns.xs) (i:=i) oM;refine ag (aW rfl rfl i rfl oM) (ag (iF rfl i hn rfl) (bl fun b5=>al ?_));refine gJ oK oK (av ?_);obtain⟨x,hx⟩:=get_some (xs:=a) (i:=i) oM;refine bC (aW rfl rfl i rfl oM) ?_;have hxr:=hy x (anc hx);refine bC (bE (j:=0) rfl i hx rfl (by decide)) (au ?_);refine fD rfl rfl rfl (fun hg=>(Ry.yl (aW (aF hg rfl) (aF hg rfl) i rfl oM))) (fD rfl rfl rfl (fun hg=>(Ry.yl (bE (j:=0) (aF hg rfl) i hx rfl (by decide)))) (av ?_));refine fD rfl rfl rfl (fun hg=>(Ry.yl (my (aF hg rfl) rfl (by simp only[Z0,Z1,Z2,Z3,Z4,Z5,Z6,Z7,Z8,Z9]at hg;omega) (by simp only[Z0,Z1,Z2,Z3,Z4,Z5,Z6,Z7,Z8,Z9]at hg;omega)))) (al ?_);refine Gb (fun h2=>?_) fun h2=>?_
  ·
   have hv:=acs oM hs (by rw[getD_some hx];omega);refine al ?_;refine Gr fun w1 hw=>?_;exact⟨Sv.none,rfl,by rw[hv];rfl,by rw[hv];exact Mem.dj bu 1 (ai.mem hw:Mem w [] _)⟩
  have HE: ¬(a.getD i 0=0\/t.bits/4<a.getD i 0):=by rw[getD_some hx];omega
  refine al ?_;refine bQ (X:=Nat×List Int) (fun zz=>[(54, .int .i64 (zz.1:Nat)),(3,(⟨false,s8,0,t.ns.xs.length,t.ns.xs.length,none⟩:Sv).val),(1, .pointer (some ⟨b1,0,none⟩)),(4, .int .i64 (i:Nat)),(5, .pointer (some ⟨b5,0,none⟩)),(32,t.ns.sv.val),(33, .int .i64 (t.ns.xs.length:Nat)),(34, .int .i64 (i:Nat))]) (fun zz=>[own bu 1 ⟨false,s8,0,t.ns.xs.length,t.ns.xs.length,none⟩ zz.2,ar b5 (dB n) 225,ar b1 (dO t) 124]) (fun zz=>zz.1<=16/\mL t.ns.xs.length i n zz.1 a=some zz.2/\zz.2.length=t.ns.xs.length/\(∀y∈zz.2,0<=y/\y<=33)/\zz.2[i]? =some x) (fun zz=>16 -zz.1) (0,a) ⟨oF,rfl,ha,hy,hx⟩ sb (fun w hw=>ai.mem hw) ?_;rintro⟨b,a2⟩ ⟨oc,BF,HF,Dy,fU⟩;dsimp only;simp only at oc BF HF Dy fU;refine al ?_;refine Gb (fun h3=>?_) fun h3=>?_
  ·
   refine aS ?_;refine ag (wD rfl rfl oM oM) (ag (aO rfl rfl) ?_);refine ag (aaS rfl b oM (by simp only[avc,atu,at2,as3,atl]<;>omega)) ?_;refine eI ?_;refine bI rfl rfl rfl (fun hg=>(Ry.yl (aW (aF hg rfl) (aF hg rfl) i rfl oM))) (bI rfl rfl rfl (fun hg=>(Ry.yl (bE (j:=0) (aF hg rfl) i fU rfl (by decide)))) (bI rfl rfl rfl (fun hg=>(Ry.yl (pL rfl (aF hg rfl) (by simp only[Z0,Z1,Z2,Z3,Z4,Z5,Z6,Z7,Z8,Z9]at hg;omega)))) (bI rfl rfl rfl (fun hg=>(Ry.yl (yh (aF hg rfl) rfl (by simp only[Z0,Z1,Z2,Z3,Z4,Z5,Z6,Z7,Z8,Z9]at hg;omega)))) (al ?_))));refine Gb (fun h4=>?_) fun h4=>?_
   ·
    have hv:=Sw oM hs hn (b:=b) oM BF (by rw[ux,getD_some fU,if_pos oM]);refine al ?_;refine Gr fun w1 hw=>?_;exact⟨Sv.none,rfl,by rw[hv];rfl,by rw[hv];exact Mem.dj bu 1 (ai.mem hw:Mem w [] _)⟩
   refine al ?_;refine ag (wD rfl rfl oM oM) ?_;refine ag (aaR rfl b oM (by simp only[avc,atu,at2,as3,atl]<;>omega)) ?_;refine aM ?_;refine Gb (fun h5=>?_) fun h5=>?_
   ·
    have ho:ux t.ns.xs.length i n b a2=some a2:=by rw[ux,getD_some fU,if_neg oM,if_pos h5]
    refine al ?_;refine Gi ?_;exact bj (x:=(b,a2)) (b+1,a2) ⟨oF,by rw[mL,BF,atV,ho],HF,Dy,fU⟩ (by simp only;omega) sb (fun w hw=>ai.mem hw)
   refine PZ ?_;refine bI rfl rfl rfl (fun hg=>(Ry.yl (aW (aF hg rfl) (aF hg rfl) ((n.nx b).toNat) (by simp only[Z0,Z1,Z2,Z3,Z4,Z5,Z6,Z7,Z8,Z9]at hg;omega) (by simp only[Z0,Z1,Z2,Z3,Z4,Z5,Z6,Z7,Z8,Z9]at hg;omega)))) (bI rfl rfl rfl (fun hg=>(Ry.yl (bE (j:=0) (aF hg rfl) ((n.nx b).toNat) (nP (xs:=a2) (i:=(n.nx b).toNat) (d:=(0:Int)) (by simp only[Z0,Z1,Z2,Z3,Z4,Z5,Z6,Z7,Z8,Z9]at hg;omega)) rfl (by decide)))) (al ?_));refine Gb (fun h6=>?_) fun h6=>?_
   ·
    have hv:=Sw oM hs hn (b:=b) oM BF (by rw[ux,getD_some fU,if_neg oM,if_neg h5,if_pos oM]);refine al ?_;refine Gr fun w1 hw=>?_;exact⟨Sv.none,rfl,by rw[hv];rfl,by rw[hv];exact Mem.dj bu 1 (ai.mem hw:Mem w [] _)⟩
   have ho:ux t.ns.xs.length i n b a2=some (a2.set (n.nx b).toNat (x+1)):=by rw[ux,getD_some fU,if_neg oM,if_neg h5,if_neg oM]
   refine aM ?_;refine ag (aW rfl rfl i rfl oM) (ag (bE (j:=0) rfl i fU rfl (by decide)) (Gs ?_));obtain⟨arB,afQ⟩:=get_some (xs:=a2) (i:=(n.nx b).toNat) oM;refine ag (aW rfl rfl ((n.nx b).toNat) oM oM) (QI rfl rfl afQ rfl (al ?_));refine Gi ?_;exact bj (x:=(b,a2)) (b+1,_) ⟨oF,by rw[mL,BF,atV,ho],by simp[HF],fun y yN=>by rcases asV yN with h|h;exact Dy y h;omega,by rw[asS oF];exact fU⟩ (by simp only;omega) sb (fun w hw=>ai.mem hw)
  obtain rfl:b=16:=by omega
  refine al ?_;refine Gi ?_;exact bj (x:=(i,a)) (i+1,a2) ⟨oF,acu hs hn HE BF,HF,Dy⟩ (by simp only;omega) sb (fun w hw=>ai.mem hw)
 refine au ?_;refine Gr fun w1 hw=>?_;obtain rfl:i=t.ns.xs.length:=by omega
 exact⟨⟨false,s8,0,t.ns.xs.length,t.ns.xs.length,none⟩,rfl,by rw[HD,hs];rfl,by rw[HD,hs];exact(ai.mem hw:Mem w [own bu 1 ⟨false,s8,0,t.ns.xs.length,t.ns.xs.length,none⟩ a] _)⟩)⟩
instance arC{t:lW}[ht:aU w0 L t]:cE Tryz.prog 198 w0 L [.agg (dO t)] (.bool ((lh t.bits t.ns.xs).isSome)) (True):=⟨fun aH w hw=>by
 have ht:=ht.h w hw;have rL:cL w t:=⟨ht⟩;refine cB Tryz.func198 rfl Tryz.ntmps198 rfl ?_;refine Gc ?_;refine cf rfl fun b1=>al ?_;refine aX rfl trivial fun x4 DW=>ag (X6 Tryz.underlying60 rfl) (av ?_);refine Gr fun w1 hw=>?_;exact⟨congrArg (fun b=>Ending.returned (Value.bool b)) (by rw[DW];cases lh t.bits t.ns.xs<;>rfl),ai.mem hw⟩⟩
instance arD{t:lW}{k:Key}[ht:aU w0 L t]:bN Tryz.prog 124 w0 L [.agg (dO t), .agg (ck k)] (Sv) (fun zz=>zz.val) (fun zz=>own bu 1 zz (mM t.bits t.ns.xs k)::L) (fun zz=>True) (True):=⟨fun aH w hw=>Gk (fun zz=>[own bu 1 zz (mM t.bits t.ns.xs k)]) hw (by
 have ht:=ht.h w hw;have rL:cL w t:=⟨ht⟩;refine cQ Tryz.func124 rfl Tryz.ntmps124 rfl ?_;refine Gc ?_;refine cf rfl fun b2=>cf rfl fun b3=>av ?_;refine gJ oK oK (Gq ?_);refine sd (cj rfl trivial) (av ?_);refine fD rfl rfl rfl (fun hg=>(Ry.yl (jY rfl))) (av ?_);refine fD rfl rfl rfl (fun hg=>cj (eL (aF hg rfl) (eL (aF hg rfl) iV)) trivial) (fD rfl rfl rfl (fun hg=>(Ry.yl (jY rfl))) (fD rfl rfl rfl (fun hg=>(Ry.yl (IS (aF hg rfl) (aF hg rfl)))) (av ?_)));refine Gb (fun h0=>?_) fun h0=>?_
 ·
  have hk:sX t.bits t.ns.xs k=false:=by rw[sX];rcases h0 with h|h;rw[h];rfl;rw[decide_eq_false h];simp
  refine al ?_;refine Gr fun w1 hw=>?_;exact⟨Sv.none,rfl,trivial,by rw[mM,if_neg (by rw[hk];simp)];exact Mem.dj bu 1 (ai.mem hw:Mem w [] _)⟩
 have hs:(lh t.bits t.ns.xs).isSome=true:=by simpa using h0.1
 have hk:sX t.bits t.ns.xs k=true:=by rw[sX,hs];simpa using h0.2
 obtain⟨hr,hb,pN,tp⟩:=GS hs;refine Gc ?_;refine jF (enc:=bu) (vals:=[_]) [0] rfl rfl rfl (by decide) (by decide) fun lN=>?_;refine au ?_;refine ag (my rfl rfl oM oM) (av ?_);refine bQ (X:=Nat×Sv) (fun zz=>[(23, .int .i64 (zz.1:Nat)),(5,zz.2.val),(2, .pointer (some ⟨b2,0,none⟩)),(3, .pointer (some ⟨b3,0,none⟩)),(22, .int .i64 (t.bits/4))]) (fun zz=>[own bu 1 zz.2 (vK t.ns.xs k zz.1),ar b2 (dO t) 124,ar b3 (ck k) 25]) (fun zz=>zz.1<=(t.bits/4).toNat/\ ∀j,j<zz.1->chain t.ns.xs k (j+1)≠0) (fun zz=>(t.bits/4).toNat -zz.1) (0,⟨false,lN,0,1,1,none⟩) ⟨Nat.zero_le _,fun j hj=>absurd hj (Nat.not_lt_zero j)⟩ sb (fun w hw=>(ai.mem hw:Mem _ [own bu 1 ⟨false,lN,0,1,1,none⟩ [0],ar b2 (dO t) 124,ar b3 (ck k) 25] _)) ?_;rintro⟨i,s1⟩ ⟨aZ,aE⟩;dsimp only;simp only at aZ aE;have oH:=GU (k:=k) hr pN i;have br:=vp k i;have MN:=CP k i;refine al ?_;refine Gb (fun h1=>?_) fun h1=>?_
 ·
  refine au ?_;refine gJ oK oK (au ?_);refine bC (aW rfl rfl i rfl (by rw[Di];omega)) (bC (bE (j:=0) rfl i (Sy (asu i)) rfl (by decide)) (av ?_));refine sd (cj rfl trivial) ?_;obtain⟨n,hn⟩:=get_some (xs:=t.ns.xs) (i:=(chain t.ns.xs k i)) oH;refine bC (aW rfl rfl (chain t.ns.xs k i) rfl oH) (bC (aO rfl rfl) (bC (wD rfl rfl oM oM) ?_));refine bC (QH rfl (chain t.ns.xs k i) hn ((je k ((i:Nat):Int)).toNat) oM (by simp only[avc,atu,at2,as3,atl]<;>omega)) ?_;refine aM ?_;refine Gb (fun h2=>?_) fun h2=>?_
  ·
   have h00:chain t.ns.xs k (i+1)=0:=by rw[chain,getD_some hn];have:n.nx (gM k i)=0:=h2;omega
   refine gg ?_;refine EO rfl (au ?_);refine Gr fun w1 hw=>?_;exact⟨s1,rfl,trivial,by rw[mM,if_pos hk,acA oM aE h00];exact ai.mem hw⟩
  have MO:n.nx (je k (i:Nat)).toNat=((chain t.ns.xs k (i+1):Nat):Int):=by rw[chain,getD_some hn];have:=(hr _ n hn (gM k i) br).1;show n.nx (gM k i)=_;omega
  refine al ?_;refine jF (enc:=bu) (vals:=[_]) [n.nx ((je k ((i:Nat):Int)).toNat)] rfl rfl rfl (by decide) (by decide) fun jn=>?_;refine gS (s:=s1) (ys:=[n.nx ((je k ((i:Nat):Int)).toNat)]) rfl rfl (by decide) (fun w hw=>fY (s:=⟨false,jn,0,1,1,none⟩) Tryz.underlying60 (by decide) ((inferInstance:Hd _ _ ⟨false,jn,0,1,1,none⟩ bu 1 [n.nx ((je k ((i:Nat):Int)).toNat)]).h w hw)) (by rw[Di];simp only[asm,asn];omega) (by rw[Di];simp only[asm,asn];omega) fun s44 arE arF=>?_;refine au ?_;refine Gi ?_;exact bj (x:=(i,s1)) (i+1,s44) ⟨oF,fun j hj=>(asx j i).elim (aE j) fun h=>by obtain rfl:j=i:=oF;intro h9;rw[h9]at MO;exact h2 MO⟩ (by simp only;omega) sb (fun w hw=>by rw[acC,←MO];exact ai.mem hw)
 refine au ?_;refine Gr fun w1 hw=>?_;exact⟨s1,rfl,trivial,by rw[mM,if_pos hk,acB (fun j hj=>aE j oM),show(t.bits/4).toNat=i by omega];exact ai.mem hw⟩)⟩
instance arG{t:lW}{k:Key}[ht:aU w0 L t]:cE Tryz.prog 56 w0 L [.agg (dO t), .agg (ck k)] (.tuple #[.int .i64 (y5 t.bits t.ns.xs k), .int .u16 ((y7 t.bits t.ns.xs k).toNat:Nat), .int .i64 (rG t.bits t.ns.xs k)]) (True):=⟨fun aH w hw=>by
 have ht:=ht.h w hw;have rL:cL w t:=⟨ht⟩;refine cQ Tryz.func56 rfl Tryz.ntmps56 rfl ?_;refine Gc ?_;refine cf rfl fun b2=>cf rfl fun b3=>aS ?_;refine aX rfl trivial fun jB xL=>aS ?_;refine Gb (fun h0=>?_) fun h0=>?_
 ·
  have hk:sX t.bits t.ns.xs k=false:=SA.1 oM;have he:rG t.bits t.ns.xs k=1:=by rw[rG,if_neg (by rw[hk];simp)]
  refine aM ?_;refine Gr fun w1 hw=>?_;exact⟨by rw[y5,y7,he];rfl,ai.mem hw⟩
 have hk:sX t.bits t.ns.xs k=true:=by cases h:sX t.bits t.ns.xs k with|true=>rfl|false=>exact absurd (SA.2 h) oM
 have hs:(lh t.bits t.ns.xs).isSome=true:=by rw[sX,alM]at hk;exact hk.1
 obtain⟨hr,hb,pN,tp⟩:=GS hs;refine Gc ?_;refine bl fun b8=>au ?_;refine ky ?_;refine OQ jB fun jH=>bQ (X:=Nat) (fun zz=>[(20, .int .i64 (zz:Nat)),(8, .pointer (some ⟨b8,0,none⟩)),(2, .pointer (some ⟨b2,0,none⟩)),(3, .pointer (some ⟨b3,0,none⟩)),(18,jB.val),(19, .int .i64 ((mM t.bits t.ns.xs k).length:Nat))]) (fun zz=>[ar b8 (pX (po t.ns.xs k zz)) 221,own bu 1 jB (mM t.bits t.ns.xs k),ar b2 (dO t) 124,ar b3 (ck k) 25]) (fun zz=>zz<=(mM t.bits t.ns.xs k).length) (fun zz=>(mM t.bits t.ns.xs k).length -zz) 0 (asO _) sb (fun w hw=>(ai.mem hw:Mem _ [ar b8 (pX gw.no) 221,own bu 1 jB (mM t.bits t.ns.xs k),ar b2 (dO t) 124,ar b3 (ck k) 25] _)) ?_;rintro i hI;have oH:=GU (k:=k) hr pN i;have br:=vp k i;have MN:=CP k i;refine al ?_;refine Gb (fun h1=>?_) fun h1=>?_
 ·
  refine av ?_;refine ag (aW rfl rfl i rfl oM) (ag (bE (j:=0) rfl i (acD oM) rfl (by decide)) (al ?_));refine iY [10,11] [[],[],[],[],[],[],[],[],[],[],[],[10]] [0,1,2,3,4,5,6,7,8,9,10,11] [ar b2 (dO t) 124,ar b3 (ck k) 25] (fun _ hw=>ai.mem hw) oK oK (an rfl (aO (o':=1) rfl rfl) (an rfl (bY rfl) (an rfl (bf rfl) (an rfl (jY rfl) (an rfl (bf rfl) (wX rfl (cj rfl trivial) ?_))))));obtain⟨n,hn⟩:=get_some (xs:=t.ns.xs) (i:=(chain t.ns.xs k i)) oH;refine an rfl (aW rfl rfl (chain t.ns.xs k i) rfl oH) (an rfl (aO rfl rfl) (an rfl (wD rfl rfl oM oM) ?_));refine an rfl (aaQ rfl (chain t.ns.xs k i) hn ((je k ((i:Nat):Int)).toNat) oM (by simp only[avc,atu,at2,as3,atl]<;>omega)) ?_;refine dH rfl (PM fun px=>⟨fun _ hw=>ai.mem hw,?_⟩);refine dH rfl (pV rfl rfl ⟨fun _ hw=>ai.mem hw,?_⟩);refine cW ?_;refine Gb (fun h2=>?_) fun h2=>?_
  ·
   have rO:po t.ns.xs k (i+1)=n.sl (je k (i:Nat)).toNat:=by simp only[po,getD_some hn];exact if_pos h2
   refine Gi ?_;refine aM ?_;refine Gi ?_;exact bj (x:=(i)) (i+1) oF oF sb (fun w hw=>by rw[rO];exact ai.mem hw)
  have rO:po t.ns.xs k (i+1)=po t.ns.xs k i:=by simp only[po,getD_some hn];exact if_neg h2
  refine al ?_;refine Gi ?_;exact bj (x:=(i)) (i+1) oF oF sb (fun w hw=>by rw[rO];exact ai.mem hw)
 refine aM ?_;refine Gb (fun h3=>?_) fun h3=>?_
 ·
  have HG:yZ t.bits t.ns.xs k=po t.ns.xs k i:=by rw[yZ,show(mM t.bits t.ns.xs k).length=i by omega]
  have he:rG t.bits t.ns.xs k=6:=by rw[rG,if_pos hk,HG,if_pos h3]
  refine aM ?_;refine Gr fun w1 hw=>?_;exact⟨by rw[y5,y7,he];rfl,ai.mem hw⟩
 have HG:yZ t.bits t.ns.xs k=po t.ns.xs k i:=by rw[yZ,show(mM t.bits t.ns.xs k).length=i by omega]
 have he:rG t.bits t.ns.xs k=0:=by rw[rG,if_pos hk,HG,if_neg h3]
 have T3:=Sz (k:=k) hs i;refine Gc ?_;refine gJ oK oK (hU ?_);refine Gr fun w1 hw=>?_;exact⟨by rw[y5,y7,he,HG];rfl,ai.mem hw⟩⟩
end Go.Proofs.YtkggjjnhnjjokaaGreatDoor
namespace Go.Kb
open Go.ax
def afR:Key:=nk fun i=>if i=0 then 10 else 0
def tq(h:UInt16):Rt:=⟨⟨32,8,afR⟩,h⟩
def MP:CV×Int:=rp 6 2 64
def MQ:FV×Int:=rI MP.1
def HH:FV×Int:=cG MQ.1 [⟨tq 7,false⟩]
def MR:FV×Int:=dz HH.1.aq.ae
theorem afS:MP.2=0:=by decide+kernel
theorem afT:MQ.2=0:=by decide+kernel
theorem afU:HH.2=0:=by decide+kernel
theorem afV:MR.2=0:=by decide+kernel
def uL:Key:=nk fun i=>if i=0 then 10 else if i=1 then 9 else 0
theorem afW:wg [49,48,46,48,46,48,46,48,47,56,32,55]=0:=by decide+kernel
theorem Uq:rT [49,48,46,48,46,48,46,48,47,56,32,55]=tq 7:=by decide+kernel
theorem afX:MR.1.table=[tq 7]:=by decide+kernel
theorem afY:oT [tq 7] 32=0:=by decide+kernel
theorem afZ:rG (ud [tq 7] 32) (ue [tq 7] 32) uL=0:=by decide+kernel
theorem af1:y5 (ud [tq 7] 32) (ue [tq 7] 32) uL=8:=by decide+kernel
theorem af2:y7 (ud [tq 7] 32) (ue [tq 7] 32) uL=7:=by decide+kernel
end Go.Kb
namespace Go.Proofs.YtkggjjnhnjjokaaGreatDoor
open Go.ax Go.Kb Go.RowKit
theorem af3{f:dx}{v:FV}(e:cg f=v)(h:S6 v=true):gO f.aq.ae/\f.aq.at_.xs.length<=1000000/\f.table.xs.length<=1000000:=by
 subst e;simp only[S6,alM,decide_eq_true_eq]at h;exact⟨rr h.1.1,h.1.2,h.2⟩
variable {w0:World}{L:List aj}
instance arH[tb:rh w0]:cE Tryz.prog 12 w0 L [] (.bool true) (True):=⟨fun aH w hw=>by
 have tb:=tb.at hw;refine ZL Tryz.func12 rfl Tryz.ntmps12 rfl ?_;refine al ?_;refine eS (cj rfl (by decide)) (Gs ?_);refine ag (aJ (v:= .agg (ay (rT [49,48,46,48,46,48,46,48,47,56,32,55]))) rfl rfl) (ag (aJ (v:= .int .i64 (wg [49,48,46,48,46,48,46,48,47,56,32,55])) rfl rfl) (bl fun b1=>al ?_));refine aX rfl trivial fun eQ tg=>?_;have MS:cv eQ=MP.1:=tg;have z21:(rp 6 2 64).2=0:=afS;have af4:gO eQ:=rr (by rw[MS];decide+kernel);refine Gs ?_;refine ag (aJ (v:= .agg (aT eQ)) rfl rfl) (ag (aJ (v:= .int .i64 ((rp 6 2 64).2)) rfl rfl) (bl fun b3=>au ?_));refine aX rfl af4 fun iP qd=>?_;have BE:cg iP=MQ.1:=by rw[qd,MS];rfl
 have jQ:(rI (cv eQ)).2=0:=by rw[MS];exact afT
 have af5:=af3 BE (by decide+kernel);refine Gs ?_;refine ag (aJ (v:= .agg (dw iP)) rfl rfl) (ag (aJ (v:= .int .i64 ((rI (cv eQ)).2)) rfl rfl) (bl fun b5=>aM ?_));refine ag (iz rfl) ?_;refine jF (enc:=cq) (vals:=[_]) [(⟨(rT [49,48,46,48,46,48,46,48,47,56,32,55]),false⟩:Ch)] rfl rfl rfl (by decide) (by decide) fun jP=>?_;refine aX rfl af5 fun gD uI=>?_;have v8:cg gD=HH.1:=by rw[uI,BE,Uq];rfl
 have jR:(cG (cg iP) [(⟨(rT [49,48,46,48,46,48,46,48,47,56,32,55]),false⟩:Ch)]).2=0:=by rw[BE,Uq];exact afU
 have Ur:cv gD.aq.ae=HH.1.aq.ae:=congrArg (fun z:FV=>z.aq.ae) v8;refine Gs ?_;refine ag (aJ (v:= .agg (dw gD)) rfl rfl) (ag (aJ (v:= .int .i64 ((cG (cg iP) [(⟨(rT [49,48,46,48,46,48,46,48,47,56,32,55]),false⟩:Ch)]).2)) rfl rfl) (bl fun b7=>aM ?_));refine ag (hK rfl) (aX rfl trivial fun jm LV=>?_);have e41:cg jm=MR.1:=by rw[LV,Ur];rfl
 have jS:(dz (cv gD.aq.ae)).2=0:=by rw[Ur];exact afV
 have t41:jm.table.xs=[tq 7]:=(congrArg FV.table e41).trans afX;refine Gs ?_;refine ag (aJ (v:= .agg (dw jm)) rfl rfl) (ag (aJ (v:= .int .i64 ((dz (cv gD.aq.ae)).2)) rfl rfl) (bl fun b9=>aM ?_));refine aX rfl trivial fun kj vS=>?_;have jT:oT jm.table.xs 32=0:=by rw[t41];exact afY
 have f1:rG kj.bits kj.ns.xs uL=0:=by rw[vS.1,vS.2,t41];exact afZ
 have f2:y5 kj.bits kj.ns.xs uL=8:=by rw[vS.1,vS.2,t41];exact af1
 have f3:y7 kj.bits kj.ns.xs uL=7:=by rw[vS.1,vS.2,t41];exact af2
 have jU:=afW;refine Gs ?_;refine ag (aJ (v:= .agg (dO kj)) rfl rfl) (ag (aJ (v:= .int .i64 (oT jm.table.xs 32)) rfl rfl) (bl fun px=>au ?_));refine ag (dm (v:= .agg (ck uL)) rfl (fun w=>by kernel_rfl)) (av ?_);refine ag (aJ (v:= .int .i64 (y5 kj.bits kj.ns.xs uL)) rfl rfl) (ag (aJ (v:= .int .u16 ((y7 kj.bits kj.ns.xs uL).toNat:Nat)) rfl rfl) (ag (aJ (v:= .int .i64 (rG kj.bits kj.ns.xs uL)) rfl rfl) (cW ?_)));refine kv rfl rfl rfl (by simp[jU,z21,jQ,jR,jS,jT,f1,f2,f3]) (Ry.yl (bf rfl)) (kv rfl rfl rfl (by simp[jU,z21,jQ,jR,jS,jT,f1,f2,f3]) (Ry.yl (et rfl rfl rfl)) (ag (tU rfl (by simp[jU,z21,jQ,jR,jS,jT,f1,f2,f3]) rfl rfl) (Gs ?_)));refine kv rfl rfl rfl (by simp[jU,z21,jQ,jR,jS,jT,f1,f2,f3]) (Ry.yl (bf rfl)) (kv rfl rfl rfl (by simp[jU,z21,jQ,jR,jS,jT,f1,f2,f3]) (Ry.yl (et rfl rfl rfl)) (ag (tU rfl (by simp[jU,z21,jQ,jR,jS,jT,f1,f2,f3]) rfl rfl) (Gs ?_)));refine kv rfl rfl rfl (by simp[jU,z21,jQ,jR,jS,jT,f1,f2,f3]) (Ry.yl (bf rfl)) (kv rfl rfl rfl (by simp[jU,z21,jQ,jR,jS,jT,f1,f2,f3]) (Ry.yl (et rfl rfl rfl)) (ag (tU rfl (by simp[jU,z21,jQ,jR,jS,jT,f1,f2,f3]) rfl rfl) (Gs ?_)));refine kv rfl rfl rfl (by simp[jU,z21,jQ,jR,jS,jT,f1,f2,f3]) (Ry.yl (bf rfl)) (kv rfl rfl rfl (by simp[jU,z21,jQ,jR,jS,jT,f1,f2,f3]) (Ry.yl (et rfl rfl rfl)) (ag (tU rfl (by simp[jU,z21,jQ,jR,jS,jT,f1,f2,f3]) rfl rfl) (Gs ?_)));refine kv rfl rfl rfl (by simp[jU,z21,jQ,jR,jS,jT,f1,f2,f3]) (Ry.yl (bf rfl)) (kv rfl rfl rfl (by simp[jU,z21,jQ,jR,jS,jT,f1,f2,f3]) (Ry.yl (et rfl rfl rfl)) (ag (tU rfl (by simp[jU,z21,jQ,jR,jS,jT,f1,f2,f3]) rfl rfl) (Gs ?_)));refine kv rfl rfl rfl (by simp[jU,z21,jQ,jR,jS,jT,f1,f2,f3]) (Ry.yl (bf rfl)) (kv rfl rfl rfl (by simp[jU,z21,jQ,jR,jS,jT,f1,f2,f3]) (Ry.yl (et rfl rfl rfl)) (ag (tU rfl (by simp[jU,z21,jQ,jR,jS,jT,f1,f2,f3]) rfl rfl) (Gs ?_)));refine kv rfl rfl rfl (by simp[jU,z21,jQ,jR,jS,jT,f1,f2,f3]) (Ry.yl (bf rfl)) (kv rfl rfl rfl (by simp[jU,z21,jQ,jR,jS,jT,f1,f2,f3]) (Ry.yl (et rfl rfl rfl)) (ag (tU rfl (by simp[jU,z21,jQ,jR,jS,jT,f1,f2,f3]) rfl rfl) (Gs ?_)));refine kv rfl rfl rfl (by simp[jU,z21,jQ,jR,jS,jT,f1,f2,f3]) (Ry.yl (bf rfl)) (kv rfl rfl rfl (by simp[jU,z21,jQ,jR,jS,jT,f1,f2,f3]) (Ry.yl (et rfl rfl rfl)) (ag (tU rfl (by simp[jU,z21,jQ,jR,jS,jT,f1,f2,f3]) rfl rfl) (av ?_)));refine Gr fun w1 hw=>?_;exact⟨congrArg (fun b=>Ending.returned (Value.bool b)) ((by simp[f3])),ai.mem hw⟩⟩
end Go.Proofs.YtkggjjnhnjjokaaGreatDoor
namespace Go.Kb
section
variable {α:Type} (f:α->Nat)
def HI(l:List α):Prop:=l.Pairwise fun a b=>f a<=f b
structure qT(l l':List α):Prop where
 HJ:HI f l'
 same: ∀k,l'.filter (fun x=>decide (f x=k))=l.filter (fun x=>decide (f x=k))
variable {f}
theorem qT.refl{l:List α}(h:HI f l):qT f l l:=⟨h,fun _=>rfl⟩
theorem qT.trans{a b c:List α}(h: ∀k,b.filter (fun x=>decide (f x=k))=a.filter (fun x=>decide (f x=k)))(h':qT f b c):qT f a c:=⟨h'.HJ,fun k=>(h'.same k).trans (h k)⟩
theorem qT.mem{l l':List α}(h:qT f l l'){x:α}:x∈l'↔x∈l:=by
 have h1:=h.same (f x);have e: ∀m:List α,x∈m↔x∈m.filter fun y=>decide (f y=f x):=fun m=>by simp[asQ]
 rw[e l',h1,←e l]
theorem qT.length{l l':List α}(h:qT f l l'):l'.length=l.length:=by
 have key: ∀(n:Nat) (a b:List α),a.length=n->(∀k,b.filter (fun x=>decide (f x=k))=a.filter (fun x=>decide (f x=k)))->b.length=a.length:=by
  intro n
  induction n using Nat.strongRecOn with
  |_ n ih=>
   intro a b hn hs
   cases a with
   |nil=>
    cases b with
    |nil=>rfl
    |cons y b=>have:=hs (f y);simp at this
   |cons x a=>
    have e1: ∀m:List α,m.length=(m.filter fun y=>decide (f y=f x)).length+(m.filter fun y=> !decide (f y=f x)).length:=fun m=>by
     rw[←List.countP_eq_length_filter,←List.countP_eq_length_filter]
     induction m with
     |nil=>rfl
     |cons z m ihm=>by_cases hz:f z=f x<;>simp[List.countP_cons,hz]at ihm⊢ <;>omega
    have hx:((x::a).filter fun y=> !decide (f y=f x)).length<n:=by
     have:=e1 (x::a);have h2:0<((x::a).filter fun y=>decide (f y=f x)).length:=List.length_pos_of_mem (by simp:x∈_);omega
    have zL: ∀k,(b.filter fun y=> !decide (f y=f x)).filter (fun y=>decide (f y=k))=((x::a).filter fun y=> !decide (f y=f x)).filter (fun y=>decide (f y=k)):=fun k=>by
     have sw: ∀m:List α,(m.filter fun y=> !decide (f y=f x)).filter (fun y=>decide (f y=k))=(m.filter (fun y=>decide (f y=k))).filter fun y=> !decide (f y=f x):=fun m=>by
      rw[List.filter_filter,List.filter_filter];congr 1;funext y;rw[Bool.and_comm]
     rw[sw,sw,hs k]
    have:=ih _ hx _ _ rfl zL;rw[e1 b,e1 (x::a),hs,this]
 exact key _ l l' rfl h.same
theorem Us: ∀{a b:List α},HI f a->HI f b->(∀k,a.filter (fun x=>decide (f x=k))=b.filter (fun x=>decide (f x=k)))->a=b
 |[],[],_,_,_=>rfl
 |[],y::b,_,_,h=>by have:=h (f y);simp at this
 |x::a,[],_,_,h=>by have:=h (f x);simp at this
 |x::a,y::b,ha,hb,h=>by
  have yn:=asT.1 ha;have cN:=asT.1 hb;have hx:x∈y::b:=by
   have:=(show x∈(x::a).filter (fun z=>decide (f z=f x)) by simp);rw[h]at this;exact(asQ.1 this).1
  have hy:y∈x::a:=by
   have:=(show y∈(y::b).filter (fun z=>decide (f z=f y)) by simp);rw[←h]at this;exact(asQ.1 this).1
  have arI:f x<=f y:=by
   rcases asw.1 hy with e|e
   ·
    rw[e];exact asu _
   exact yn.1 y e
  have arJ:f y<=f x:=by
   rcases asw.1 hx with e|e
   ·
    rw[e];exact asu _
   exact cN.1 x e
  have hf:f x=f y:=by omega
  have h0:=h (f x);rw[atf,atf,if_pos (by simp),if_pos (by simp[hf])]at h0;have exy:=(avv h0).1;subst exy;congr 1;refine Us yn.2 cN.2 fun k=>?_;have hk:=h k;rw[atf,atf]at hk
  by_cases e:f x=k
  ·
   rw[if_pos (by simp[e]),if_pos (by simp[e])]at hk;exact(avv hk).2
  rw[if_neg (by simp[e]),if_neg (by simp[e])]at hk;exact hk
theorem qT.uniq{l a b:List α}(ha:qT f l a)(hb:qT f l b):a=b:=Us ha.HJ hb.HJ fun k=>(ha.same k).trans (hb.same k).symm
def ins(f:α->Nat)(x:α):List α->List α
 |[]=>[x]
 |y::r=>if f y<f x then y::ins f x r else x::y::r
def HJ(f:α->Nat)(l:List α):List α:=l.foldr (ins f) []
end
section
variable {α:Type} {f:α->Nat} {xs ys zs:List α} {a b m i j k s e:Nat}
def HK(xs:List α)(i j:Nat):List α:=(xs.drop i).take (j -i)
theorem parts(h1:a<=b)(h2:b<=xs.length):xs=xs.take a++HK xs a b++xs.drop b:=by
 rw[HK,asF]
 conv=>lhs;rw[←asR a xs,←asR (b -a) (xs.drop a),at3,show a+(b -a)=b by omega]
end
end Go.Kb
namespace Go.ax
open Go.RowKit Go.Kb
section
variable {P:Program} {w0 w:World} {L:List aj} {α:Type} {enc:α->Array Value} {c:Nat} {s:Sv} {xs:List α}
end
section
variable {P:Program} {N:ct} {w0:World} {env:Env} {L:List aj} {l:List Oper} {Q:Exit->Act->World->Prop} {rest:List Oper} {d:Option Tmp} {ty:TypeId} {ps:String} {af:Array Edge} {gd:Option (Nat×Bool)}
end
section
variable {α:Type} {f:α->Nat} {xs ys zs ts:List α} {a b m i j k n:Nat}
theorem four{P U W V S:List α}(t:Nat):(P++(U++(W++(V++S))))[t]? =if t<P.length then P[t]?else if t<P.length+U.length then U[t -P.length]?else if t<P.length+U.length+W.length then W[t -P.length -U.length]?else if t<P.length+U.length+W.length+V.length then V[t -P.length -U.length -W.length]?else S[t -P.length -U.length -W.length -V.length]? :=by
 simp only[List.getElem?_append]
 by_cases c1:t<P.length
 ·
  rw[if_pos c1,if_pos c1]
 rw[if_neg c1,if_neg c1]
 by_cases c2:t<P.length+U.length
 ·
  rw[if_pos c2,if_pos (show t -P.length<U.length by omega)]
 rw[if_neg c2,if_neg (show ¬t -P.length<U.length by omega)]
 by_cases c3:t<P.length+U.length+W.length
 ·
  rw[if_pos c3,if_pos (show t -P.length -U.length<W.length by omega)]
 rw[if_neg c3,if_neg (show ¬t -P.length -U.length<W.length by omega)]
 by_cases c4:t<P.length+U.length+W.length+V.length
 ·
  rw[if_pos c4,if_pos (show t -P.length -U.length -W.length<V.length by omega)]
 rw[if_neg c4,if_neg (show ¬t -P.length -U.length -W.length<V.length by omega)]
end
end Go.ax
namespace Go.Kb
variable {t:List Rt} {k:Key} {bits:Int}
theorem Ord.at{t:List Rt}(h:Ord t){i j:Nat}{a b:Rt}(ha:t[i]? =some a)(hb:t[j]? =some b)(nI:i<j):cO a.p b.p=true:=by
 obtain⟨hi,rfl⟩:=ad2.1 ha;obtain⟨hj,rfl⟩:=ad2.1 hb;exact(atz.1 h.less) i j hi hj nI
variable {t u:List Rt} {r:Rt} {k:Key} {bits:Int}
theorem arK(he:cx t [⟨r,false⟩]=0):eo t ⟨r,false⟩=0/\bM t [⟨r,false⟩]=gX t ⟨r,false⟩:=by
 have hr:bF t=true:=by
  cases h:bF t with
  |true=>rfl
  |false=>rw[cx,if_neg (by rw[h];simp)]at he;omega
 have h2:=he;rw[cx,if_pos hr,gY]at h2;have hc:eo t ⟨r,false⟩=0:=by
  apply asH;intro hn;rw[if_neg hn]at h2;exact hn h2
 exact⟨hc,by rw[bM,if_pos he,gY,if_pos hc];rfl⟩
theorem BG{c:Ch}(he:eo t c=0):bw c.r.p=true:=by
 apply asH;intro hn;rw[eo,if_neg hn]at he;omega
theorem af6(hr:bF t=true)(he:eo t ⟨r,false⟩=0)(x:Rt):x∈gX t ⟨r,false⟩↔x=r\/(x∈t/\x.p≠r.p):=by
 have hm:bw r.p=true:=BG he;have ho:=mO hr;rw[gX,if_pos he,if_neg (by simp)]
 by_cases hb:kG t r.p=true
 ·
  rw[if_pos hb];obtain⟨r0,_,h1,h2⟩:=y8 hb;have hn:=(ad2.1 h1).1;have bO: ∀j y,t[j]? =some y->j≠cT t r.p->y.p≠r.p:=fun j y hy hj e=>by
   rcases avm hj with g|g
   ·
    have:=ho.at hy h1 g;rw[e,h2,mN hm]at this;cases this
   have:=ho.at h1 hy g;rw[e,h2,mN hm]at this;cases this
  constructor
  ·
   intro hx;obtain⟨j,hj⟩:=atP.1 hx
   by_cases e:cT t r.p=j
   ·
    subst e;rw[asJ hn]at hj;exact .inl (aso hj).symm
   rw[asS e]at hj;exact .inr ⟨List.mem_of_getElem? hj,bO j x hj fun h=>e h.symm⟩
  rintro(rfl|⟨hx,hp⟩)
  ·
   exact anc (asJ hn)
  obtain⟨j,hj⟩:=atP.1 hx;have e:cT t r.p≠j:=fun e=>by
   subst e;rw[h1]at hj;cases hj;exact hp h2
  exact anc ((asS e).trans hj)
 rw[if_neg hb];have fP: ∀y∈t,y.p≠r.p:=fun y hy e=>hb (GX hr hm hy e).2;have e:x∈t↔x∈t.take (cT t r.p)\/x∈t.drop (cT t r.p):=by
  rw[←asz,asR]
 simp only[asz,asw];constructor
 ·
  rintro(h|h|h)
  ·
   exact .inr ⟨e.2 (.inl h),fP x (e.2 (.inl h))⟩
  ·
   exact .inl h
  exact .inr ⟨e.2 (.inr h),fP x (e.2 (.inr h))⟩
 rintro(h|⟨h,_⟩)
 ·
  exact .inr (.inl h)
 rcases e.1 h with h|h
 ·
  exact .inl h
 exact .inr (.inr h)
variable {t u:List Rt} {r:Rt} {q p:bt}
theorem DY(hp:bw p=true)(hq:bw q=true)(h:cO p q=false)(hn:p≠q):cO q p=true:=by
 rw[nn hq hp];have h1: ¬cO p q=true:=by rw[h];simp
 rw[nn hp hq]at h1;have h2: ¬(p.bits=q.bits/\p.key.toNat=q.key.toNat/\p.len=q.len):=fun e=>hn (YF.2 e);omega
theorem DZ(hp:bw p=true)(hq:bw q=true)(h:cO p q=true):cO q p=false:=by
 cases hx:cO q p with
 |false=>rfl
 |true=>rw[nn hq hp]at hx;rw[nn hp hq]at h;omega
theorem HL(hp:bw p=true)(h:cO p q=true):p≠q:=fun e=>by subst e;rw[mN hp]at h;cases h
theorem BH{a b c:bt}(ha:bw a=true)(hb:bw b=true)(hc:bw c=true)(h1:cO a b=true)(h2:cO b c=true):cO a c=true:=by
 rw[nn ha hb]at h1;rw[nn hb hc]at h2;rw[nn ha hc];omega
def xV(t:List Rt)(q:bt):List Rt:=t.filter fun x=>cO x.p q
def tr(t:List Rt)(q:bt):List Rt:=t.filter fun x=>cO q x.p
theorem filter_all{α:Type}{f:α->Bool}{l:List α}(h: ∀x∈l,f x=true):l.filter f=l:=List.filter_eq_self.2 h
theorem filter_none{α:Type}{f:α->Bool}{l:List α}(h: ∀x∈l,f x=false):l.filter f=[]:=auQ.2 fun x hx=>by rw[h x hx];simp
theorem Ord.ext: ∀{s t:List Rt},Ord s->Ord t->(∀x,x∈s↔x∈t)->s=t
 |[],[],_,_,_=>rfl
 |[],b::t,_,_,h=>by have:=(h b).2 (asv);cases this
 |a::s,[],_,_,h=>by have:=(h a).1 (asv);cases this
 |a::s,b::t,hs,ht,h=>by
  have ha:=(asT.1 hs.less);have hb:=(asT.1 ht.less);have ma:=hs.may a asv;have mb:=ht.may b asv;have e:a=b:=by
   apply asH;intro hn;rcases asw.1 ((h a).1 asv)with h1|h1
   ·
    exact hn h1
   rcases asw.1 ((h b).2 asv)with h2|h2
   ·
    exact hn h2.symm
   have h3:=hb.1 a h1;have h4:=ha.1 b h2;rw[DZ mb ma h3]at h4;cases h4
  subst e;have bO: ∀x,(∀y∈s,cO a.p y.p=true)->x∈s->x≠a:=fun x hy hx e=>by
   subst e;have:=hy x hx;rw[mN ma]at this;cases this
  rw[Ord.ext (hs.sub (atm _ _)) (ht.sub (atm _ _)) fun x=>⟨fun hx=>?_,fun hx=>?_⟩]
  ·
   rcases asw.1 ((h x).1 (asE _ hx))with h1|h1
   ·
    exact absurd h1 (bO x ha.1 hx)
   exact h1
  rcases asw.1 ((h x).2 (asE _ hx))with h1|h1
  ·
   subst h1;have:=hb.1 x hx;rw[mN ma]at this;cases this
  exact h1
theorem af7(h:bF t=true)(hq:bw q=true):(∀x∈t.take (cT t q),cO x.p q=true)/\ ∀x∈t.drop (cT t q),cO x.p q=false:=by
 obtain⟨h1,h2,h3⟩:=SC (p:=behind t q) (n:=t.length) fun a b=>SD h hq a b;constructor
 ·
  intro x hx;obtain⟨i,hi⟩:=atP.1 hx;have dK:=(ad2.1 hi).1;rw[asq]at dK;rw[auA,if_pos (by omega)]at hi;have:=h2 i (by have:cT t q=bs (behind t q) t.length:=rfl;omega);simpa[behind,hi]using this
 intro x hx;obtain⟨i,hi⟩:=atP.1 hx;rw[aty]at hi;have dK:=(ad2.1 hi).1;have:=h3 (cT t q+i) (Nat.le_add_right _ _) dK;simpa[behind,hi]using this
theorem Ut(h:bF t=true)(hq:bw q=true):t.take (cT t q)=xV t q/\(kG t q=true->t.drop (cT t q+1)=tr t q)/\(kG t q=false->t.drop (cT t q)=tr t q):=by
 obtain⟨h1,h2⟩:=af7 h hq;have ho:=mO h;have e:t=t.take (cT t q)++t.drop (cT t q):=(asR _ _).symm;have hm: ∀x∈t,bw x.p=true:=ho.may;have mt: ∀x∈t.take (cT t q),x∈t:=fun x hx=>aum hx;have md: ∀x∈t.drop (cT t q),x∈t:=fun x hx=>avd hx;have k1:t.take (cT t q)=xV t q:=by
  unfold xV
  conv=>rhs;rw[e]
  rw[atH,filter_all h1,filter_none h2,asZ]
 have k2:tr t q=tr (t.drop (cT t q)) q:=by
  unfold tr
  conv=>lhs;rw[e]
  rw[atH,filter_none (l:=t.take (cT t q)) fun x hx=>DZ (hm x (mt x hx)) hq (h1 x hx),atc]
 refine⟨k1,fun hb=>?_,fun hb=>?_⟩
 ·
  obtain⟨x,hx,hi,hp⟩:=y8 hb;obtain⟨dK,pH⟩:=ad2.1 hi;have e2:t.drop (cT t q)=x::t.drop (cT t q+1):=by rw[←pH,List.getElem_cons_drop]
  rw[k2,e2,tr,atf,hp,mN hq];simp only[as2,if_false];refine(filter_all fun y hy=>?_).symm;obtain⟨j,hj⟩:=atP.1 hy;rw[aty]at hj;have:=GW h (cT t q) (cT t q+1+j) x y (by omega) hi hj;rw[hp]at this;exact this
 rw[k2];refine(filter_all fun y hy=>?_).symm;refine DY (hm y (md y hy)) hq (h2 y hy) fun ep=>?_;have:=(GX h hq (md y hy) ep).2;rw[hb]at this;cases this
theorem af8(h:bF t=true)(he:eo t ⟨r,false⟩=0):gX t ⟨r,false⟩=xV t r.p++r::tr t r.p:=by
 obtain⟨k1,k2,k3⟩:=Ut h (BG he);rw[gX,if_pos he,if_neg (by simp)]
 by_cases hb:kG t r.p=true
 ·
  obtain⟨x,hx,hi,hp⟩:=y8 hb;have dK:=(ad2.1 hi).1;rw[if_pos hb,List.set_eq_take_append_cons_drop,if_pos dK,k1,k2 hb]
 rw[if_neg hb];show t.take (cT t r.p)++r::t.drop (cT t r.p)=_;rw[k1,k3 (by simpa using hb)]
theorem Uu(h:bF t=true)(he:eo t ⟨r,true⟩=0):gX t ⟨r,true⟩=xV t r.p++tr t r.p:=by
 have hm:=BG he;obtain⟨k1,k2,k3⟩:=Ut h hm;have hb:kG t r.p=true:=by
  apply asH;intro hn;rw[eo,if_pos hm,if_neg hn,if_pos rfl]at he;omega
 rw[gX,if_pos he,if_pos rfl];show t.take (cT t r.p)++t.drop (cT t r.p+1)=_;rw[k1,k2 hb]
theorem Uv(h:Ord t)(hq:bw q=true):t.filter (fun x=>decide (x.p≠q))=xV t q++tr t q:=by
 refine Ord.ext (h.sub au3) ⟨fun x hx=>?_,?_⟩ fun x=>?_
 ·
  rcases asz.1 hx with h1|h1<;>exact h.may x (asQ.1 h1).1
 ·
  refine auF.2 ⟨h.less.sublist au3,h.less.sublist au3,fun a ha b hb=>?_⟩;have ha:=asQ.1 ha;have hb:=asQ.1 hb;exact BH (h.may a ha.1) hq (h.may b hb.1) ha.2 hb.2
 rw[asz,asQ,xV,tr,asQ,asQ];constructor
 ·
  rintro⟨h1,h2⟩
  cases h3:cO x.p q with
  |true=>exact .inl ⟨h1,rfl⟩
  |false=>exact .inr ⟨h1,DY (h.may x h1) hq h3 (by simpa using h2)⟩
 rintro(⟨h1,h2⟩|⟨h1,h2⟩)
 ·
  exact⟨h1,by simpa using HL (h.may x h1) h2⟩
 exact⟨h1,by simpa using(HL hq h2).symm⟩
theorem af9(h:Ord t)(hr:bw r.p=true):Ord (xV t r.p++r::tr t r.p):=by
 refine⟨fun x hx=>?_,?_⟩
 ·
  rcases asz.1 hx with h1|h1
  ·
   exact h.may x (asQ.1 h1).1
  rcases asw.1 h1 with rfl|h1
  ·
   exact hr
  exact h.may x (asQ.1 h1).1
 refine auF.2 ⟨h.less.sublist au3,asT.2 ⟨fun y hy=>(asQ.1 hy).2,h.less.sublist au3⟩,fun a ha b hb=>?_⟩;have ha:=asQ.1 ha;rcases asw.1 hb with rfl|hb
 ·
  exact ha.2
 have hb:=asQ.1 hb;exact BH (h.may a ha.1) hr (h.may b hb.1) ha.2 hb.2
theorem D0(h:bF t=true)(c:Ch):bF (gX t c)=true:=by
 by_cases he:eo t c=0
 ·
  refine acH ?_ (SG (xe h) c);obtain⟨r,g⟩:=c
  cases g with
  |false=>rw[af8 h he];exact af9 (mO h) (BG he)
  |true=>rw[Uu h he,←Uv (mO h) (BG he)];exact(mO h).sub au3
 rw[gX,if_neg he];exact h
def rU(t:List Rt)(q:bt):Int:=if bw q=true then(if(t.any fun x=>decide (x.p=q))=true then 0 else 6)else 1
def zw(t:List Rt)(q:bt):UInt16:=if bw q=true then((t.find? fun x=>decide (x.p=q)).map Rt.bH).getD 0 else 0
theorem aga(h:bF t=true)(hq:bw q=true):(t.any fun x=>decide (x.p=q))=kG t q:=by
 cases hb:kG t q with
 |true=>
  obtain⟨x,hx,_,hp⟩:=y8 hb;exact List.any_eq_true.2 ⟨x,hx,by simp[hp]⟩
 |false=>
  refine List.any_eq_false.2 fun x hx=>?_;have hn:x.p≠q:=fun e=>by have:=(GX h hq hx e).2;rw[hb]at this;cases this
  simp[hn]
theorem agb(h:bF t=true)(c:Ch):eo t c=if rU t c.r.p=1\/(rU t c.r.p=6/\c.gone=true)then rU t c.r.p else if rU t c.r.p=6/\256<=t.length then 5 else 0:=by
 unfold eo rU
 by_cases hm:bw c.r.p=true
 ·
  rw[if_pos hm,if_pos hm,aga h hm]
  cases kG t c.r.p<;>cases c.gone<;>simp
 rw[if_neg hm,if_neg hm];simp
theorem agc(h:bw q=false):rU t q=1/\zw t q=0:=by simp[rU,zw,h]
theorem Uw(hm:bw q=true)(h: ∀x∈t,x.p≠q):rU t q=6/\zw t q=0:=by
 have h1:(t.any fun x=>decide (x.p=q))=false:=List.any_eq_false.2 fun x hx=>by simp[h x hx]
 have h2:(t.find? fun x=>decide (x.p=q))=none:=auV.2 fun x hx=>by simp[h x hx]
 simp[rU,zw,hm,h1,h2]
theorem agd{i:Nat}{e:Rt}(hm:bw q=true)(fP: ∀x∈t.take i,x.p≠q)(he:t[i]? =some e)(hp:e.p=q):rU t q=0/\zw t q=e.bH:=by
 obtain⟨hi,qw⟩:=ad2.1 he;have ht:t=t.take i++e::t.drop (i+1):=by rw[←qw,List.getElem_cons_drop,asR]
 have h1:(t.any fun x=>decide (x.p=q))=true:=List.any_eq_true.2 ⟨e,anc he,by simp[hp]⟩;have h2:(t.find? fun x=>decide (x.p=q))=some e:=by
  rw[ht,List.find?_append,auV.2 fun x hx=>by simp[fP x hx]];simp[hp]
 rw[rU,zw,if_pos hm,if_pos hm,if_pos h1,h2];exact⟨rfl,rfl⟩
theorem age(h:bF t=true)(he:eo t ⟨r,true⟩=0):gX t ⟨r,true⟩=t.filter fun x=>decide (x.p≠r.p):=by rw[Uu h he,Uv (mO h) (BG he)]
end Go.Kb
namespace Go.ax
open Go.Kb
def xW(xs:List Rt):Prop:= ∀x∈xs,bw x.p=true
section
variable {α:Type} {f:α->Nat} {xs ys zs ts:List α} {a b c m i j k n s e:Nat}
def Bk(f:α->Nat)(xs ys:List α)(c lo hi:Nat):Prop:= ∀s,lo<=s->s<hi->s%c=0->qT f (HK xs s (min (s+c) xs.length)) (HK ys s (min (s+c) xs.length))
end
open Go.RowKit
section
variable {P:Program} {N:ct} {w0:World} {env:Env} {L:List aj} {l:List Oper} {Q:Exit->Act->World->Prop} {rest:List Oper} {d:Option Tmp} {ty:TypeId} {ps:String} {af:Array Edge} {gd:Option (Nat×Bool)}
end
variable {t ts:List Rt} {k:Key} {bits:Int} {p:bt}
def K7(ts:List Rt):List Rt:=ts.filter fun r=>decide (r.p.bits=32)
variable {t ts:List Rt} {k:Key} {bits:Int} {p:bt}
theorem agf(h:bF t=true):vL t p=rU t p/\za t p=zw t p:=by
 have ho:=mO h
 cases hp:bw p with
 |false=>
  obtain⟨e1,e2⟩:=agc (t:=t) hp;have bB:xz t p=false:=by rw[xz,hp,Bool.and_false]
  rw[e1,e2,vL,za,if_neg (by rw[bB];simp),if_neg (by rw[bB];simp)];exact⟨rfl,rfl⟩
 |true=>
  have bB:xz t p=true:=by rw[xz,h,hp];rfl
  by_cases hx: ∃r∈t,r.p=p
  ·
   obtain⟨r,hr,rfl⟩:=hx;obtain⟨i,hi⟩:=atP.1 hr;obtain⟨e1,e2⟩:=agd (t:=t) hp (i:=i) (e:=r) (fun x hx=>by
    obtain⟨j,hj,hv⟩:=List.mem_take_iff_getElem.1 hx;have oz:t[j]? =some x:=by rw[asr (by omega),hv]
    exact HL (ho.may x (anc oz)) (ho.at oz hi (by omega))) hi rfl
   obtain⟨e3,e4⟩:=SF h hr;rw[e1,e2,e3,e4];exact⟨rfl,rfl⟩
  obtain⟨e1,e2⟩:=Uw (t:=t) hp fun x qC e=>hx ⟨x,qC,e⟩;rw[e1,e2]
  cases hf:y9 t p with
  |some r=>
   have:vL t p=0:=by rw[vL,if_pos bB,hf];rfl
   obtain⟨r',h1,h2,_⟩:=acK h this;exact absurd ⟨r',h1,h2⟩ hx
  |none=>rw[vL,za,if_pos bB,if_pos bB,hf];exact⟨rfl,rfl⟩
theorem agh{t:List Rt}(h:bF t=true): ∀l:List Ch,bF (gY t l).1=true:=by
 intro l
 induction l generalizing t with
 |nil=>exact h
 |cons c l ih=>
  rw[gY];split
  ·
   exact ih (D0 h c)
  exact h
theorem Ux{t:List Rt}(h:bF t=true)(l:List Ch):bF (bM t l)=true:=by
 unfold bM;split
 ·
  exact agh h l
 exact h
variable {t ts:List Rt} {k:Key} {bits:Int} {p:bt} {r:Rt}
theorem agi(h:bF t=true){c:Ch}(he:eo t c=0):cx t [c]=0/\bM t [c]=gX t c:=by
 have e:cx t [c]=0:=by rw[cx,if_pos h,gY,if_pos he];rfl
 exact⟨e,by rw[bM,if_pos e,gY,if_pos he];rfl⟩
variable {t ts:List Rt} {p:bt}
def km(l:List Ch)(p:bt):Option Ch:=(l.filter fun c=>decide (c.r.p=p)).getLast?
theorem MT{l:List Ch}{p:bt}{x:Ch}(h:km l p=some x):x∈l/\x.r.p=p:=by
 have:=asQ.1 (List.mem_of_getLast? h);exact⟨this.1,by simpa using this.2⟩
theorem zx(c:Ch)(l:List Ch)(p:bt):km (c::l) p=(km l p).or (if c.r.p=p then some c else none):=by
 unfold km;rw[atf]
 by_cases h:c.r.p=p
 ·
  rw[if_pos (by simpa using h),if_pos h,List.getLast?_cons]
  cases hl:(l.filter fun c=>decide (c.r.p=p)).getLast?<;>simp
 rw[if_neg (by simpa using h),if_neg h];simp
theorem agj{l:List Ch}(h: ∀c∈l,c.r.p≠p):km l p=none:=by
 unfold km;rw[auQ.2 fun c hc=>by simpa using h c hc];rfl
theorem agk(h:bF t=true){c:Ch}(he:eo t c=0)(x:Rt):x∈gX t c↔if c.r.p=x.p then c.gone=false/\x=c.r else x∈t:=by
 obtain⟨r,g⟩:=c
 cases g with
 |false=>
  rw[af6 h he]
  by_cases hp:r.p=x.p
  ·
   rw[if_pos hp];constructor
   ·
    rintro(h1|⟨_,h1⟩)
    ·
     exact⟨rfl,h1⟩
    exact absurd hp.symm h1
   exact fun h1=> .inl h1.2
  rw[if_neg hp];constructor
  ·
   rintro(h1|h1)
   ·
    exact absurd (by rw[h1]) hp
   exact h1.1
  exact fun h1=> .inr ⟨h1,fun e=>hp e.symm⟩
 |true=>
  rw[age h he,asQ]
  by_cases hp:r.p=x.p
  ·
   rw[if_pos hp];simp[hp]
  rw[if_neg hp];exact⟨fun h1=>h1.1,fun h1=>⟨h1,by simpa using fun e=>hp e.symm⟩⟩
theorem Uy: ∀{l:List Ch} {t:List Rt},bF t=true->(gY t l).2=0-> ∀x,x∈(gY t l).1↔match km l x.p with
  |some c=>c.gone=false/\x=c.r
  |none=>x∈t
 |[],t,_,_,x=>by simp[km,gY]
 |c::l,t,h,he,x=>by
  rw[gY]at he⊢
  by_cases hc:eo t c=0
  ·
   rw[if_pos hc]at he⊢;rw[Uy (D0 h c) he x,zx]
   cases hl:km l x.p with
   |some d=>rfl
   |none=>
    simp only[Option.none_or];rw[agk h hc]
    by_cases hp:c.r.p=x.p
    ·
     rw[if_pos hp,if_pos hp]
    ·
     rw[if_neg hp,if_neg hp]
  ·
   rw[if_neg hc]at he;exact absurd he hc
theorem agl(h:bF t=true){l:List Ch}(he:cx t l=0)(x:Rt):x∈bM t l↔match km l x.p with
  |some c=>c.gone=false/\x=c.r
  |none=>x∈t:=by
 rw[bM,if_pos he];rw[cx,if_pos h]at he;exact Uy h he x
variable {t u:List Ch} {p:bt} {r:Ch}
structure qn(t:List Ch):Prop where
 may: ∀r∈t,bw r.r.p=true
 less:t.Pairwise fun a b=>cO a.r.p b.r.p=true
theorem qn.sub{s t:List Ch}(h:qn t)(hs:s.Sublist t):qn s:=⟨fun r hr=>h.may r (hs.subset hr),h.less.sublist hs⟩
theorem qn.uniq{t:List Ch}(h:qn t){a b:Ch}(ha:a∈t)(hb:b∈t)(e:a.r.p=b.r.p):a=b:=by
 obtain⟨i,hi,rfl⟩:=atZ ha;obtain⟨j,hj,rfl⟩:=atZ hb;have hp:=atz.1 h.less;have hm:=h.may _ hb;rcases ava i j with h1|h1|h1
 ·
  have:=hp i j hi hj h1;rw[e,mN hm]at this;cases this
 ·
  subst h1;rfl
 have:=hp j i hj hi h1;rw[e,mN hm]at this;cases this
theorem qn.ext: ∀{s t:List Ch},qn s->qn t->(∀x,x∈s↔x∈t)->s=t
 |[],[],_,_,_=>rfl
 |[],b::t,_,_,h=>by have:=(h b).2 (asv);cases this
 |a::s,[],_,_,h=>by have:=(h a).1 (asv);cases this
 |a::s,b::t,hs,ht,h=>by
  have ha:=(asT.1 hs.less);have hb:=(asT.1 ht.less);have ma:=hs.may a asv;have mb:=ht.may b asv;have e:a=b:=by
   apply asH;intro hn;rcases asw.1 ((h a).1 asv)with h1|h1
   ·
    exact hn h1
   rcases asw.1 ((h b).2 asv)with h2|h2
   ·
    exact hn h2.symm
   have h3:=hb.1 a h1;have h4:=ha.1 b h2;rw[DZ mb ma h3]at h4;cases h4
  subst e;have bO: ∀x,(∀y∈s,cO a.r.p y.r.p=true)->x∈s->x≠a:=fun x hy hx e=>by
   subst e;have:=hy x hx;rw[mN ma]at this;cases this
  rw[qn.ext (hs.sub (atm _ _)) (ht.sub (atm _ _)) fun x=>⟨fun hx=>?_,fun hx=>?_⟩]
  ·
   rcases asw.1 ((h x).1 (asE _ hx))with h1|h1
   ·
    exact absurd h1 (bO x ha.1 hx)
   exact h1
  rcases asw.1 ((h x).2 (asE _ hx))with h1|h1
  ·
   subst h1;have:=hb.1 x hx;rw[mN ma]at this;cases this
  exact h1
variable {t u v:List Rt} {p:bt} {l:List Ch}
def ir(t:List Rt)(p:bt):Option Rt:=t.find? fun x=>decide (x.p=p)
theorem HM(ho:Ord t){x:Rt}:ir t p=some x↔x∈t/\x.p=p:=by
 unfold ir;constructor
 ·
  intro h;exact⟨List.mem_of_find?_eq_some h,by simpa using List.find?_some h⟩
 rintro⟨h1,h2⟩
 cases h:t.find? fun x=>decide (x.p=p)with
 |some y=>
  have h3:=auy h;have h4:y.p=p:=by simpa using List.find?_some h
  rw[ho.uniq h1 h3 (h2.trans h4.symm)]
 |none=>
  have:=auV.1 h x h1;simp[h2]at this
theorem HN:ir t p=none↔ ∀x∈t,x.p≠p:=by
 unfold ir;rw[auV];exact⟨fun h x hx=>by simpa using h x hx,fun h x hx=>by simpa using h x hx⟩
theorem Uz{x:Rt}(h:ir t p=some x):x.p=p:=by
 unfold ir at h;simpa using List.find?_some h
theorem MU{x:Rt}(h:ir t p=some x):x∈t:=by
 unfold ir at h;exact auy h
theorem agm(h1:Ord t)(h2:Ord u)(h: ∀p,ir t p=ir u p):t=u:=
 Go.Kb.Ord.ext h1 h2 fun x=>by
  have:=h x.p;constructor
  ·
   intro hx;exact MU (this▸(HM h1).2 ⟨hx,rfl⟩)
  intro hx;exact MU (this.symm▸(HM h2).2 ⟨hx,rfl⟩)
def qU(l:List Ch):Prop:=l.Pairwise fun a b=>a.r.p≠b.r.p
theorem qU.uniq(h:qU l){a b:Ch}(ha:a∈l)(hb:b∈l)(e:a.r.p=b.r.p):a=b:=by
 obtain⟨i,hi,rfl⟩:=atZ ha;obtain⟨j,hj,rfl⟩:=atZ hb;have hp:=atz.1 h;rcases ava i j with h1|h1|h1
 ·
  exact absurd e (hp i j hi hj h1)
 ·
  subst h1;rfl
 exact absurd e.symm (hp j i hj hi h1)
theorem qn.dst(h:qn l):qU l:=h.less.imp_of_mem fun{a b} ha _ uV=>HL (h.may a ha) uV
theorem UA(h:qU l){c:Ch}:km l p=some c↔c∈l/\c.r.p=p:=by
 constructor
 ·
  exact MT
 rintro⟨h1,h2⟩
 cases hl:km l p with
 |some d=>
  obtain⟨h3,h4⟩:=MT hl;rw[h.uniq h1 h3 (h2.trans h4.symm)]
 |none=>
  have:(l.filter fun c=>decide (c.r.p=p))=[]:=List.getLast?_eq_none_iff.1 hl;have:=auQ.1 this c h1;simp[h2]at this
theorem agn:km l p=none↔ ∀c∈l,c.r.p≠p:=by
 constructor
 ·
  intro hl c hc;have:(l.filter fun c=>decide (c.r.p=p))=[]:=List.getLast?_eq_none_iff.1 hl;have:=auQ.1 this c hc;simpa using this
 exact agj
theorem ago{m:List Ch}(hl:qU l)(hm:qU m)(h: ∀c,c∈l↔c∈m)(p:bt):km l p=km m p:=by
 cases h1:km m p with
 |some c=>
  obtain⟨h2,h3⟩:=(UA hm).1 h1;exact(UA hl).2 ⟨(h c).2 h2,h3⟩
 |none=>
  rw[agn]at h1⊢;exact fun c hc=>h1 c ((h c).1 hc)
def aC:Option Ch->Option Rt->Option Rt
 |some c,_=>if c.gone=true then none else some c.r
 |none,o=>o
theorem UB(h:bF t=true)(he:cx t l=0)(p:bt):ir (bM t l) p=aC (km l p) (ir t p):=by
 have hu:=mO (Ux h l);have key: ∀x:Rt,x.p=p->(x∈bM t l↔aC (km l p) (ir t p)=some x):=fun x hx=>by
  rw[agl h he,hx]
  cases hl:km l p with
  |none=>simp only[aC];rw[HM (mO h)];exact⟨fun h=>⟨h,hx⟩,fun h=>h.1⟩
  |some c=>
   simp only[aC]
   cases c.gone<;>simp[eq_comm]
 cases ha:aC (km l p) (ir t p)with
 |some x=>
  have hx:x.p=p:=by
   cases hl:km l p with
   |none=>rw[hl]at ha;exact Uz ha
   |some c=>
    rw[hl]at ha;simp only[aC]at ha;split at ha
    ·
     cases ha
    rw[←aso ha];exact(MT hl).2
  exact(HM hu).2 ⟨(key x hx).2 ha,hx⟩
 |none=>
  rw[HN];intro x hx e;have:=(key x e).1 hx;rw[ha]at this;cases this
theorem agp(h:bF t=true){c:Ch}(hm:bw c.r.p=true)(hg:c.gone=true->ir t c.r.p≠none)(hl:c.gone=false->t.length<256):eo t c=0:=by
 rw[agb h]
 cases hh:ir t c.r.p with
 |some x=>
  have h2:=SF h (MU hh);rw[Uz hh,(agf h).1]at h2;rw[h2.1,if_neg (by simp),if_neg (by simp)]
 |none=>
  have h2:=Uw hm (HN.1 hh);have uG:c.gone=false:=by
   cases uG:c.gone with
   |false=>rfl
   |true=>exact absurd hh (hg uG)
  have:=hl uG;rw[h2.1,if_neg (by simp[uG]),if_neg (by omega)]
theorem agq(h:bF t=true)(c:Ch):(gX t c).length<=t.length+(if c.gone=true then 0 else 1):=by
 unfold gX;split
 ·
  split
  ·
   simp only[af0,asq,ass];omega
  split
  ·
   simp
  have:=Li t c.r.p;simp only[af0,asq,asm,ass];omega
 omega
theorem agr(h:bF t=true){c:Ch}(he:eo t c=0)(p:bt):ir (gX t c) p=if c.r.p=p then(if c.gone=true then none else some c.r)else ir t p:=by
 obtain⟨e1,e2⟩:=agi h he;have:=UB h e1 p;rw[e2]at this;rw[this];unfold km
 by_cases hp:c.r.p=p
 ·
  rw[if_pos hp];simp[hp,aC]
 rw[if_neg hp];simp[hp,aC]
def qV(l:List Ch):Nat:=l.countP fun c=> !c.gone
theorem D1(c:Ch)(l:List Ch):qV (c::l)=qV l+(if c.gone=true then 0 else 1):=by
 unfold qV;rw[List.countP_cons]
 cases c.gone<;>simp
theorem UC: ∀{l:List Ch} {t:List Rt},bF t=true->qU l->(∀c∈l,bw c.r.p=true/\(c.gone=true->ir t c.r.p≠none))->t.length+qV l<=256->(gY t l).2=0
 |[],_,_,_,_,_=>rfl
 |c::l,t,h,hd,hc,hn=>by
  rw[D1]at hn;obtain⟨h1,h2⟩:=asT.1 hd;obtain⟨h3,h4⟩:=hc c asv;have he:eo t c=0:=agp h h3 h4 fun hg=>by rw[hg]at hn;simp at hn;omega
  rw[gY,if_pos he];have oH:=agq h c;refine UC (D0 h c) h2 (fun d Bp=>?_) (by omega);obtain⟨h5,h6⟩:=hc d (asE _ Bp);refine⟨h5,fun hg=>?_⟩;rw[agr h he,if_neg (h1 d Bp)];exact h6 hg
theorem UD(h:bF t=true)(hd:qU l)(hc: ∀c∈l,bw c.r.p=true/\(c.gone=true->ir t c.r.p≠none))(hn:t.length+qV l<=256):cx t l=0:=by
 rw[cx,if_pos h];exact UC h hd hc hn
theorem ags(a b:List Ch):qV (a++b)=qV a+qV b:=by unfold qV;exact List.countP_append
def cr:List Rt->List Rt->List Ch
 |[],[]=>[]
 |a::t,[]=>⟨a,true⟩::cr t []
 |[],b::u=>⟨b,false⟩::cr [] u
 |a::t,b::u=>if cO a.p b.p=true then⟨a,true⟩::cr t (b::u)else if a.p=b.p then(if a.bH≠b.bH then[⟨b,false⟩]else[])++cr t u else⟨b,false⟩::cr (a::t) u
termination_by t u=>t.length+u.length
theorem D2:cr [] []=[]:=by rw[cr]
theorem agt{a:Rt}(h:u=[]\/ ∃b u',u=b::u'/\cO a.p b.p=true):cr (a::t) u=⟨a,true⟩::cr t u:=by
 rcases h with rfl|⟨b,u',rfl,h⟩
 ·
  rw[cr]
 rw[cr,if_pos h]
theorem agu{b:Rt}(h:t=[]\/ ∃a t',t=a::t'/\cO a.p b.p=false/\a.p≠b.p):cr t (b::u)=⟨b,false⟩::cr t u:=by
 rcases h with rfl|⟨a,t',rfl,h,h'⟩
 ·
  rw[cr]
 rw[cr,if_neg (by rw[h];simp),if_neg h']
theorem BI: ∀{t u:List Rt} {c:Ch},c∈cr t u->(c.gone=true/\c.r∈t)\/(c.gone=false/\c.r∈u):=by
 intro t u
 induction t,u using cr.induct with
 |case1=>intro c hc;rw[D2]at hc;cases hc
 |case2 a t ih=>
  intro c hc;rw[cr]at hc;rcases asw.1 hc with rfl|hc
  ·
   exact .inl ⟨rfl,asv⟩
  rcases ih hc with⟨h1,h2⟩|⟨h1,h2⟩
  ·
   exact .inl ⟨h1,asE _ h2⟩
  exact .inr ⟨h1,h2⟩
 |case3 b u ih=>
  intro c hc;rw[cr]at hc;rcases asw.1 hc with rfl|hc
  ·
   exact .inr ⟨rfl,asv⟩
  rcases ih hc with⟨h1,h2⟩|⟨h1,h2⟩
  ·
   exact .inl ⟨h1,h2⟩
  exact .inr ⟨h1,asE _ h2⟩
 |case4 a t b u h ih=>
  intro c hc;rw[cr,if_pos h]at hc;rcases asw.1 hc with rfl|hc
  ·
   exact .inl ⟨rfl,asv⟩
  rcases ih hc with⟨h1,h2⟩|⟨h1,h2⟩
  ·
   exact .inl ⟨h1,asE _ h2⟩
  exact .inr ⟨h1,h2⟩
 |case5 a t b u h h' ih=>
  intro c hc;rw[cr,if_neg h,if_pos h']at hc;rcases asz.1 hc with hc|hc
  ·
   split at hc
   ·
    obtain rfl:c=⟨b,false⟩:=by simpa using hc
    exact .inr ⟨rfl,asv⟩
   cases hc
  rcases ih hc with⟨h1,h2⟩|⟨h1,h2⟩
  ·
   exact .inl ⟨h1,asE _ h2⟩
  exact .inr ⟨h1,asE _ h2⟩
 |case6 a t b u h h' ih=>
  intro c hc;rw[cr,if_neg h,if_neg h']at hc;rcases asw.1 hc with rfl|hc
  ·
   exact .inr ⟨rfl,asv⟩
  rcases ih hc with⟨h1,h2⟩|⟨h1,h2⟩
  ·
   exact .inl ⟨h1,h2⟩
  exact .inr ⟨h1,asE _ h2⟩
theorem MW: ∀{t u:List Rt},(cr t u).length<=t.length+u.length/\qV (cr t u)<=u.length:=by
 intro t u
 induction t,u using cr.induct with
 |case1=>rw[D2];exact⟨Nat.le_refl _,asu _⟩
 |case2 a t ih=>rw[cr,D1];simp only[asm,if_true]at ih⊢;omega
 |case3 b u ih=>rw[cr,D1];simp only[asm,as2,if_false]at ih⊢;omega
 |case4 a t b u h ih=>rw[cr,if_pos h,D1];simp only[asm,if_true]at ih⊢;omega
 |case5 a t b u h h' ih=>
  rw[cr,if_neg h,if_pos h',ags,af0];have:(if a.bH≠b.bH then[(⟨b,false⟩:Ch)]else[]).length<=1/\qV (if a.bH≠b.bH then[(⟨b,false⟩:Ch)]else[])<=1:=by
   split
   ·
    exact⟨Nat.le_refl _,asu _⟩
   exact⟨Nat.zero_le _,asO _⟩
  simp only[asm]at ih⊢;omega
 |case6 a t b u h h' ih=>rw[cr,if_neg h,if_neg h',D1];simp only[asm,as2,if_false]at ih⊢;omega
theorem ow{a:Rt}(h:Ord (a::t)):Ord t/\ ∀x∈t,cO a.p x.p=true:=⟨h.sub (atm _ _),(asT.1 h.less).1⟩
theorem HO: ∀{t u:List Rt},Ord t->Ord u->qn (cr t u):=by
 intro t u;have cons: ∀{c:Ch} {m:List Ch},bw c.r.p=true->qn m->(∀d∈m,cO c.r.p d.r.p=true)->qn (c::m):=fun hc hm hl=>
  ⟨fun x hx=>by
   rcases asw.1 hx with rfl|hx
   ·
    exact hc
   exact hm.may x hx,asT.2 ⟨hl,hm.less⟩⟩
 induction t,u using cr.induct with
 |case1=>intro _ _;rw[D2];exact⟨fun _ h=>(by cases h),List.Pairwise.nil⟩
 |case2 a t ih=>
  intro h1 h2;obtain⟨g1,g2⟩:=ow h1;rw[cr];refine cons (h1.may a asv) (ih g1 h2) fun d hd=>?_;rcases BI hd with⟨_,h⟩|⟨_,h⟩
  ·
   exact g2 _ h
  cases h
 |case3 b u ih=>
  intro h1 h2;obtain⟨g1,g2⟩:=ow h2;rw[cr];refine cons (h2.may b asv) (ih h1 g1) fun d hd=>?_;rcases BI hd with⟨_,h⟩|⟨_,h⟩
  ·
   cases h
  exact g2 _ h
 |case4 a t b u h ih=>
  intro h1 h2;obtain⟨g1,g2⟩:=ow h1;obtain⟨_,k2⟩:=ow h2;have ma:=h1.may a asv;have mb:=h2.may b asv;rw[cr,if_pos h];refine cons ma (ih g1 h2) fun d hd=>?_;rcases BI hd with⟨_,h3⟩|⟨_,h3⟩
  ·
   exact g2 _ h3
  rcases asw.1 h3 with h4|h4
  ·
   rw[h4];exact h
  exact BH ma mb (h2.may _ h3) h (k2 _ h4)
 |case5 a t b u h h' ih=>
  intro h1 h2;obtain⟨g1,g2⟩:=ow h1;obtain⟨k1,k2⟩:=ow h2;rw[cr,if_neg h,if_pos h'];split
  ·
   rw[auk];refine cons (h2.may b asv) (ih g1 k1) fun d hd=>?_;rcases BI hd with⟨_,h3⟩|⟨_,h3⟩
   ·
    show cO b.p _=true;rw[←h'];exact g2 _ h3
   exact k2 _ h3
  rw[atc];exact ih g1 k1
 |case6 a t b u h h' ih=>
  intro h1 h2;obtain⟨_,g2⟩:=ow h1;obtain⟨k1,k2⟩:=ow h2;have ma:=h1.may a asv;have mb:=h2.may b asv;rw[cr,if_neg h,if_neg h'];have D3:cO b.p a.p=true:=DY ma mb (by simpa using h) h';refine cons mb (ih h1 k1) fun d hd=>?_;rcases BI hd with⟨_,h3⟩|⟨_,h3⟩
  ·
   rcases asw.1 h3 with h4|h4
   ·
    rw[h4];exact D3
   exact BH mb ma (h1.may _ h3) D3 (g2 _ h4)
  exact k2 _ h3
def dC:Option Rt->Option Rt->Option Ch
 |none,none=>none
 |some x,none=>some ⟨x,true⟩
 |none,some y=>some ⟨y,false⟩
 |some x,some y=>if x=y then none else some ⟨y,false⟩
theorem BJ(a:Rt)(t:List Rt):ir (a::t) p=if a.p=p then some a else ir t p:=by
 unfold ir;rw[List.find?_cons]
 by_cases h:a.p=p<;>simp[h]
theorem UE:ir [] p=none:=rfl
theorem ru{a:bt}(ha:bw a=true)(h: ∀x∈t,cO a x.p=true):ir t a=none:=HN.2 fun x hx e=>by
 have:=h x hx;rw[e,mN ha]at this;cases this
theorem agv: ∀{t u:List Rt},Ord t->Ord u-> ∀p,km (cr t u) p=dC (ir t p) (ir u p):=by
 intro t u
 induction t,u using cr.induct with
 |case1=>intro _ _ p;rw[D2];rfl
 |case2 a t ih=>
  intro h1 h2 p;obtain⟨g1,g2⟩:=ow h1;rw[cr,zx,ih g1 h2,BJ,UE]
  by_cases hp:a.p=p
  ·
   subst hp;rw[if_pos rfl,if_pos rfl,ru (h1.may a asv) g2];rfl
  rw[if_neg hp,if_neg hp,Option.or_none]
 |case3 b u ih=>
  intro h1 h2 p;obtain⟨g1,g2⟩:=ow h2;rw[cr,zx,ih h1 g1,BJ,UE]
  by_cases hp:b.p=p
  ·
   subst hp;rw[if_pos rfl,if_pos rfl,ru (h2.may b asv) g2];rfl
  rw[if_neg hp,if_neg hp,Option.or_none]
 |case4 a t b u h ih=>
  intro h1 h2 p;obtain⟨g1,g2⟩:=ow h1;obtain⟨_,k2⟩:=ow h2;have ma:=h1.may a asv;have mb:=h2.may b asv;rw[cr,if_pos h,zx,ih g1 h2,BJ a]
  by_cases hp:a.p=p
  ·
   subst hp;have hz:ir (b::u) a.p=none:=ru ma fun x hx=>by
    rcases asw.1 hx with rfl|qC
    ·
     exact h
    exact BH ma mb (h2.may _ hx) h (k2 _ qC)
   rw[if_pos rfl,if_pos rfl,ru ma g2,hz];rfl
  rw[if_neg hp,if_neg hp,Option.or_none]
 |case5 a t b u h h' ih=>
  intro h1 h2 p;obtain⟨g1,g2⟩:=ow h1;obtain⟨k1,k2⟩:=ow h2;have ma:=h1.may a asv;have mb:=h2.may b asv;rw[cr,if_neg h,if_pos h',BJ,BJ]
  by_cases hp:b.p=p
  ·
   subst hp;rw[if_pos h',if_pos rfl];have e1:=ih g1 k1 b.p;rw[ru mb k2,ru mb (by rw[←h'];exact g2)]at e1
   by_cases hh:a.bH=b.bH
   ·
    rw[if_neg (by simpa using hh),atc,e1];have:a=b:=by obtain⟨ap,ah⟩:=a;obtain⟨bp,bh⟩:=b;simp only at h' hh;rw[h',hh]
    simp[dC,this]
   rw[if_pos hh,auk,zx,e1];have:a≠b:=fun e=>hh (by rw[e]);simp[dC,this]
  have ha: ¬a.p=p:=by rw[h'];exact hp
  rw[if_neg ha,if_neg hp,←ih g1 k1 p]
  by_cases hh:a.bH=b.bH
  ·
   rw[if_neg (by simpa using hh),atc]
  rw[if_pos hh,auk,zx,if_neg hp,Option.or_none]
 |case6 a t b u h h' ih=>
  intro h1 h2 p;obtain⟨_,g2⟩:=ow h1;obtain⟨k1,k2⟩:=ow h2;have ma:=h1.may a asv;have mb:=h2.may b asv;have D3:cO b.p a.p=true:=DY ma mb (by simpa using h) h';rw[cr,if_neg h,if_neg h',zx,ih h1 k1,BJ b]
  by_cases hp:b.p=p
  ·
   subst hp;have hz:ir (a::t) b.p=none:=ru mb fun x hx=>by
    rcases asw.1 hx with rfl|qC
    ·
     exact D3
    exact BH mb ma (h1.may _ hx) D3 (g2 _ qC)
   rw[if_pos rfl,if_pos rfl,ru mb k2,hz];rfl
  rw[if_neg hp,if_neg hp,Option.or_none]
theorem agw{x y:Option Rt}:aC (dC x y) x=y:=by
 cases x<;>cases y
 ·
  rfl
 ·
  rfl
 ·
  rfl
 simp only[dC];split
 ·
  rename_i h;rw[h];rfl
 rfl
theorem UF(h1:bF t=true)(h2:Ord u){m:List Ch}(hd:qU m)(hm: ∀c,c∈m↔c∈cr t u)(he:cx t m=0):bM t m=u:=by
 refine agm (mO (Ux h1 m)) h2 fun p=>?_;rw[UB h1 he,ago hd (HO (mO h1) h2).dst hm,agv (mO h1) h2,agw]
theorem UG(h1:Ord t)(h2:Ord u){c:Ch}(hc:c∈cr t u):bw c.r.p=true/\(c.gone=true->ir t c.r.p≠none):=by
 refine⟨(HO h1 h2).may c hc,fun hg hn=>?_⟩;rcases BI hc with⟨_,h⟩|⟨h,_⟩
 ·
  exact HN.1 hn c.r h rfl
 rw[hg]at h;cases h
def qW(p q:bt):Int:=if cO p q=true then -1 else if cO q p=true then 1 else 0
theorem agx{p q:bt}:qW p q<0↔cO p q=true:=by
 unfold qW;split
 ·
  rename_i h;simp[h]
 rename_i h;split<;>simp[h]
theorem agy{p q:bt}(hp:bw p=true)(hq:bw q=true):qW p q=0↔p=q:=by
 unfold qW;constructor
 ·
  intro h;split at h
  ·
   omega
  split at h
  ·
   omega
  rename_i h1 h2;apply asH;intro hn;exact h2 (DY hp hq (by simpa using h1) hn)
 rintro rfl;rw[mN hp];rfl
theorem agz{p q:bt}(hp:bw p=true)(hq:bw q=true):0<qW p q↔cO q p=true:=by
 unfold qW;split
 ·
  rename_i h;rw[DZ hp hq h];simp
 split
 ·
  rename_i h;simp[h]
 rename_i h;simp[h]
end Go.ax
namespace Go.Proofs.YtkggjjnhnjjokaaGreatDoor
open Go.ax Go.Kb
variable {w0:World}{L:List aj}
instance arL{p:bt}{q:bt}:cE Tryz.prog 196 w0 L [.agg (cP p), .agg (cP q)] (.int .i64 (qW p q)) (True):=⟨fun aH w hw=>by
 refine cQ Tryz.func196 rfl Tryz.ntmps196 rfl ?_;refine Gc ?_;refine cf rfl fun b2=>cf rfl fun b3=>cW ?_;refine Gb (fun h0=>?_) fun h0=>?_
 ·
  refine al ?_;refine Gr fun w1 hw=>?_;exact Gf ((by rw[qW,if_pos h0])) hw
 refine aS ?_;refine Gb (fun h1=>?_) fun h1=>?_
 ·
  refine al ?_;refine Gr fun w1 hw=>?_;exact Gf ((by rw[qW,if_neg (by rw[h0];simp),if_pos h1])) hw
 refine al ?_;refine Gr fun w1 hw=>?_;exact⟨congrArg (fun b=>Ending.returned (Value.int .i64 b)) ((by rw[qW,if_neg (by rw[h0];simp),if_neg (by rw[h1];simp)])),ai.mem hw⟩⟩
end Go.Proofs.YtkggjjnhnjjokaaGreatDoor
namespace Go.ax
open Go.Kb
variable {t u v ts us ys zs a b:List Rt} {p:bt} {l ls:List Ch} {i k:Nat}
def qX(t u:List Rt):Int:=if(bF t&&bF u)=true then 0 else 1
def pA(t u:List Rt):List Ch:=if qX t u=0 then cr t u else[]
def fx(l:List Ch):List Ch:=l.filter fun c=>c.gone
def MX(l:List Ch):List Ch:=l.filter fun c=> !c.gone
theorem qU.perm{m:List Ch}(h:qU l)(hp:m.Perm l):qU m:=(hp.pairwise_iff fun h=>fun e=>h e.symm).2 h
theorem agA(l:List Ch):(fx l++MX l).Perm l:=List.filter_append_perm _ _
theorem agB{m:List Ch}(h:m.Perm l):qV m=qV l:=h.countP_eq _
theorem makes(h1:bF t=true)(h2:bF u=true)(hl:t.length<=100)(hu:u.length<=100):cx t (fx (cr t u)++MX (cr t u))=0/\bM t (fx (cr t u)++MX (cr t u))=u:=by
 have o1:=mO h1;have o2:=mO h2;have hp:=agA (cr t u);have hd:=(HO o1 o2).dst.perm hp;have hn:=agB hp;have uA:=(MW (t:=t) (u:=u)).2;have he:=UD h1 hd (fun c hc=>UG o1 o2 (hp.mem_iff.1 hc)) (by omega);exact⟨he,UF h1 o2 hd (fun c=>hp.mem_iff) he⟩
open Go.RowKit
variable {t u v ts us y:List Rt} {p:bt} {l ls:List Ch} {i k:Nat} {h:Int}
def rV(y v:List Rt)(h:Int):Prop:=(h<0/\ ∃a,y[0]? =some a/\ ∀b,v[0]? =some b->cO a.p b.p=true)\/(0<h/\ ∃b,v[0]? =some b/\ ∀a,y[0]? =some a->cO a.p b.p=false/\a.p≠b.p)\/(h=0/\ ∃a b,y[0]? =some a/\v[0]? =some b/\cO a.p b.p=false/\a.p=b.p)
theorem agC(hv:v.length=0)(hy:0<y.length):rV y v (-1):=by
 obtain⟨a,ha⟩:=get_some hy;refine .inl ⟨by decide,a,ha,fun b hb=>?_⟩;have:=(ad2.1 hb).1;omega
theorem agD(hv:0<v.length)(hy:y.length=0):rV y v 1:=by
 obtain⟨b,hb⟩:=get_some hv;refine .inr (.inl ⟨by decide,b,hb,fun a ha=>?_⟩);have:=(ad2.1 ha).1;omega
theorem agE{a b:Rt}(hy:xW y)(hv:xW v)(ha:y[0]? =some a)(hb:v[0]? =some b):rV y v (qW a.p b.p):=by
 have ma:=hy a (anc ha);have mb:=hv b (anc hb);rcases Int.lt_trichotomy (qW a.p b.p) 0 with h|h|h
 ·
  exact .inl ⟨h,a,ha,fun c hc=>by rw[hb]at hc;rw[←aso hc];exact agx.1 h⟩
 ·
  have e:=(agy ma mb).1 h;exact .inr (.inr ⟨h,a,b,ha,hb,by rw[e];exact mN mb,e⟩)
 have e:=(agz ma mb).1 h;exact .inr (.inl ⟨h,b,hb,fun c hc=>by
  rw[ha]at hc;rw[←aso hc];exact⟨DZ mb ma e,fun e2=>by rw[e2,mN mb]at e;cases e⟩⟩)
theorem rV.lens(h1:rV y v h):(0<h\/0<y.length)/\(h<0\/0<v.length):=by
 rcases h1 with⟨h1,a,ha,_⟩|⟨h1,b,hb,_⟩|⟨h1,a,b,ha,hb,_⟩
 ·
  exact⟨.inr (ad2.1 ha).1, .inl h1⟩
 ·
  exact⟨.inl h1, .inr (ad2.1 hb).1⟩
 exact⟨.inr (ad2.1 ha).1, .inr (ad2.1 hb).1⟩
theorem BK{α:Type}{l:List α}{a:α}(h:l[0]? =some a):l=a::l.drop 1:=by
 cases l with
 |nil=>cases h
 |cons b l=>simp at h;rw[h];rfl
theorem rV.gone{a:Rt}(h1:rV y v h)(hn:h<0)(ha:y[0]? =some a):cr y v=[⟨a,true⟩]++cr (if h<=0 then y.drop 1 else y) (if 0<=h then v.drop 1 else v):=by
 rw[if_pos (by omega),if_neg (by omega)];rcases h1 with⟨_,a',yn,hb⟩|⟨h2,_⟩|⟨h2,_⟩
 ·
  rw[ha]at yn;obtain rfl:=aso yn
  conv=>lhs;rw[BK ha]
  rw[auk];refine agt ?_
  cases v with
  |nil=>exact .inl rfl
  |cons b v=>exact .inr ⟨b,v,rfl,hb b rfl⟩
 ·
  omega
 omega
theorem rV.new{b:Rt}(h1:rV y v h)(hn: ¬h<0)(hb:v[0]? =some b)(hc:0<h\/(y.getD 0 dM).bH≠(v.getD 0 dM).bH):cr y v=[⟨b,false⟩]++cr (if h<=0 then y.drop 1 else y) (if 0<=h then v.drop 1 else v):=by
 have nF:v.getD 0 dM=b:=by simp[List.getD,hb]
 rcases h1 with⟨h2,_⟩|⟨h2,b',cN,ha⟩|⟨h2,a,b',ha,cN,h3,h4⟩
 ·
  omega
 ·
  rw[if_neg (by omega),if_pos (by omega)];rw[hb]at cN;obtain rfl:=aso cN
  conv=>lhs;rw[BK hb]
  rw[auk];refine agu ?_
  cases y with
  |nil=>exact .inl rfl
  |cons a y=>exact .inr ⟨a,y,rfl,ha a rfl⟩
 rw[if_pos (by omega),if_pos (by omega)];rw[hb]at cN;obtain rfl:=aso cN;have Cg:y.getD 0 dM=a:=by simp[List.getD,ha]
 rw[Cg,nF]at hc
 conv=>lhs;rw[BK ha,BK hb]
 rw[cr,if_neg (by rw[h3];simp),if_pos h4,if_pos (hc.resolve_left (by omega))]
theorem rV.none(h1:rV y v h)(hn: ¬h<0)(hc: ¬0<h/\(y.getD 0 dM).bH=(v.getD 0 dM).bH):cr y v=cr (if h<=0 then y.drop 1 else y) (if 0<=h then v.drop 1 else v):=by
 rcases h1 with⟨h2,_⟩|⟨h2,_⟩|⟨h2,a,b,ha,hb,h3,h4⟩
 ·
  omega
 ·
  omega
 rw[if_pos (by omega),if_pos (by omega)];have Cg:y.getD 0 dM=a:=by simp[List.getD,ha]
 have nF:v.getD 0 dM=b:=by simp[List.getD,hb]
 rw[Cg,nF]at hc
 conv=>lhs;rw[BK ha,BK hb]
 rw[cr,if_neg (by rw[h3];simp),if_pos h4,if_neg (by rw[hc.2];simp)];rfl
theorem HP{H:Nat->Option Obj}{x:Sv}(hx:dZ ay 19 H x y)(hl:0<y.length):dZ ay 19 H (x.sub 19 1 y.length) (y.drop 1):=by
 have:=hx.sub (lo:=1) (hi:=y.length) hl (asu _);rwa [asy (by rw[ass];omega)]at this
theorem HQ(h:xW y):xW (y.drop 1):=fun x hx=>h x (avd hx)
variable {t a b:List Rt} {p:bt}
end Go.ax
namespace Go.Proofs.YtkggjjnhnjjokaaGreatDoor
open Go.ax Go.Kb
instance arM(r:Rt):nK Tryz.prog 47 [(0, .agg (ay r)),(1, .bool true)] (.agg (cq ⟨r,true⟩)):=⟨fun w=>by kernel_rfl⟩
variable {w0:World}{L:List aj}
instance arN{t:Sv}{ts:List Rt}{u:Sv}{us:List Rt}[ht:cD w0 L ay 19 t ts][hu:cD w0 L ay 19 u us]:bN Tryz.prog 121 w0 L [t.val,u.val] (Sv) (fun zz=>zz.val) (fun zz=>own cq 20 zz (cr ts us)::L) (fun zz=>True) (xW ts/\xW us/\ts.length<=1000/\us.length<=1000):=⟨fun aH w hw=>Gk (fun zz=>[own cq 20 zz (cr ts us)]) hw (by
 have ht:=ht.h w hw;have hu:=hu.h w hw;have rL:Gv w t ay 19 ts:=⟨ht⟩;have ghu:Gv w u ay 19 us:=⟨hu⟩;obtain⟨gq,gy,kH,DW⟩:=aH;refine cQ Tryz.func121 rfl Tryz.ntmps121 rfl ?_;refine aM ?_;refine bQ (X:=Sv×List Rt×Sv×List Rt×Sv×List Ch) (fun zz=>[(0,zz.1.val),(1,zz.2.2.1.val),(5,zz.2.2.2.2.1.val)]) (fun zz=>[own cq 20 zz.2.2.2.2.1 zz.2.2.2.2.2]) (fun zz=>dZ ay 19 (hp w) zz.1 zz.2.1/\dZ ay 19 (hp w) zz.2.2.1 zz.2.2.2.1/\cr ts us=zz.2.2.2.2.2++cr zz.2.1 zz.2.2.2.1/\zz.2.2.2.2.2.length+zz.2.1.length+zz.2.2.2.1.length<=ts.length+us.length/\xW zz.2.1/\xW zz.2.2.2.1) (fun zz=>zz.2.1.length+zz.2.2.2.1.length) (t,ts,u,us,Sv.none,[]) ⟨ht,hu,rfl,by simp,gq,gy⟩ sb (fun w hw=>Mem.dj cq 20 (ai.mem hw)) ?_;rintro⟨x,y,z,v,o,q⟩ ⟨aZ,aE,bo,dn,th,uJ⟩;dsimp only;simp only at aZ aE bo dn th uJ;have gx:Gv w x ay 19 y:=⟨aZ⟩;have gz:Gv w z ay 19 v:=⟨aE⟩;refine sF ?_;refine Gb (fun h0=>?_) fun h0=>?_
 ·
  refine av ?_;refine gg ?_;refine yo (X:=Int) (fun zz=>[(6, .int .i64 zz),(0,x.val),(1,z.val),(5,o.val)]) (fun zz=>[own cq 20 o q]) (fun zz=>rV y v zz) ?_ ?_
  ·
   refine aS ?_;refine Gb (fun h1=>?_) fun h1=>?_
   ·
    refine Gi ?_;refine Gs ?_;refine gg ?_;exact nM (-1) (agC oF oF) sb (fun w hw=>ai.mem hw)
   refine aS ?_;refine Gb (fun h2=>?_) fun h2=>?_
   ·
    refine Gi ?_;refine Gs ?_;refine gg ?_;exact nM 1 (agD oF oF) sb (fun w hw=>ai.mem hw)
   refine gJ oK oK (Gq ?_);obtain⟨e16,UH⟩:=get_some (xs:=y) (i:=0) oM;refine bC (aW rfl rfl 0 rfl oM) (bC (aO rfl rfl) (bC (EY (j:=0) rfl 0 UH rfl (by decide)) (Gq ?_)));obtain⟨DS,UI⟩:=get_some (xs:=v) (i:=0) oM;refine bC (aW rfl rfl 0 rfl oM) (bC (aO rfl rfl) (bC (EY (j:=0) rfl 0 UI rfl (by decide)) (sd (cj rfl trivial) (Gq ?_))));refine gg ?_;exact nM (qW e16.p DS.p) (agE th uJ UH UI) sb (fun w hw=>ai.mem hw)
  rintro h hN;have hz:=hN.lens;have HR:=hz.1;have hz2:=hz.2;refine yo (X:=Sv×List Ch) (fun zz=>[(5,zz.1.val),(0,x.val),(1,z.val),(6, .int .i64 h)]) (fun zz=>[own cq 20 zz.1 zz.2]) (fun zz=>cr ts us=zz.2++cr (if h<=0 then y.drop 1 else y) (if 0<=h then v.drop 1 else v)/\zz.2.length<=q.length+1) ?_ ?_
  ·
   refine aM ?_;refine Gb (fun h3=>?_) fun h3=>?_
   ·
    refine Gi ?_;refine av ?_;obtain⟨HS,UJ⟩:=get_some (xs:=y) (i:=0) oM;refine ag (aW rfl rfl 0 rfl oM) (ag (iF rfl 0 UJ rfl) (ag (iz rfl) ?_));refine jF (enc:=cq) (vals:=[_]) [(⟨HS,true⟩:Ch)] rfl rfl rfl (by decide) (by decide) fun tl=>?_;refine gS (s:=o) (ys:=[(⟨HS,true⟩:Ch)]) rfl rfl (by decide) (fun w hw=>fY (s:=⟨false,tl,0,1,1,none⟩) Tryz.underlying45 (by decide) ((inferInstance:Hd _ _ ⟨false,tl,0,1,1,none⟩ cq 20 [(⟨HS,true⟩:Ch)]).h w hw)) (by simp only[af0,asm,asn];omega) (by simp only[af0,asm,asn];omega) fun s41 arO arP=>?_;refine Gs ?_;refine gg ?_;exact nM (s41,q++[⟨HS,true⟩]) ⟨by rw[bo,hN.gone oF UJ,asF],by simp only[af0,asm,asn];omega⟩ sb (fun w hw=>ai.mem hw)
   refine Gi ?_;refine gJ oK oK (au ?_);refine fD rfl rfl rfl (fun hg=>(Ry.yl (aW (aF hg rfl) rfl 0 rfl (by simp only[Z0,Z1,Z2,Z3,Z4,Z5,Z6,Z7,Z8,Z9]at hg;omega)))) (fD rfl rfl rfl (fun hg=>(Ry.yl (aO (aF hg rfl) rfl))) (fD rfl rfl rfl (fun hg=>(Ry.yl (bE (j:=18) (aF hg rfl) 0 (nP (xs:=y) (i:=0) (d:=dM) (by simp only[Z0,Z1,Z2,Z3,Z4,Z5,Z6,Z7,Z8,Z9]at hg;omega)) rfl (by decide)))) (Gh ?_)));refine fD rfl rfl rfl (fun hg=>(Ry.yl (aW (aF hg rfl) rfl 0 rfl (by simp only[Z0,Z1,Z2,Z3,Z4,Z5,Z6,Z7,Z8,Z9]at hg;omega)))) (fD rfl rfl rfl (fun hg=>(Ry.yl (aO (aF hg rfl) rfl))) (fD rfl rfl rfl (fun hg=>(Ry.yl (bE (j:=18) (aF hg rfl) 0 (nP (xs:=v) (i:=0) (d:=dM) (by simp only[Z0,Z1,Z2,Z3,Z4,Z5,Z6,Z7,Z8,Z9]at hg;omega)) rfl (by decide)))) (au ?_)));refine Gb (fun h4=>?_) fun h4=>?_
   ·
    have MY:0<h\/(y.getD 0 dM).bH≠(v.getD 0 dM).bH:=h4.imp_right fun e1 e2=>e1 (by rw[e2]);refine Gi ?_;refine av ?_;obtain⟨HT,UK⟩:=get_some (xs:=v) (i:=0) oM;refine ag (aW rfl rfl 0 rfl oM) (ag (iF rfl 0 UK rfl) (ag (iz rfl) ?_));refine jF (enc:=cq) (vals:=[_]) [(⟨HT,false⟩:Ch)] rfl rfl rfl (by decide) (by decide) fun UL=>?_;refine gS (s:=o) (ys:=[(⟨HT,false⟩:Ch)]) rfl rfl (by decide) (fun w hw=>fY (s:=⟨false,UL,0,1,1,none⟩) Tryz.underlying45 (by decide) ((inferInstance:Hd _ _ ⟨false,UL,0,1,1,none⟩ cq 20 [(⟨HT,false⟩:Ch)]).h w hw)) (by simp only[af0,asm,asn];omega) (by simp only[af0,asm,asn];omega) fun s62 arQ arR=>?_;refine Gs ?_;refine gg ?_;exact nM (s62,q++[⟨HT,false⟩]) ⟨by rw[bo,hN.new oF UK MY,asF],by simp only[af0,asm,asn];omega⟩ sb (fun w hw=>ai.mem hw)
   have MY: ¬0<h/\(y.getD 0 dM).bH=(v.getD 0 dM).bH:=⟨by omega,UInt16.toNat_inj.1 oM⟩;refine gg ?_;exact nM (o,q) ⟨by rw[bo,hN.none oF MY],oF⟩ sb (fun w hw=>ai.mem hw)
  rintro⟨o2,q2⟩ ⟨xG,oJ⟩;dsimp only;simp only at xG oJ;refine au ?_;refine Gb (fun h5=>?_) fun h5=>?_
  ·
   refine Gi ?_;refine Gs ?_;have agF:Rg 1 y.length y.length:=⟨by omega⟩;refine ag (vc rfl rfl 1 rfl agF.h.1) (aM ?_);refine Gb (fun h6=>?_) fun h6=>?_
   ·
    refine Gi ?_;refine Gs ?_;have MZ:Rg 1 v.length v.length:=⟨by omega⟩;refine ag (vc rfl rfl 1 rfl MZ.h.1) (Gs ?_);refine gg ?_;exact bj (x:=(x,y,z,v,o,q)) (x.sub 19 1 y.length,y.drop 1,z.sub 19 1 v.length,v.drop 1,o2,q2) ⟨HP aZ oF,HP aE oF,by rw[xG,if_pos oF,if_pos oF],by simp only[ass];omega,HQ th,HQ uJ⟩ (by simp only[ass];omega) sb (fun w hw=>ai.mem hw)
   refine gg ?_;exact bj (x:=(x,y,z,v,o,q)) (x.sub 19 1 y.length,y.drop 1,z,v,o2,q2) ⟨HP aZ oF,aE,by rw[xG,if_pos oF,if_neg oF],by simp only[ass];omega,HQ th,uJ⟩ (by simp only[ass];omega) sb (fun w hw=>ai.mem hw)
  refine au ?_;refine Gb (fun h6=>?_) fun h6=>?_
  ·
   refine Gi ?_;refine Gs ?_;have MZ:Rg 1 v.length v.length:=⟨by omega⟩;refine ag (vc rfl rfl 1 rfl MZ.h.1) (Gs ?_);refine gg ?_;exact bj (x:=(x,y,z,v,o,q)) (x,y,z.sub 19 1 v.length,v.drop 1,o2,q2) ⟨aZ,HP aE oF,by rw[xG,if_neg oF,if_pos oF],by simp only[ass];omega,th,HQ uJ⟩ (by simp only[ass];omega) sb (fun w hw=>ai.mem hw)
  refine gg ?_;exact bj (x:=(x,y,z,v,o,q)) (x,y,z,v,o2,q2) (by exfalso;omega) (by exfalso;omega) sb (fun w hw=>ai.mem hw)
 have mB:y=[]:=asI.1 oM;have HD:v=[]:=asI.1 oM;rw[mB,HD,D2,asZ]at bo;refine au ?_;refine Gr fun w1 hw=>?_;exact⟨o,rfl,trivial,by rw[bo];exact ai.mem hw⟩)⟩
instance arS{t:Sv}{ts:List Rt}{u:Sv}{us:List Rt}[ht:cD w0 L ay 19 t ts][hu:cD w0 L ay 19 u us]:bN Tryz.prog 53 w0 L [t.val,u.val] (Sv) (fun zz=> .tuple #[zz.val, .int .i64 (qX ts us)]) (fun zz=>own cq 20 zz (pA ts us)::L) (fun zz=>True) (True):=⟨fun aH w hw=>Gk (fun zz=>[own cq 20 zz (pA ts us)]) hw (by
 have ht:=ht.h w hw;have hu:=hu.h w hw;have rL:Gv w t ay 19 ts:=⟨ht⟩;have ghu:Gv w u ay 19 us:=⟨hu⟩;refine cQ Tryz.func53 rfl Tryz.ntmps53 rfl ?_;refine hU ?_;refine bI rfl rfl rfl (fun hg=>cj (eL (aF hg rfl) iV) trivial) (bI rfl rfl rfl (fun hg=>(Ry.yl (ng (aF hg rfl)))) (av ?_));refine Gb (fun h0=>?_) fun h0=>?_
 ·
  have hE:qX ts us=1:=by rw[qX,if_neg (by rcases h0 with h|h<;>rw[h]<;>simp)]
  have hL:pA ts us=[]:=by rw[pA,if_neg (by rw[hE];decide)]
  refine au ?_;refine Gr fun w1 hw=>?_;exact⟨Sv.none,by rw[hE];rfl,trivial,by rw[hL];exact(ai.mem hw:Mem w [] _).dj cq 20⟩
 obtain⟨M0,M1⟩:=h0;have hE:qX ts us=0:=by rw[qX,if_pos (by rw[M0,M1];rfl)]
 have hL:pA ts us=cr ts us:=by rw[pA,if_pos hE]
 have k1:=(mO M0).may;have k2:=(mO M1).may;have k3:=xe M0;have k4:=xe M1;refine al ?_;refine aX rfl ⟨k1,k2,by omega,by omega⟩ fun aB ki=>al ?_;refine Gr fun w1 hw=>?_;exact⟨aB,by rw[hE],trivial,by rw[hL];exact ai.mem hw⟩)⟩
end Go.Proofs.YtkggjjnhnjjokaaGreatDoor
namespace Go.Kb
open Go.ax
theorem M3{x:Int}(h0:0<=x)(h1:x<256):((bS x).toNat:Int)=x:=by
 rw[bS,b8,avb h0 h1];simp;omega
theorem BL{α:Type}{a b:List α}{n:Nat}(h:n=a.length):(a++b).drop n=b:=by subst h;simp
theorem HU{α:Type}{a b:List α}{n:Nat}(h:n=a.length):(a++b).take n=a:=by subst h;simp
theorem UM{p:PV}{n:Int}(h:l8 p n=true): ∃k d:UInt8,∃z:List UInt8,(k.toNat:Int)=p.kind/\(d.toNat:Int)=p.id/\(∀x∈z,x=0)/\
  (du p n).1=[k,d]++(be p.gen 6++(be p.body.length 2++(p.body++(z++be (kz (jJ p n.toNat)) 4))))/\jJ p n.toNat=[k,d]++(be p.gen 6++(be p.body.length 2++(p.body++z)))/\(du p n).2=0/\(z.length:Int)=n -14 -p.body.length:=by
 obtain⟨h1,h2,h3,h4,h5,h6⟩:=rv.1 h;have hf:=sJ.1 h1;rw[dV,if_pos h1]at h6;refine⟨bS p.kind,bS p.id,List.replicate (n.toNat -4 -10 -p.body.length) 0,M3 (by omega) (by omega),M3 h3 (by omega),fun x hx=>List.eq_of_mem_replicate hx,?_,?_,?_,?_⟩
 ·
  rw[du,if_pos h];simp only[jJ,asF]
 ·
  simp only[jJ,asF]
 ·
  rw[du,if_pos h]
 ·
  rw[ata];omega
theorem D4{p:PV}{n:Int}(h:l8 p n=true):((du p n).1.length:Int)=n:=by
 obtain⟨k,d,z,_,_,_,e,_,_,hz⟩:=UM h;rw[e];simp only[af0,asm,asn,gK];omega
theorem M4{p:PV}{n:Int}(h:l8 p n=true):cI (du p n).1=(p,0):=by
 have hl:=D4 h;obtain⟨k,d,z,hk,hd,hz,e,eB,_,qP⟩:=UM h;obtain⟨h1,h2,h3,h4,h5,h6⟩:=rv.1 h;have hf:=sJ.1 h1;have A1:=h6;rw[dV,if_pos h1]at A1;have hn:((du p n).1.length:Int)=n:=hl;generalize hc:kz (jJ p n.toNat)=C at e;have hC:C<2^32:=by rw[←hc];exact AA _
 generalize hb:(du p n).1=b at*;have e4:b=jJ p n.toNat++be C 4:=by rw[e,eB];simp only[asF]
 have l4:b.length -4=(jJ p n.toNat).length:=by rw[e4,af0,gK];omega
 have iE:mc b=jJ p n.toNat:=by
  rw[mc,l4,atD,avs,e4];exact HU rfl
 have Hi:de (yQ b)=C:=by
  rw[yQ,l4];have:b.drop (jJ p n.toNat).length=be C 4:=by rw[e4];exact BL rfl
  rw[this,asy (by rw[gK];omega),CO,as5 hC]
 have nF:b.getD 0 0=k:=by rw[e];rfl
 have uF:b.getD 1 0=d:=by rw[e];rfl
 have Ag:b.drop 2=be p.gen 6++(be p.body.length 2++(p.body++(z++be C 4))):=by rw[e];exact BL rfl
 have UN:b.drop 8=be p.body.length 2++(p.body++(z++be C 4)):=by
  rw[show(8:Nat)=2+6 from rfl,←at3,Ag];exact BL (by rw[gK])
 have agG:b.drop 10=p.body++(z++be C 4):=by
  rw[show(10:Nat)=8+2 from rfl,←at3,UN];exact BL (by rw[gK])
 have agH:de ((b.drop 2).take (8 -2))=p.gen:=by
  rw[Ag,HU (by rw[gK]),CO,as5 (Nat.lt_of_lt_of_eq h5 (by decide))]
 have M5:iB b=p.body.length:=by
  rw[iB,UN,HU (by rw[gK]),CO,as5 (by omega)]
 have UO:vC b={p with body:=[]}:=by
  rw[vC,agH,nF,uF];obtain⟨pk,pi,pg,pb⟩:=p;simp only at hk hd;simp only[hk,hd]
 have agI:j8 b=false:=by
  cases G9:j8 b with
  |false=>rfl
  |true=>
   have h9:=C2.1 G9 k (by rw[e];simp);rw[h9]at hk;have:((255:UInt8).toNat:Int)=255:=by decide
   omega
 have agJ:pc b=true:=by
  have hm:l8 (vC b) b.length=true:=by
   rw[UO,hn];exact rv.2 ⟨h1,h2,h3,h4,h5,by rw[dV,if_pos h1];simp only[asn];omega⟩
  rw[pc,hm,M5,hn,Bool.and_true,decide_eq_true_eq];exact h6
 have hzero:xj (n8 b)=true:=by
  refine Kx.2 fun x hx=>hz x ?_;have agK:(mc b).drop (10+iB b)=z:=by
   rw[iE,M5,eB,←at3];have:([k,d]++(be p.gen 6++(be p.body.length 2++(p.body++z)))).drop 10=p.body++z:=by
    rw[show[k,d]++(be p.gen 6++(be p.body.length 2++(p.body++z)))=([k,d]++be p.gen 6++be p.body.length 2)++(p.body++z) by simp only[asF]];exact BL (by simp only[af0,asm,asn,gK])
   rw[this];exact BL rfl
  rw[n8,agK]at hx;exact aum hx
 have agL:(b.drop 10).take (10+iB b -10)=p.body:=by
  rw[agG,M5];exact HU (by omega)
 rw[cI,if_neg (by rw[hn,h1];simp),if_neg (by rw[agI];simp),if_neg (by rw[Hi,iE,hc];exact fun h=>h rfl),if_neg (by rw[agJ];simp),if_neg (by rw[hzero];simp),UO,agL]
theorem agM{x:Int}(h0:0<=x)(h1:x<=65535):((oL (bS (x/256)) (bS x)).toNat:Int)=x:=by
 have e2:((bS x).toNat:Int)=x%256:=by
  rw[bS,b8];simp;omega
 have e1:=M3 (x:=x/256) (by omega) (by omega);rw[EX];omega
theorem UP: ∀(l:List Int) (i:Nat) (x:Int),l[i]? =some x->(gU l).getD (2*i) 0=bS (x/256)/\(gU l).getD (2*i+1) 0=bS x
 |y::r,0,x,h=>by obtain rfl:y=x:=by simpa using h
                 exact⟨rfl,rfl⟩
 |y::r,i+1,x,h=>by
  have h2:=UP r i x (by simpa using h);have e:gU (y::r)=bS (y/256)::bS y::gU r:=rfl;rw[e,show 2*(i+1)=2*i+1+1 by omega];exact h2
theorem agN{l:List Int}(h: ∀x∈l,yR x=true):p0 (gU l)=l:=by
 refine atj fun i=>?_;rcases asx i l.length with hi|hi
 ·
  obtain⟨x,hx⟩: ∃x,l[i]? =some x:=⟨l[i],asr hi⟩;obtain⟨e1,e2⟩:=UP l i x hx;have fU:=C3.1 (h x (anc hx));rw[p0,asB,AO,atQ (by omega),hx,as7,ry,e1,e2,agM fU.1 fU.2]
 rw[ast hi,ast (by rw[Gn,AO];omega)]
theorem M6{r:RV}{n:Int}(h:pd r n=true):l8 ⟨2,max 0 ((r.at_.length:Int) -1),r.gen,gU r.at_⟩ n=true:=by
 obtain⟨h1,h2,h3,h4⟩:=xk.1 h;have hf:n7 n=true:=by
  cases hf:n7 n with
  |true=>rfl
  |false=>rw[dV,if_neg (by rw[hf];simp)]at h1;exact absurd rfl h1
 rw[kB]at h3;have hr:dV n=n -16:=by rw[dV,if_pos hf]
 refine rv.2 ⟨hf, .inr rfl,?_,?_,h2,?_⟩
 ·
  show 0<=max 0 _;omega
 ·
  show max 0 _<(64:Int);omega
 show((gU r.at_).length:Int)<=_;rw[AO];omega
theorem agO{r:RV}{n:Int}(h:pd r n=true):bD (c0 r n).1=(r,0):=by
 have hp:=M4 (M6 h);have h4:=(xk.1 h).2.2.2;rw[c0,if_pos h,bD,hp];have hl:(gU r.at_).length/2=r.at_.length:=by rw[AO];omega
 rw[if_neg (by simp),if_neg (by simp),if_neg,agN h4];simp only[vE,Bool.not_eq_false,alM,decide_eq_true_eq];refine⟨⟨trivial,by rw[AO];omega⟩,?_⟩;rw[hl]
theorem UQ{r:RV}{n:Int}(h:pd r n=true):((c0 r n).1.length:Int)=n:=by
 rw[c0,if_pos h];exact D4 (M6 h)
theorem agP{r:RV}{n:Int}(h:(c0 r n).2=0):pd r n=true:=by
 cases hm:pd r n with
 |true=>rfl
 |false=>rw[c0,if_neg (by rw[hm];simp)]at h;cases h
theorem UR{p:PV}{n:Int}(h:(du p n).2=0):l8 p n=true:=by
 cases hm:l8 p n with
 |true=>rfl
 |false=>rw[du,if_neg (by rw[hm];simp)]at h;cases h
end Go.Kb
