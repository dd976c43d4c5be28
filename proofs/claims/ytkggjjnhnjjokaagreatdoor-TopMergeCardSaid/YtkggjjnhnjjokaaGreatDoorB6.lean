/- Part of a proof. -/
import Derived.Test.YtkggjjnhnjjokaaGreatDoorB5
import Derived.Test.YtkggjjnhnjjokaaGreatDoorB4
import Derived.Test.YtkggjjnhnjjokaaGreatDoorB3
import Derived.Test.YtkggjjnhnjjokaaGreatDoorB2
import Derived.Test.YtkggjjnhnjjokaaGreatDoorB1
import Derived.Lib.Bytealg
import Derived.Lib.ReflectliteSwap
import Derived.Laws.Externs
set_option maxRecDepth 20000
set_option linter.unusedSimpArgs false
set_option linter.unusedVariables false
namespace Go.Proofs.YtkggjjnhnjjokaaGreatDoor
open Go.ay Go.Kb
variable {w0:World}{L:List aj}
instance anE{s:Sv}{xs:List UInt8}{r:Rt}{i:Nat}{L':Sv->List aj}[q:di L s aP 1 xs i][u: ∀s',eK L i (own aP 1 s' (xs++gY r)) (L' s')]:bE Tryz.prog 170 w0 L [s.val, .agg (aq r)] Sv (fun s=>s.val) L' (fun _=>True) (xs.length<=1000000):=⟨fun hp w hw=>
 (abC w0 w (L.eraseIdx i) s xs r (hw.perm (nk q.h)) hp).mono fun e w' ⟨s',h1,h2,h3,h4⟩=>⟨s',h1,trivial,by
  rw[←(u s').h];exact h4.perm (set_perm _ L i (At.lt q.h))⟩⟩
instance abP{a:Sl (Sl UInt8)}[ha:aV w0 L a]:bE Tryz.prog 182 w0 L [a.sv.val] (Sv) (fun zz=> .tuple #[zz.val, .int .i64 (pf (lx a))]) (fun zz=>own aq 19 zz (mI (lx a))::L) (fun zz=>True) (a.xs.length<=1000/\ ∀x∈a.xs,x.xs.length<=100000):=⟨fun aA w hw=>Gk (fun zz=>[own aq 19 zz (mI (lx a))]) hw (by
 have ha:=ha.h w hw;have Fw:cy w a:=⟨ha⟩;obtain⟨qX,oo⟩:=aA;have hl:=xe a;refine cw Tryz.func182 rfl Tryz.ntmps182 rfl ?_;refine nq ?_;refine bA (X:=Nat×Sv×List Rt) (fun zz=>[(11, .int .i64 (zz.1:Nat)),(4,zz.2.1.val),(9,a.sv.val),(10, .int .i64 (a.xs.length:Nat))]) (fun zz=>[own aq 19 zz.2.1 zz.2.2]) (fun zz=>zz.1<=a.xs.length/\iI ((lx a).take zz.1)=some zz.2.2/\zz.2.2.length<=zz.1*100000) (fun zz=>a.xs.length -zz.1) (0,Sv.none,[]) ⟨oF,rfl,by simp⟩ sb (fun w hw=>Mem.cO aq 19 hw) ?_;rintro⟨i,t,q⟩ ⟨aQ,az,aX⟩;dsimp only;simp only at aQ az aX;refine al ?_;refine Gb (fun h0=>?_) fun h0=>?_
 ·
  refine jS ?_;obtain⟨x,hx⟩:=get_some (xs:=a.xs) (i:=i) oM;refine ag (aR rfl rfl i rfl oM) (ag (bC (j:=0) rfl i hx rfl (by decide)) ?_);have QL:Mb x _:=⟨List.mem_of_getElem? hx⟩;have ex:(lx a)[i]? =some x.xs:=by simp[lx,hx]
  have Cu:Mb x _:=⟨List.mem_of_getElem? hx⟩;refine au ?_;refine ag (L6 (p:=x.xs.length) (q:=20) rfl rfl rfl rfl oM) (av ?_);refine Gb (fun h1=>?_) fun h1=>?_
  ·
   have gV:iI (lx a)=none:=PM (i:=i+1) (by rw[Jg ex,az,PL _ x.xs (apm _) oM];rfl);refine au ?_;refine Gr fun w1 hw=>?_;exact⟨Sv.none,by rw[(Fe gV).2];rfl,trivial,by rw[(Fe gV).1];exact(ai.mem hw:Mem w [] _).cO aq 19⟩
  refine Gc ?_;refine bA (X:=Sv×List UInt8×Sv×List Rt) (fun zz=>[(6,zz.1.val),(4,zz.2.2.1.val),(9,a.sv.val),(10, .int .i64 (a.xs.length:Nat)),(11, .int .i64 (i:Nat))]) (fun zz=>[own aq 19 zz.2.2.1 zz.2.2.2]) (fun zz=> ∃pre,zz.2.2.2=q++pre/\l0 x.xs=(l0 zz.2.1).map (pre++ ·)/\dh aP 1 (hp w) zz.1 zz.2.1/\zz.2.1.length%20=0/\zz.2.2.2.length+zz.2.1.length<=(i+1)*100000) (fun zz=>zz.2.1.length) (x.sv,x.xs,t,q) ⟨[],by simp,by cases l0 x.xs<;>rfl,(ha.2 x (List.mem_of_getElem? hx)).1,oF,by have:=oo x (List.mem_of_getElem? hx);simp only;omega⟩ sb (fun w hw=>ai.mem hw) ?_;rintro⟨cu,cs,t2,q2⟩ ⟨pre,hM,fb,fV,iS,wo⟩;dsimp only;simp only at hM fb fV iS wo;have gcu:Gv w cu aP 1 cs:=⟨fV⟩;refine aH ?_;refine Gb (fun h2=>?_) fun h2=>?_
  ·
   have abQ:20<=cs.length:=by omega
   have CR:(cs.drop 0).take (20 -0)=cs.take 20:=by simp
   have ec:=PK abQ;rw[Y6]at ec;refine av ?_;have abR:Rg 0 20 cs.length:=⟨by omega⟩;refine ag (Ma rfl rfl 20 rfl abR.h.2) (dv (bP rfl (by simp;omega)) (Gs ?_));refine ag (aI (v:= .agg (aq (rdv ((cs.drop 0).take (20 -0))))) rfl rfl) (ag (aI (v:= .bool (qV ((cs.drop 0).take (20 -0)))) rfl rfl) (bn fun b7=>aT ?_));refine Gb (fun h3=>?_) fun h3=>?_
   ·
    rw[CR]at h3;have gV:iI (lx a)=none:=PM (i:=i+1) (by rw[Jg ex,az,fb,ec,h3];rfl);refine au ?_;refine Gr fun w1 hw=>?_;exact⟨Sv.none,by rw[(Fe gV).2];rfl,trivial,by rw[(Fe gV).1];exact(ai.mem hw:Mem w [] _).cO aq 19⟩
   rw[CR]at h3;rw[h3]at ec;simp only[if_true,aqN]at ec;have ev0:rdv ((cs.drop 0).take (20 -0))=pe (cs.take 20):=by rw[CR,rdv,if_pos h3]
   refine al ?_;refine jO (enc:=aq) (vals:=[_]) [(rdv ((cs.drop 0).take (20 -0)))] rfl rfl rfl (by decide) (by decide) fun AF=>?_;refine jd (s:=t2) (ys:=[(rdv ((cs.drop 0).take (20 -0)))]) rfl rfl (by decide) (fun w hw=>ib (s:=⟨false,AF,0,1,1,none⟩) Tryz.underlying22 (by decide) ((inferInstance:Hd _ _ ⟨false,AF,0,1,1,none⟩ aq 19 [(rdv ((cs.drop 0).take (20 -0)))]).h w hw)) (by simp only[apj,apl];omega) (by simp only[apj,apl];omega) fun s35 anF anG=>?_;refine al ?_;have abS:Rg 20 cs.length cs.length:=⟨by omega⟩;refine ag (w9 rfl rfl 20 rfl abS.h.1) (Gs ?_);refine Gi ?_;exact aW (x:=(cu,cs,t2,q2)) (_,cs.drop 20,s35,q2++[pe (cs.take 20)]) ⟨pre++[pe (cs.take 20)],by simp[hM],by rw[fb,ec];cases l0 (cs.drop 20)<;>simp,by have:=fV.sub (lo:=20) (hi:=cs.length) oF (apm _);rwa [apy (by rw[apr];omega)]at this,by simp only[apr];omega,by simp only[af0,apr,apj,apl];omega⟩ (by simp only[apr];omega) sb (fun w hw=>by rw[ev0]at hw;exact ai.mem hw)
  refine al ?_;refine Gi ?_;exact aW (x:=(i,t,q)) (i+1,t2,q2) ⟨oF,by rw[Jg ex,az,aqN,fb,show cs=[]from apB.1 oF,Y3];simp[hM],by simp only;omega⟩ (by simp only;omega) sb (fun w hw=>ai.mem hw)
 refine V8 ?_;have jw:iI (lx a)=some q:=by rw[←az,apy oM]
 refine Gi ?_;refine au ?_;refine Gb (fun h4=>?_) fun h4=>?_
 ·
  refine au ?_;refine Gr fun w1 hw=>?_;exact⟨Sv.none,by rw[(PN jw h4).2];rfl,trivial,by rw[(PN jw h4).1];exact(ai.mem hw:Mem w [] _).cO aq 19⟩
 refine aH ?_;refine Gr fun w1 hw=>?_;exact⟨t,by rw[(PO jw h4).2],trivial,by rw[(PO jw h4).1];exact hw⟩)⟩
instance anH{t:Sv}{ts:List Rt}{ids:Int}{room:Int}[ht:ct w0 L aq 19 t ts]:bE Tryz.prog 101 w0 L [t.val, .int .i64 ids, .int .i64 room] (Sl (Sl UInt8)) (fun zz=> .tuple #[zz.sv.val, .int .i64 (kv ts ids room)]) (fun zz=>Deep.cd zz::L) (fun zz=>lx zz=lq ts ids room) (True):=⟨fun aA w hw=>Gk (fun zz=>[Deep.cd zz]) hw (by
 have ht:=ht.h w hw;have l5:Gv w t aq 19 ts:=⟨ht⟩;refine pS Tryz.func101 rfl Tryz.ntmps101 rfl ?_;refine H3 ?_;refine bo rfl rfl rfl (fun hg=>bP (cZ (aw hg rfl) fu) trivial) (bo rfl rfl rfl (fun hg=>(Ry.yl (iz (aw hg rfl)))) (av ?_));refine Gb (fun h0=>?_) fun h0=>?_
 ·
  refine au ?_;refine Gr fun w1 hw=>?_;exact⟨⟨Sv.none,[]⟩,by rw[(PQ h0).1];rfl,(PQ h0).2.symm,Mem.y8 (enc:=bU) (c:=1) (ai.mem hw)⟩
 obtain⟨FX,Kj⟩:=h0;have hm:=Je FX;obtain⟨k,hk⟩: ∃k:Nat,ids=k:=⟨ids.toNat,by omega⟩;obtain⟨n,hn⟩: ∃n:Nat,room/20=n:=⟨(room/20).toNat,by omega⟩;have qh:ids*(room/20)=((k*n:Nat):Int):=by rw[hk,hn,Int.natCast_mul]
 have ek:ids.toNat=k:=by omega
 have en:(room/20).toNat=n:=by omega
 refine aT ?_;refine Gb (fun h1=>?_) fun h1=>?_
 ·
  refine au ?_;refine Gr fun w1 hw=>?_;exact⟨⟨Sv.none,[]⟩,by rw[(PR FX Kj h1).1];rfl,(PR FX Kj h1).2.symm,Mem.y8 (enc:=bU) (c:=1) (ai.mem hw)⟩
 have hE:=PS FX Kj h1;rw[ek,en]at hE;have Ah:ts.length<=k*n:=by omega
 have hl:=ht.bd;refine av ?_;refine Uu (τ:=UInt8) (n:=k) (cap:=k) rfl rfl oM oM oM oM oM fun c6 abT=>aT ?_;refine bA (X:=Nat×Sl (Sl UInt8)) (fun zz=>[(31, .int .i64 (zz.1:Nat)),(9,zz.2.sv.val),(2, .int .i64 room),(29,t.val),(30, .int .i64 (ts.length:Nat))]) (fun zz=>[Deep.cd zz.2]) (fun zz=>zz.1<=ts.length/\lx zz.2=pd (ts.take zz.1) k n) (fun zz=>ts.length -zz.1) (0,c6) ⟨oF,by rw[Y2];show List.map _ _=_;rw[abT];simp⟩ sb (fun w hw=>ai.mem hw) ?_;rintro⟨i,a⟩ ⟨aQ,az⟩;dsimp only;simp only at aQ az;refine al ?_;refine Gb (fun h2=>?_) fun h2=>?_
 ·
  refine av ?_;obtain⟨uB,Kk⟩:=get_some (xs:=ts) (i:=i) oM;refine ag (aR rfl rfl i rfl oM) (ag (fC rfl i Kk rfl) (bn fun nQ=>aH ?_));refine ag (lf rfl rfl oM oM) (ag (lf rfl rfl oM oM) (Gs ?_));refine da ?_;have bc:i/n<k:=arI (by rw[aqt];omega);have Kl:i/n<a.xs.length:=by rw[←xe,az,vQ];exact bc
  obtain⟨x,hx⟩:=get_some (xs:=a.xs) (i:=i/n) Kl;have ex:(lx a)[i/n]? =some x.xs:=by simp[lx,hx]
  have Rx:((i:Nat):Int)/(room/20)=((i/n:Nat):Int):=by rw[hn];exact(Int.natCast_ediv i n).symm
  have zD:x.xs.length<=240:=by
   rw[az,pd,apG]at ex;obtain⟨j,_,hj⟩:=aqf.1 ex;have:=PJ (ts.take i) n j;rw[hj]at this;omega
  refine rK (own bU 1 a.sv a.xs::own aP 1 x.sv x.xs::an nQ (aq uB) 34::(a.xs.eraseIdx (i/n)).map Deep.cd) (fun w hw=>(Tr.Uv (B:=[an nQ (aq uB) 34]) hx).mem hw) (LM 9 [7] [own bU 1 a.sv a.xs,an nQ (aq uB) 34] (fun w hw=>ai.mem hw) oK oK ?_);simp only[aqg,apK];refine au ?_;refine bx (aR rfl rfl (i/n) Rx Kl) (bx (bC (j:=0) rfl (i/n) hx rfl (by decide)) ?_);have anI:Mb x _:=⟨List.mem_of_getElem? hx⟩;refine Gq ?_;refine TV (bx (aR rfl rfl (i/n) Rx Kl) (u5 ?_ (fun _ hw=>ai.mem hw)));refine Um rfl rfl oM (fun _ w hw=>ai.mem hw) fun kA wb=>u6 ?_;simp only[aq8,aqB];refine DO (k:=i/n) ⟨kA,x.xs++gY uB⟩ oK rfl rfl rfl hx (al ?_);refine Gi ?_;exact aW (x:=(i,a)) (i+1,⟨a.sv,a.xs.set (i/n) ⟨kA,x.xs++gY uB⟩⟩) ⟨oF,by rw[Y9,Y1 oF Kk (by rw[←az];exact ex),←az];rfl⟩ oF sb (fun w hw=>ai.mem ((Tr.Uw (B:=[an nQ (aq uB) 34]) (enc:=aP) (c:=1) (by rw[←xe,az,vQ];exact bc)).mem hw))
 refine aH ?_;refine Gr fun w1 hw=>?_;exact⟨a,by rw[hE.1],by rw[az,hE.2,apy oM],hw⟩)⟩
open Go.RowKit
instance:dz Tryz.prog 65 (.agg (dy mJ)):=⟨by kernel_rfl⟩
theorem Km(v:cf)(t:Sl Rt)(w:World):(Instr.build 65 #[(0, .agg (cj v)),(1,t.sv.val)]).run Tryz.prog w= .ok (.agg (dy ⟨v,t⟩)) w:=by
 obtain⟨s,xs⟩:=t;obtain⟨⟨a1,a2,⟨a3,a4⟩,a5,a6,⟨a7,a8⟩⟩,⟨a9,a10⟩,a11,a12⟩:=v;unfold dy;obtain⟨e,b,o,l,c,p⟩:=s;obtain⟨e3,b3,o3,l3,c3,p3⟩:=a3;obtain⟨e7,b7,o7,l7,c7,p7⟩:=a7;obtain⟨e9,b9,o9,l9,c9,p9⟩:=a9
 cases e<;>cases e3<;>cases e7<;>cases e9<;>kernel_rfl
instance anJ{b:Int}{p:Int}{s:Int}:bY Tryz.prog 75 w0 L [.int .i64 b, .int .i64 p, .int .i64 s] (.int .i64 (Cl b p s)) (True):=⟨fun aA w hw=>by
 have Ki:=ZT b p;have QA:=Qr s;refine pS Tryz.func75 rfl Tryz.ntmps75 rfl ?_;refine aT ?_;refine ag (lf rfl rfl oM oM) (av ?_);refine ag (GX rfl rfl) (av ?_);refine Gr fun w1 hw=>?_;exact⟨congrArg (fun b=>Ending.returned (Value.int .i64 b)) ((by rw[Cl])),ai.mem hw⟩⟩
instance anK{b:Int}{p:Int}{s:Int}:bY Tryz.prog 25 w0 L [.int .i64 b, .int .i64 p, .int .i64 s] (.int .i64 (Jt b p s)) (True):=⟨fun aA w hw=>by
 refine pS Tryz.func25 rfl Tryz.ntmps25 rfl ?_;refine zp ?_;refine Gr fun w1 hw=>?_;exact⟨congrArg (fun b=>Ending.returned (Value.int .i64 b)) ((by rw[Jt])),ai.mem hw⟩⟩
instance anL{c:Cp}[hc:aV w0 L c]:bY Tryz.prog 98 w0 L [.agg (aU c)] (.int .i64 (hH (cv c))) (True):=⟨fun aA w hw=>by
 have hc:=hc.h w hw;have ka:cy w c:=⟨hc⟩;refine cw Tryz.func98 rfl Tryz.ntmps98 rfl ?_;refine Gc ?_;refine bH rfl fun b1=>zp ?_;refine Gr fun w1 hw=>?_;exact⟨congrArg (fun b=>Ending.returned (Value.int .i64 b)) ((by simp only[hH,cv,gm])),ai.mem hw⟩⟩
instance anM{c:Cp}[hc:aV w0 L c]:bY Tryz.prog 95 w0 L [.agg (aU c)] (.int .i64 (q7 (cv c))) (True):=⟨fun aA w hw=>by
 have hc:=hc.h w hw;have ka:cy w c:=⟨hc⟩;refine cw Tryz.func95 rfl Tryz.ntmps95 rfl ?_;refine Gc ?_;refine bH rfl fun b1=>zp ?_;refine Gr fun w1 hw=>?_;exact⟨congrArg (fun b=>Ending.returned (Value.int .i64 b)) ((by simp only[q7,cv,gm])),ai.mem hw⟩⟩
instance anN{v:cf}{id:Nat}[hv:aV w0 L v]:bE Tryz.prog 181 w0 L [.agg (cj v), .int .i64 (id:Nat)] (Sv) (fun zz=>zz.val) (fun zz=>own aP 1 zz (ky (cv v.ak) (v.at_.xs.getD id 0))::L) (fun zz=>True) (bq (cv v.ak)=true/\id<v.at_.xs.length/\ ∀y∈v.at_.xs,0<=y/\y<=65535/\(y≠0->vC (cv v.ak) (y -1)=true)):=⟨fun aA w hw=>Gk (fun zz=>[own aP 1 zz (ky (cv v.ak) (v.at_.xs.getD id 0))]) hw (by
 have hv:=hv.h w hw;have yi:cy w v:=⟨hv⟩;obtain⟨hk,hid,kF⟩:=aA;obtain⟨y,hy⟩:=get_some (xs:=v.at_.xs) (i:=id) hid;have nP:v.at_.xs.getD id 0=y:=xI hy;obtain⟨tl,Jv,gM⟩:=kF y (alM hy);refine cz Tryz.func181 rfl Tryz.ntmps181 rfl ?_;refine Gc ?_;refine bH rfl fun b2=>aH ?_;refine ag (aR rfl rfl id rfl oM) (ag (bC (j:=0) rfl id hy rfl (by decide)) (aT ?_));refine Gb (fun h0=>?_) fun h0=>?_
 ·
  have hE:(ky (cv v.ak) (v.at_.xs.getD id 0))=[]:=by rw[nP,ky,if_pos oM]
  refine al ?_;refine Gr fun w1 hw=>?_;exact⟨Sv.none,rfl,trivial,by rw[hE];exact Mem.cO aP 1 (ai.mem hw:Mem w [] _)⟩
 have h1y:1<=y:=by omega
 obtain⟨g1,g2,g3⟩:=ET.1 (gM oM);have eO:=gm v.ak.blocks.xs;have hO:=kQ.1 (eW.1 hk).1;simp only[cv,eO]at hO;have Cy:0<=((y -1)/v.ak.ae):=arR oM oM;have sK:0<=((y -1)%v.ak.ae):=Int.emod_nonneg _ oM;have Cz:((y -1)%v.ak.ae)<v.ak.ae:=Int.emod_lt_of_pos _ oM;have sL:=xG (c:=v.ak) (b:=((y -1)/v.ak.ae));change 2<=((y -1)/v.ak.ae)at g1;change((y -1)/v.ak.ae)<((ij v.ak.blocks.xs).length:Int)at g2;rw[eO]at g2;obtain⟨B,hB⟩:=get_some (xs:=v.ak.blocks.xs) (i:=((y -1)/v.ak.ae).toNat) oM;have rf:Mb B v.ak.blocks:=⟨List.mem_of_getElem? hB⟩;have eu:bv B=aM (cv v.ak) ((y -1)/v.ak.ae):=by rw[←sL];simp[List.getD,hB]
 have fJ:=gP.1 ((eW.1 hk).2.2.2.2 (bv B) (alM (lT hB)));have iJ:=nw B.ae.xs;have QK:(B.ae.xs.length:Int)=v.ak.ae:=by have:=fJ.1;simp only[bv,cv,iJ]at this;exact this
 obtain⟨z,hz⟩:=get_some (xs:=B.ae.xs) (i:=((y -1)%v.ak.ae).toNat) oM;have vX:Mb z B.ae:=⟨List.mem_of_getElem? hz⟩;have qX:zN (cv v.ak) (y -1)=z.xs:=by
  show(aM (cv v.ak) ((y -1)/v.ak.ae)).ae.getD ((y -1)%v.ak.ae).toNat []=z.xs;rw[←eu];simp[bv,List.getD,oS hz]
 have hI:(ky (cv v.ak) (v.at_.xs.getD id 0))=ll (cv v.ak) y:=by rw[nP,ky,if_neg oM]
 refine Gc ?_;refine rU [18,22,23,2022,4018] [[],[],[],[],[],[],[],[],[],[],[],[],[],[],[],[],[],[],[],[18],[18],[18],[],[18,22],[18,22,23]] [0,1,2,3,4,5,6,7,8,9,10,11,12,13,14,15,16,17,18,19,20,21,22,23,24] [an b2 (cj v) 63] [(22,jR Tryz.prog 324)] oK (fun _ hw=>ai.mem hw) oK oK (ar rfl (aK (o':=0) rfl rfl) (ar rfl (aK (o':=2) rfl rfl) (ar rfl (bQ rfl) (ar rfl (bf rfl) (ar rfl (aK (o':=0) rfl rfl) (ar rfl (aK (o':=0) rfl rfl) (ar rfl (bQ rfl) (ar rfl (lf rfl rfl oM oM) (ar rfl (aR rfl rfl (((y -1)/v.ak.ae).toNat) oM oM) (ar rfl (aK rfl rfl) (ar rfl (bC (j:=0) rfl (((y -1)/v.ak.ae).toNat) hB rfl (by decide)) (ar rfl (bf rfl) ?_))))))))))));refine ar rfl (aK (o':=0) rfl rfl) (ar rfl (aK (o':=0) rfl rfl) (ar rfl (bQ rfl) (ar rfl (yS rfl rfl oM oM) (ar rfl (aR rfl rfl (((y -1)%v.ak.ae).toNat) oM oM) (ar rfl (bC (j:=0) rfl (((y -1)%v.ak.ae).toNat) hz rfl (by decide)) ?_)))));refine xu rfl rfl trivial (fun e x w hw=>ai.mem hw) (Cert.one (i:=22) rfl rfl rfl jy (Cert.none rfl)) fun AB JZ=>⟨fun _ hw=>ai.mem hw,?_⟩;have e1:AB.body.xs=(dm z.xs).1.body:=congrArg PV.body JZ;refine ar rfl (bf rfl) (ar rfl (aI (v:= .agg (cL AB)) rfl rfl) (ar rfl (aI (v:= .int .i64 ((dm z.xs).2)) rfl rfl) (oP (m:=jR Tryz.prog 324) rfl rfl jy (Cert.none rfl) fun b6=>?_)));change Ln _ _ _ _ _ _ _ _ (ca _ _ (.pointer (some ⟨b6,0,none⟩))) (an b6 (cL nD) 324::_) _;refine c8 rfl (np rfl rfl ⟨fun _ hw=>ai.mem hw,?_⟩);refine ar rfl (gN rfl) (au ?_);refine Gb (fun h1=>?_) fun h1=>?_
 ·
  have hE:(ky (cv v.ak) (v.at_.xs.getD id 0))=[]:=by rw[hI,ll,qX,if_neg h1]
  refine al ?_;refine Gr fun w1 hw=>?_;exact⟨Sv.none,rfl,trivial,by rw[hE];exact Mem.cO aP 1 (ai.mem hw:Mem w [] _)⟩
 have AG:(dm z.xs).2=0:=h1;have hE:(ky (cv v.ak) (v.at_.xs.getD id 0))=AB.body.xs:=by rw[hI,ll,qX,if_pos AG,e1]
 refine aH ?_;refine Gr fun w1 hw=>?_;exact⟨AB.body.sv,rfl,trivial,by rw[hE];exact ai.mem hw⟩)⟩
instance anO{s:Sl (Sl UInt8)}[hs:aV w0 L s]:bE Tryz.prog 163 w0 L [s.sv.val] (Sv) (fun zz=>zz.val) (fun zz=>own (bU (τ:=UInt8)) 1 zz s.xs::L) (fun zz=>True) (s.xs.length<=1000000):=⟨fun aA w hw=>Gk (fun zz=>[own (bU (τ:=UInt8)) 1 zz s.xs]) hw (by
 have hs:=hs.h w hw;have uj:cy w s:=⟨hs⟩;refine cw Tryz.func163 rfl Tryz.ntmps163 rfl ?_;refine au ?_;refine ag (tp Tryz.underlying178 rfl) (Gc ?_);refine Gb (fun h0=>?_) fun h0=>?_
 ·
  have e0:s.xs=[]:=apB.1 (by have:=hs.1.ok.nil h0;have:=hs.1.len;omega);refine al ?_;refine Gr fun w1 hw=>?_;exact⟨Sv.none,rfl,trivial,by rw[e0];exact(ai.mem hw:Mem w [] _).cO (bU (τ:=UInt8)) 1⟩
 refine Gc ?_;refine vc (bU (τ:=UInt8)) fun b5=>Gs ?_;refine jd (s:=⟨false,b5,0,0,0,none⟩) (enc:=(bU (τ:=UInt8))) (ys:=s.xs) rfl rfl (by decide) (fun w hw=>ib (s:=s.sv) Tryz.underlying178 (by decide) ((inferInstance:ct _ _ (bU (τ:=UInt8)) 1 s.sv s.xs).h w hw)) (by simp only[apl];omega) (by simp only[apl];omega) fun s7 yc vT=>?_;refine av ?_;refine Gr fun w1 hw=>?_;exact⟨s7,rfl,trivial,by rw[apV]at hw;exact ai.mem hw⟩)⟩
instance anP{c:Cp}[hc:aV w0 L c]:bE Tryz.prog 96 w0 L [.agg (aU c)] (Cp) (fun zz=> .agg (aU zz)) (fun zz=>fz zz::L) (fun zz=>cv zz=cv c) (gn c):=⟨fun aA w hw=>Gk (fun zz=>[fz zz]) hw (by
 have hc:=hc.h w hw;have ka:cy w c:=⟨hc⟩;obtain⟨eF,fU,eY⟩:=aA;refine cw Tryz.func96 rfl Tryz.ntmps96 rfl ?_;refine Gc ?_;refine bH rfl fun b1=>bn fun b2=>al ?_;refine aY rfl oM fun x9 Ak=>Gs ?_;refine dR (cs':=aU (⟨c.ae,c.size,⟨x9,c.blocks.xs⟩,c.ops,c.off,c.bj⟩:Cp)) rfl rfl (by show 2<6;decide) (by first|rfl|exact Sv.one _) rfl (aT ?_);refine bA (X:=Nat×List Bk) (fun zz=>[(14, .int .i64 (zz.1:Nat)),(1, .pointer (some ⟨b1,0,none⟩)),(2, .pointer (some ⟨b2,0,none⟩)),(12,x9.val),(13, .int .i64 (c.blocks.xs.length:Nat))]) (fun zz=>[own bS 4 x9 zz.2,aj.all ((zz.2.take zz.1).map fun b:Bk=>fz b.ae),an b2 (aU fY) 59,an b1 (aU (⟨c.ae,c.size,⟨x9,zz.2⟩,c.ops,c.off,c.bj⟩:Cp)) 59]) (fun zz=>zz.1<=c.blocks.xs.length/\zz.2.length=c.blocks.xs.length/\ij zz.2=ij c.blocks.xs/\ ∀j,zz.1<=j->zz.2[j]? =c.blocks.xs[j]?) (fun zz=>c.blocks.xs.length -zz.1) (0,c.blocks.xs) ⟨Nat.zero_le _,rfl,rfl,fun _ _=>rfl⟩ sb (fun w hw=>by
  simp only[apK,aqu];exact ai.mem (Mem.xx hw)) ?_
 rintro⟨i,zs⟩ ⟨aQ,az,aX,bX⟩;dsimp only;simp only at aQ az aX bX;refine al ?_;refine Gb (fun h0=>?_) fun h0=>?_
 ·
  obtain⟨z,hz⟩:=get_some (xs:=zs) (i:=i) oM;have vX:Mb z c.blocks:=⟨List.mem_of_getElem? (by rw[←bX i (apm _)];exact hz)⟩;have dO:=eY z vX.h;obtain⟨abU,anQ⟩:=dO;rw[nw]at abU;refine av ?_;refine ag (aR rfl rfl i rfl oM) (ag (fC rfl i hz rfl) (bn fun b4=>aH ?_));refine aY rfl oM fun gA CF=>aT ?_;refine bA (X:=Nat×List (Sl UInt8)) (fun zz=>[(24, .int .i64 (zz.1:Nat)),(5,gA.val),(1, .pointer (some ⟨b1,0,none⟩)),(2, .pointer (some ⟨b2,0,none⟩)),(3, .int .i64 (i:Nat)),(12,x9.val),(13, .int .i64 (c.blocks.xs.length:Nat)),(14, .int .i64 (i:Nat)),(23, .int .i64 (z.ae.xs.length:Nat))]) (fun zz=>[own (bU (τ:=UInt8)) 1 gA zz.2,aj.all ((zz.2.take zz.1).map fun b:Sl UInt8=>fz b),an b4 (bS z) 180,own bS 4 x9 zs,aj.all ((zs.take i).map fun b:Bk=>fz b.ae),an b2 (aU fY) 59,an b1 (aU (⟨c.ae,c.size,⟨x9,zs⟩,c.ops,c.off,c.bj⟩:Cp)) 59]) (fun zz=>zz.1<=z.ae.xs.length/\zz.2.length=z.ae.xs.length/\aL zz.2=aL z.ae.xs/\ ∀k,zz.1<=k->zz.2[k]? =z.ae.xs[k]?) (fun zz=>z.ae.xs.length -zz.1) (0,z.ae.xs) ⟨Nat.zero_le _,rfl,rfl,fun _ _=>rfl⟩ sb (fun w hw=>by
   simp only[apK,aqu];exact ai.mem (Mem.xx hw)) ?_
  rintro⟨j,qs⟩ ⟨hM,fb,fV,iS⟩;dsimp only;simp only at hM fb fV iS;refine al ?_;refine Gb (fun h1=>?_) fun h1=>?_
  ·
   obtain⟨y,hy⟩:=get_some (xs:=qs) (i:=j) oM;have Kn:z.ae.xs[j]? =some y:=by rw[←iS j (apm _)];exact hy
   have JG:Mb y z.ae:=⟨List.mem_of_getElem? Kn⟩;have Ah:=BZ (oS Kn);have iJ:=B2 (aL z.ae.xs) (j+1);have Rz:y.xs.length<=140737488355328:=by rw[Ah]at iJ;omega
   refine al ?_;refine da ?_;refine Eg (s:=gA) (enc:=bU (τ:=UInt8)) (c:=1) (xs:=qs) inferInstance oM fun anR anS abV anT=>?_;refine Gi ?_;refine au ?_;refine ag (aR rfl rfl j rfl oM) (ag (bC (j:=0) rfl j hy rfl (by decide)) (aY rfl Rz fun jI wa=>?_));obtain⟨uB,Kk⟩:=get_some (xs:=qs) (i:=j) oM;refine ag (lg (s:=gA) (i:=j) rfl rfl rfl abV oM) (DO (s:=gA) (xs:=qs) (k:=j) (a:=y) (⟨jI,y.xs⟩:Sl UInt8) oK rfl rfl rfl hy (al ?_));refine Gi ?_;exact aW (x:=(j,qs)) (j+1,qs.set j (⟨jI,y.xs⟩:Sl UInt8)) ⟨oF,by rw[ap8];exact fb,by rw[aL,arx,←aL,fV];exact zE (z:=y.xs) (oS Kn),fun k hk=>by rw[aqG oF];exact iS k oF⟩ (by simp only;omega) sb (fun w hw=>by
    have h1:=Iv (a:=(⟨jI,y.xs⟩:Sl UInt8)) (ai.mem hw:Mem _ (own aP 1 jI y.xs::[own (bU (τ:=UInt8)) 1 gA (qs.set j (⟨jI,y.xs⟩:Sl UInt8)),aj.all ((qs.take j).map fun b:Sl UInt8=>fz b),an b4 (bS z) 180,own bS 4 x9 zs,aj.all ((zs.take i).map fun b:Bk=>fz b.ae),an b2 (aU fY) 59,an b1 (aU (⟨c.ae,c.size,⟨x9,zs⟩,c.ops,c.off,c.bj⟩:Cp)) 59]) _);have h3:=Mem.zC (ai.mem h1:Mem _ (fz (⟨jI,y.xs⟩:Sl UInt8)::aj.all ((qs.take j).map fun b:Sl UInt8=>fz b)::[own (bU (τ:=UInt8)) 1 gA (qs.set j (⟨jI,y.xs⟩:Sl UInt8)),an b4 (bS z) 180,own bS 4 x9 zs,aj.all ((zs.take i).map fun b:Bk=>fz b.ae),an b2 (aU fY) 59,an b1 (aU (⟨c.ae,c.size,⟨x9,zs⟩,c.ops,c.off,c.bj⟩:Cp)) 59]) _);rw[ID (z':=(⟨jI,y.xs⟩:Sl UInt8)) hy]at h3;exact ai.mem h3)
  obtain rfl:j=qs.length:=by omega
  rw[apy (apm _)]at*;refine V7 ?_;refine Eg (s:=x9) (enc:=bS) (c:=4) (xs:=zs) inferInstance oM fun hn9 hs9 ho9 hl9=>?_;refine Gi ?_;refine au ?_;obtain⟨e40,abW⟩:=get_some (xs:=zs) (i:=i) oM;refine ag (lg (s:=x9) (i:=i) rfl rfl rfl ho9 oM) (ag (aK rfl rfl) (ju (n:=1) (k:=i) (j:=0) (a:=z) (a':=({z with ae:=⟨gA,qs⟩}:Bk)) (xs:=zs) (enc:=bS) (c:=4) (v:=gA.val) oK rfl rfl rfl hz (by rw[Sv.iD];simp[Sv.one]) (by rw[Sv.iD];rfl) (by decide) (by rw[Sv.iD];rfl) (al ?_)))
  refine Gi ?_;exact aW (x:=(i,zs)) (i+1,zs.set i ({z with ae:=⟨gA,qs⟩}:Bk)) ⟨oF,by rw[ap8];exact az,by rw[xF,←aX,show bv ({z with ae:=⟨gA,qs⟩}:Bk)=bv z from by rw[bv,bv,fV],←xF,zE hz],fun j hj=>by rw[aqG oF];exact bX j oF⟩ (by simp only;omega) sb (fun w hw=>by
   have h1:=IC (ai.mem hw:Mem _ (own (bU (τ:=UInt8)) 1 gA qs::aj.all (qs.map fun b:Sl UInt8=>fz b)::[own bS 4 x9 (zs.set i ({z with ae:=⟨gA,qs⟩}:Bk)),aj.all ((zs.take i).map fun b:Bk=>fz b.ae),an b2 (aU fY) 59,an b1 (aU (⟨c.ae,c.size,⟨x9,zs⟩,c.ops,c.off,c.bj⟩:Cp)) 59]) _)
   have h3:=Mem.zC (ai.mem h1:Mem _ (fz (⟨gA,qs⟩:Sl (Sl UInt8))::aj.all ((zs.take i).map fun b:Bk=>fz b.ae)::[own bS 4 x9 (zs.set i ({z with ae:=⟨gA,qs⟩}:Bk)),an b2 (aU fY) 59,an b1 (aU (⟨c.ae,c.size,⟨x9,zs⟩,c.ops,c.off,c.bj⟩:Cp)) 59]) _)
   rw[Ox (z':=({z with ae:=⟨gA,qs⟩}:Bk)) hz]at h3
   exact(ai.mem h3:Mem _ [own bS 4 x9 (zs.set i ({z with ae:=⟨gA,qs⟩}:Bk)),aj.all (((zs.set i ({z with ae:=⟨gA,qs⟩}:Bk)).take (i+1)).map fun b:Bk=>fz b.ae),an b2 (aU fY) 59,an b1 (aU (⟨c.ae,c.size,⟨x9,zs⟩,c.ops,c.off,c.bj⟩:Cp)) 59] _))
 obtain rfl:i=zs.length:=by omega
 rw[apy (apm _)]at*;refine av ?_;refine ag (Ry.to (v':=c.bj.sv.val) (bQ rfl) rfl) (aY rfl oM fun rr RA=>Gs ?_);refine dR (cs':=aU (⟨c.ae,c.size,⟨x9,zs⟩,c.ops,c.off,⟨rr,c.bj.xs⟩⟩:Cp)) rfl rfl (by show 5<6;decide) (by first|rfl|exact Sv.one _) rfl (au ?_);refine Gr fun w1 hw=>?_;exact⟨(⟨c.ae,c.size,⟨x9,zs⟩,c.ops,c.off,⟨rr,c.bj.xs⟩⟩:Cp),rfl,by simp only[cv,aX],EF (d:=(⟨c.ae,c.size,⟨x9,zs⟩,c.ops,c.off,⟨rr,c.bj.xs⟩⟩:Cp)) ((N9 (a:=(⟨rr,c.bj.xs⟩:Sl Ft)) ((Ou (ai.mem hw:Mem w (own bS 4 x9 zs::aj.all (zs.map fun b:Bk=>fz b.ae)::[own dL 4 rr c.bj.xs]) _)).perm (List.Perm.swap _ _ _))).perm (List.Perm.swap _ _ _))⟩)⟩
instance anU{c:Cp}[hc:aV w0 L c]:bE Tryz.prog 108 w0 L [.agg (aU c)] (c0×Sl (Sl UInt8)) (fun zz=> .tuple #[.agg (dy zz.1),zz.2.sv.val, .int .i64 ((dU (cv c)).2)]) (fun zz=>fz zz.1::fz zz.2::L) (fun zz=>cH zz.1=(dU (cv c)).1/\lx zz.2=kY (cv c)) (True):=⟨fun aA w hw=>Gk (fun zz:c0×Sl (Sl UInt8)=>[fz zz.1,fz zz.2]) hw (by
 have hc:=hc.h w hw;have ka:cy w c:=⟨hc⟩;refine cw Tryz.func108 rfl Tryz.ntmps108 rfl ?_;refine Gc ?_;refine bH rfl fun b1=>bn fun b2=>cx ?_;refine Gb (fun h0=>?_) fun h0=>?_
 ·
  have hE:=Qm h0;refine Gc ?_;refine ag (cN (v:= .agg (dy mJ)) rfl (fun w=>by kernel_rfl)) (au ?_);refine Gr fun w1 hw=>?_;exact⟨(mJ,⟨Sv.none,[]⟩),by rw[hE.1];rfl,⟨by rw[hE.1];rfl,by rw[hE.2];rfl⟩,Fo (Ae (ai.mem hw:Mem w [] _))⟩
 refine av ?_;refine aY rfl trivial fun aD jH=>?_;have abX:=OS (cv c);rw[YX]at jH;have FY:aD.at_.xs=(bJ (cv c)).1.at_:=congrArg VV.at_ jH;rw[←FY]at abX;have anV: ∀(L:List aj) [Hd w L aD.at_.sv bw 1 aD.at_.xs],aV w L aD.at_:=fun L q=>⟨fun w h=>⟨q.h w h,fun _ _=>trivial⟩⟩;have anW: ∀(L:List aj) [aV w L aD.ak] [aV w L aD.at_],aV w L aD:=fun L p q=>⟨fun w h=>⟨p.h w h,q.h w h⟩⟩;refine Gs ?_;refine ag (aI (v:= .agg (cj aD)) rfl rfl) (ag (aI (v:= .int .i64 ((bJ (cv c)).2)) rfl rfl) (bn fun b5=>aT ?_));refine Gb (fun h1=>?_) fun h1=>?_
 ·
  have hE:=Qn h0 h1;refine Gc ?_;refine ag (cN (v:= .agg (dy mJ)) rfl (fun w=>by kernel_rfl)) (aH ?_);refine Gr fun w1 hw=>?_;exact⟨(mJ,⟨Sv.none,[]⟩),by rw[hE.1];rfl,⟨by rw[hE.1];rfl,by rw[hE.2];rfl⟩,Fo (Ae (ai.mem hw:Mem w [] _))⟩
 have AG:(bJ (cv c)).2=0:=h1;have Ko:p0 (vv aD)=true:=by rw[jH];exact ZW AG
 have A6:cv aD.ak=(vv aD).ak:=rfl;have RB:bq (cv aD.ak)=true:=(EV Ko).1;have hby: ∀y∈aD.at_.xs,0<=y/\y<=65535/\(y≠0->vC (cv aD.ak) (y -1)=true):=fun y hy=>by
  obtain⟨g1,g2⟩:=(EV Ko).2.2 y hy;obtain⟨j,hj⟩:=aqj hy;exact⟨g1,g2,fun g=>(OU Ko hj g).2.2⟩
 refine Gc ?_;refine fA oK oK (au ?_);refine pI (bP rfl trivial) (av ?_);refine Gb (fun h2=>?_) fun h2=>?_
 ·
  have CS:(((bJ (cv c)).1.at_.length:Nat):Int)≠hH (cv c):=by rw[←FY];exact h2
  have hE:=Qo h0 AG CS;refine Gc ?_;refine ag (cN (v:= .agg (dy mJ)) rfl (fun w=>by kernel_rfl)) (au ?_);refine Gr fun w1 hw=>?_;exact⟨(mJ,⟨Sv.none,[]⟩),by rw[hE.1];rfl,⟨by rw[hE.1];rfl,by rw[hE.2];rfl⟩,Fo (Ae (ai.mem hw:Mem w [] _))⟩
 have CS:(((bJ (cv c)).1.at_.length:Nat):Int)=hH (cv c):=by rw[←FY];exact h2
 have anX:aD.at_.xs.length<=64:=by have:=Qs (cv c);rw[←FY]at CS;omega
 refine au ?_;refine rH (enc:=bU (τ:=UInt8)) (n:=aD.at_.xs.length) (cap:=aD.at_.xs.length) (⟨Sv.none,[]⟩:Sl UInt8) rfl rfl rfl rfl rfl oM oM oM fun iT=>aT ?_;refine bA (X:=Nat×List (Sl UInt8)) (fun zz=>[(36, .int .i64 (zz.1:Nat)),(7,(⟨false,iT,0,aD.at_.xs.length,aD.at_.xs.length,none⟩:Sv).val),(2, .pointer (some ⟨b2,0,none⟩)),(5, .pointer (some ⟨b5,0,none⟩)),(35, .int .i64 ((List.replicate aD.at_.xs.length (⟨Sv.none,[]⟩:Sl UInt8)).length:Nat))]) (fun zz=>[own (bU (τ:=UInt8)) 1 ⟨false,iT,0,aD.at_.xs.length,aD.at_.xs.length,none⟩ zz.2,aj.all ((zz.2.take zz.1).map fun b:Sl UInt8=>fz b),an b5 (cj aD) 63,fz aD.ak,own bw 1 aD.at_.sv aD.at_.xs,an b2 (dy mJ) 65,an b1 (aU c) 59]) (fun zz=>zz.1<=aD.at_.xs.length/\zz.2.length=aD.at_.xs.length/\aL (zz.2.take zz.1)=(aD.at_.xs.take zz.1).map (ky (cv aD.ak))) (fun zz=>aD.at_.xs.length -zz.1) (0,List.replicate aD.at_.xs.length (⟨Sv.none,[]⟩:Sl UInt8)) ⟨Nat.zero_le _,by simp,by simp[aL]⟩ sb (fun w hw=>by
  simp only[apK,aqu];exact ai.mem (Mem.xx hw)) ?_
 rintro⟨i,qs⟩ ⟨aQ,az,aX⟩;dsimp only;simp only at aQ az aX;refine al ?_;refine Gb (fun h3=>?_) fun h3=>?_
 ·
  rw[ap5]at h3;obtain⟨q,hq⟩:=get_some (xs:=qs) (i:=i) oM;obtain⟨y,hy⟩:=get_some (xs:=aD.at_.xs) (i:=i) oM;have nP:aD.at_.xs.getD i 0=y:=xI hy;refine al ?_;refine da ?_;have abY:=EP (b:=iT) (n:=aD.at_.xs.length) oM;refine Gi ?_;refine au ?_;refine aY rfl ⟨RB,by omega,hby⟩ fun jm ql=>?_;obtain⟨e44,anY⟩:=get_some (xs:=qs) (i:=i) oM;refine ag (lg (s:=⟨false,iT,0,aD.at_.xs.length,aD.at_.xs.length,none⟩) (i:=i) rfl rfl rfl abY (by simp only;omega)) (DO (s:=⟨false,iT,0,aD.at_.xs.length,aD.at_.xs.length,none⟩) (xs:=qs) (k:=i) (a:=q) (⟨jm,ky (cv aD.ak) (aD.at_.xs.getD i 0)⟩:Sl UInt8) oK rfl rfl oM hq (al ?_));refine Gi ?_;exact aW (x:=(i,qs)) (i+1,qs.set i (⟨jm,ky (cv aD.ak) (aD.at_.xs.getD i 0)⟩:Sl UInt8)) ⟨oF,by rw[ap8];exact az,by rw[aL,EO hq,←aL,aX,aps,hy,ap6,nP];rfl⟩ (by simp only;omega) sb (fun w hw=>by
   have h1:=Iv (a:=(⟨jm,ky (cv aD.ak) (aD.at_.xs.getD i 0)⟩:Sl UInt8)) (ai.mem hw:Mem _ (own aP 1 jm (ky (cv aD.ak) (aD.at_.xs.getD i 0))::[own (bU (τ:=UInt8)) 1 ⟨false,iT,0,aD.at_.xs.length,aD.at_.xs.length,none⟩ (qs.set i (⟨jm,ky (cv aD.ak) (aD.at_.xs.getD i 0)⟩:Sl UInt8)),aj.all ((qs.take i).map fun b:Sl UInt8=>fz b),an b5 (cj aD) 63,fz aD.ak,own bw 1 aD.at_.sv aD.at_.xs,an b2 (dy mJ) 65,an b1 (aU c) 59]) _);have h3:=Mem.zC (ai.mem h1:Mem _ (fz (⟨jm,ky (cv aD.ak) (aD.at_.xs.getD i 0)⟩:Sl UInt8)::aj.all ((qs.take i).map fun b:Sl UInt8=>fz b)::[own (bU (τ:=UInt8)) 1 ⟨false,iT,0,aD.at_.xs.length,aD.at_.xs.length,none⟩ (qs.set i (⟨jm,ky (cv aD.ak) (aD.at_.xs.getD i 0)⟩:Sl UInt8)),an b5 (cj aD) 63,fz aD.ak,own bw 1 aD.at_.sv aD.at_.xs,an b2 (dy mJ) 65,an b1 (aU c) 59]) _);rw[ID (z':=(⟨jm,ky (cv aD.ak) (aD.at_.xs.getD i 0)⟩:Sl UInt8)) hq]at h3;exact ai.mem h3)
 rw[ap5]at h3;obtain rfl:i=qs.length:=by omega
 rw[apy (apm _)]at*;rw[apy oM]at aX;have sJ:lx (⟨⟨false,iT,0,aD.at_.xs.length,aD.at_.xs.length,none⟩,qs⟩:Sl (Sl UInt8))=pk (bJ (cv c)).1:=by rw[←jH];exact aX
 have eO: ∀x∈qs,x.xs.length<=100000:=fun x hx=>by
  have hm:x.xs∈aL qs:=aqb (f:=fun x:Sl UInt8=>x.xs) hx;rw[aX]at hm;obtain⟨y,_,hye⟩:=aqr.1 hm;rw[←hye];exact arv (ZZ _ _) (by decide)
 refine jS ?_;refine rK [fz (⟨⟨false,iT,0,aD.at_.xs.length,aD.at_.xs.length,none⟩,qs⟩:Sl (Sl UInt8)),an b5 (cj aD) 63,fz aD.ak,own bw 1 aD.at_.sv aD.at_.xs,an b2 (dy mJ) 65,an b1 (aU c) 59] (fun w hw=>ai.mem (IC (ai.mem hw:Mem _ (own (bU (τ:=UInt8)) 1 ⟨false,iT,0,aD.at_.xs.length,aD.at_.xs.length,none⟩ qs::aj.all (qs.map fun b:Sl UInt8=>fz b)::[an b5 (cj aD) 63,fz aD.ak,own bw 1 aD.at_.sv aD.at_.xs,an b2 (dy mJ) 65,an b1 (aU c) 59]) _))) (Gi ?_);refine Gs ?_;refine aY (hc:=abP (a:=(⟨⟨false,iT,0,aD.at_.xs.length,aD.at_.xs.length,none⟩,qs⟩:Sl (Sl UInt8)))) rfl ⟨by show qs.length<=1000;omega,eO⟩ fun wj Rd=>Gs ?_;refine ag (aI (v:=wj.val) rfl rfl) (ag (aI (v:= .int .i64 (pf (lx (⟨⟨false,iT,0,aD.at_.xs.length,aD.at_.xs.length,none⟩,qs⟩:Sl (Sl UInt8))))) rfl rfl) (aT ?_));refine Gb (fun h4=>?_) fun h4=>?_
 ·
  rw[sJ]at h4;have hE:=Qp h0 AG CS h4;refine Gc ?_;refine ag (cN (v:= .agg (dy mJ)) rfl (fun w=>by kernel_rfl)) (au ?_);refine Gr fun w1 hw=>?_;exact⟨(mJ,⟨Sv.none,[]⟩),by rw[hE.1];rfl,⟨by rw[hE.1];rfl,by rw[hE.2];rfl⟩,Fo (Ae (ai.mem hw:Mem w [] _))⟩
 have RC:=h4;rw[sJ]at RC;have hE:=ZQ h0 AG CS RC;refine al ?_;refine ag (cN (v:= .agg (dy (⟨aD,⟨wj,mI (lx (⟨⟨false,iT,0,aD.at_.xs.length,aD.at_.xs.length,none⟩,qs⟩:Sl (Sl UInt8)))⟩⟩:c0))) rfl (Km aD ⟨wj,mI (lx (⟨⟨false,iT,0,aD.at_.xs.length,aD.at_.xs.length,none⟩,qs⟩:Sl (Sl UInt8)))⟩)) (aH ?_);refine Gr fun w1 hw=>?_;exact⟨((⟨aD,⟨wj,mI (lx (⟨⟨false,iT,0,aD.at_.xs.length,aD.at_.xs.length,none⟩,qs⟩:Sl (Sl UInt8)))⟩⟩:c0),(⟨⟨false,iT,0,aD.at_.xs.length,aD.at_.xs.length,none⟩,qs⟩:Sl (Sl UInt8))),by rw[hE.1],⟨by rw[hE.1];simp only[cH,sJ,jH],by rw[hE.2];exact sJ⟩,Qq (f:=(⟨aD,⟨wj,mI (lx (⟨⟨false,iT,0,aD.at_.xs.length,aD.at_.xs.length,none⟩,qs⟩:Sl (Sl UInt8)))⟩⟩:c0)) (ai.mem hw:Mem w [fz aD.ak,own bw 1 aD.at_.sv aD.at_.xs,own aq 19 wj (mI (lx (⟨⟨false,iT,0,aD.at_.xs.length,aD.at_.xs.length,none⟩,qs⟩:Sl (Sl UInt8)))),fz (⟨⟨false,iT,0,aD.at_.xs.length,aD.at_.xs.length,none⟩,qs⟩:Sl (Sl UInt8))] _)⟩)⟩
instance anZ{x:Sv}{xs:List Rt}{y:Sv}{ys:List Rt}[hx:ct w0 L aq 19 x xs][hy:ct w0 L aq 19 y ys]:bY Tryz.prog 168 w0 L [x.val,y.val] (.bool (decide (xs=ys))) (True):=⟨fun aA w hw=>by
 have hx:=hx.h w hw;have hy:=hy.h w hw;have Aj:Gv w x aq 19 xs:=⟨hx⟩;have QP:Gv w y aq 19 ys:=⟨hy⟩;have hbx:=hx.bd;refine cz Tryz.func168 rfl Tryz.ntmps168 rfl ?_;refine fQ ?_;refine Gb (fun h0=>?_) fun h0=>?_
 ·
  have hz:decide (xs=ys)=false:=decide_eq_false fun e=>h0 (by rw[e]);refine al ?_;refine Gr fun w1 hw=>?_;exact Ge (hz.symm) hw
 have ot:xs.length=ys.length:=by omega
 refine aH ?_;refine bA (X:=Nat) (fun zz=>[(13, .int .i64 (zz:Nat)),(0,x.val),(1,y.val),(12, .int .i64 (xs.length:Nat))]) (fun zz=>[]) (fun zz=>zz<=xs.length/\ ∀j,j<zz->xs[j]? =ys[j]?) (fun zz=>xs.length -zz) 0 ⟨Nat.zero_le _,fun j hj=>by first|omega|(simp only[];omega)⟩ sb (fun w hw=>ai.mem hw) ?_;rintro i ⟨aQ,az⟩;refine al ?_;refine Gb (fun h1=>?_) fun h1=>?_
 ·
  obtain⟨p,jQ⟩:=get_some (xs:=xs) (i:=i) oM;obtain⟨q,uq⟩:=get_some (xs:=ys) (i:=i) oM;refine au ?_;refine fA oK oK (av ?_);refine bx (aR rfl rfl i rfl oM) (bx (fC rfl i jQ rfl) (av ?_));refine bx (aR rfl rfl i rfl oM) (bx (fC rfl i uq rfl) (bx (yR rfl rfl) (Gc ?_)));refine Gb (fun h2=>?_) fun h2=>?_
  ·
   have hz:decide (xs=ys)=false:=decide_eq_false fun e=>h2 (by rw[e]at jQ;rw[jQ]at uq;cases uq;rfl);refine al ?_;refine Gr fun w1 hw=>?_;exact Ge (hz.symm) hw
  refine al ?_;refine Gi ?_;exact aW (x:=(i)) (i+1) ⟨oF,fun j hj=>if e:j=i then(by subst e;rw[jQ,uq,h2])else az j oF⟩ oF sb (fun w hw=>ai.mem hw)
 obtain rfl:i=xs.length:=by omega
 have hz:decide (xs=ys)=true:=decide_eq_true (ap2 fun j=>by
  rcases apo j xs.length with hj|hj
  ·
   exact az j hj
  rw[apt hj,apt oM])
 refine al ?_;refine Gr fun w1 hw=>?_;exact⟨congrArg (fun b=>Ending.returned (Value.bool b)) (hz.symm),ai.mem hw⟩⟩
instance an0{f:c0}[hf:aV w0 L f]:bE Tryz.prog 99 w0 L [.agg (dy f)] (Sl (Sl UInt8)) (fun zz=> .tuple #[zz.sv.val, .bool (lA (cH f))]) (fun zz=>fz zz::L) (fun zz=>lA (cH f)=true->lx zz=kY {(cH f).aG.ak with off:=false}) (True):=⟨fun aA w hw=>Gk (fun zz=>[fz zz]) hw (by
 have hf:=hf.h w hw;have RD:cy w f:=⟨hf⟩;refine cw Tryz.func99 rfl Tryz.ntmps99 rfl ?_;refine Gc ?_;refine bH rfl fun b1=>aH ?_;refine ag (gE rfl) (bn fun b4=>al ?_);refine dR (cs':=aU (⟨f.aG.ak.ae,f.aG.ak.size,f.aG.ak.blocks,f.aG.ak.ops,false,f.aG.ak.bj⟩:Cp)) rfl rfl (by show 4<6;decide) (by first|rfl|exact Sv.one _) rfl (av ?_);refine aY rfl trivial fun jJ yn=>?_;have FZ:cH jJ.1=(dU {(cH f).aG.ak with off:=false}).1:=yn.1
 have g1:jJ.1.aG.gen.toNat=(dU {(cH f).aG.ak with off:=false}).1.aG.gen:=congrArg (fun z:FV=>z.aG.gen) FZ
 have g2:jJ.1.aG.last=(dU {(cH f).aG.ak with off:=false}).1.aG.last:=congrArg (fun z:FV=>z.aG.last) FZ
 have g3:jJ.1.aG.at_.xs=(dU {(cH f).aG.ak with off:=false}).1.aG.at_:=congrArg (fun z:FV=>z.aG.at_) FZ
 have g4:jJ.1.table.xs=(dU {(cH f).aG.ak with off:=false}).1.table:=congrArg FV.table FZ
 have hS:lA (cH f)=true↔(dU {(cH f).aG.ak with off:=false}).2=0/\f.aG.gen.toNat=jJ.1.aG.gen.toNat/\f.aG.last=jJ.1.aG.last/\f.aG.at_.xs=jJ.1.aG.at_.xs/\f.table.xs=jJ.1.table.xs:=by rw[ZS,g1,g2,g3,g4];rfl
 refine Gs ?_;refine ag (aI (v:= .agg (dy jJ.1)) rfl rfl) (ag (aI (v:=jJ.2.sv.val) rfl rfl) (ag (aI (v:= .int .i64 ((dU (cv (⟨f.aG.ak.ae,f.aG.ak.size,f.aG.ak.blocks,f.aG.ak.ops,false,f.aG.ak.bj⟩:Cp))).2)) rfl rfl) (bn fun b5=>dP ?_)));refine bo rfl rfl rfl (fun hg=>(Ry.yl (aK (o':=7) (aw hg rfl) rfl))) (av ?_);refine bo rfl rfl rfl (fun hg=>(Ry.yl (aK (o':=7) (aw hg rfl) rfl))) (aH ?_);refine bo rfl rfl rfl (fun hg=>(Ry.yl (aK (o':=8) (aw hg rfl) rfl))) (av ?_);refine bo rfl rfl rfl (fun hg=>(Ry.yl (aK (o':=8) (aw hg rfl) rfl))) (au ?_);refine Gb (fun h0=>?_) fun h0=>?_
 ·
  have hE:lA (cH f)=false:=by
   cases hk:lA (cH f)with
   |false=>rfl
   |true=>
    obtain⟨q1,q2,q3,q4,q5⟩:=hS.1 hk;rcases h0 with(h|h)|h
    ·
     exact absurd q1 h
    ·
     omega
    exact absurd q3 h
  refine au ?_;refine Gr fun w1 hw=>?_;exact⟨⟨Sv.none,[]⟩,by rw[hE];rfl,(fun h=>by rw[hE]at h;cases h),Ae (ai.mem hw:Mem w [] _)⟩
 refine Nk ?_;refine bo rfl rfl rfl (fun hg=>bP (cZ (aw hg rfl) (cZ (aw hg rfl) fu)) trivial) (bo rfl rfl rfl (fun hg=>(Ry.yl (iz (aw hg rfl)))) (av ?_));refine Gb (fun h1=>?_) fun h1=>?_
 ·
  have hE:lA (cH f)=false:=by
   cases hk:lA (cH f)with
   |false=>rfl
   |true=>
    obtain⟨q1,q2,q3,q4,q5⟩:=hS.1 hk;rcases h1 with h|h
    ·
     exact absurd q4 h
    exact absurd q5 h
  refine au ?_;refine Gr fun w1 hw=>?_;exact⟨⟨Sv.none,[]⟩,by rw[hE];rfl,(fun h=>by rw[hE]at h;cases h),Ae (ai.mem hw:Mem w [] _)⟩
 have hE:lA (cH f)=true:=hS.2 ⟨h0.1.1,by have:=h0.1.2;omega,h0.2,h1.1,h1.2⟩;refine aH ?_;refine Gr fun w1 hw=>?_;exact⟨jJ.2,by rw[hE],(fun _=>yn.2),ai.mem hw⟩)⟩
instance an1{c:Cp}[hc:aV w0 L c]:bE Tryz.prog 43 w0 L [.agg (aU c)] (c0) (fun zz=> .tuple #[.agg (dy zz), .int .i64 ((dU (cv c)).2)]) (fun zz=>fz zz::L) (fun zz=>cH zz=(dU (cv c)).1) (True):=⟨fun aA w hw=>Gk (fun zz=>[fz zz]) hw (by
 have hc:=hc.h w hw;have ka:cy w c:=⟨hc⟩;refine cw Tryz.func43 rfl Tryz.ntmps43 rfl ?_;refine Gc ?_;refine bH rfl fun b1=>bn fun b2=>al ?_;refine aY rfl trivial fun x9 Ak=>Gs ?_;refine ag (aI (v:= .agg (dy x9.1)) rfl rfl) (ag (aI (v:=x9.2.sv.val) rfl rfl) (ag (aI (v:= .int .i64 ((dU (cv c)).2)) rfl rfl) (bn fun b4=>fQ ?_)));refine Gr fun w1 hw=>?_;exact⟨x9.1,rfl,Ak.1,ai.mem hw⟩)⟩
theorem RE(v:cf)(w:World):(Instr.build 65 #[(0, .agg (cj v))]).run Tryz.prog w= .ok (.agg (dy ⟨v,⟨Sv.none,[]⟩⟩)) w:=by
 obtain⟨⟨a1,a2,⟨a3,a4⟩,a5,a6,⟨a7,a8⟩⟩,⟨a9,a10⟩,a11,a12⟩:=v;unfold dy cj;obtain⟨e3,b3,o3,l3,c3,p3⟩:=a3;obtain⟨e7,b7,o7,l7,c7,p7⟩:=a7;obtain⟨e9,b9,o9,l9,c9,p9⟩:=a9
 cases e3<;>cases e7<;>cases e9<;>kernel_rfl
theorem RF{w0 w:World}{L:List aj}{v:cf}(h:Mem w0 (fz v.ak::fz v.at_::L) w):Mem w0 (fz (⟨v,⟨Sv.none,[]⟩⟩:c0)::L) w:=
 Fm (f:=⟨v,⟨Sv.none,[]⟩⟩) ((Cm (a:=⟨Sv.none,[]⟩) (Mem.cO aq 19 h)).perm ((List.Perm.swap _ _ _).trans (List.Perm.cons _ (List.Perm.swap _ _ _))))
instance an2{c:Cp}[hc:aV w0 L c]:bE Tryz.prog 38 w0 L [.agg (aU c)] (c0) (fun zz=> .tuple #[.agg (dy zz), .int .i64 ((ui (cv c)).2)]) (fun zz=>fz zz::L) (fun zz=>cH zz=(ui (cv c)).1) (gn c):=⟨fun aA w hw=>Gk (fun zz=>[fz zz]) hw (by
 have hc:=hc.h w hw;have ka:cy w c:=⟨hc⟩;have kb:gn c:=aA;refine cw Tryz.func38 rfl Tryz.ntmps38 rfl ?_;refine Gc ?_;refine bH rfl fun b1=>bn fun b2=>aT ?_;refine Gb (fun h0=>?_) fun h0=>?_
 ·
  have hE:ui (cv c)=(⟨⟨cv c,[],0,0⟩,[]⟩,1):=by rw[ui,if_pos h0]
  refine av ?_;refine aY rfl (by assumption) fun yz abZ=>ag (cN (v:= .agg (cj (⟨yz,⟨Sv.none,[]⟩,0,0⟩:cf))) rfl (CM yz)) (ag (cN (v:= .agg (dy (⟨(⟨yz,⟨Sv.none,[]⟩,0,0⟩:cf),⟨Sv.none,[]⟩⟩:c0))) rfl (RE (⟨yz,⟨Sv.none,[]⟩,0,0⟩:cf))) (al ?_));refine Gr fun w1 hw=>?_;exact⟨(⟨(⟨yz,⟨Sv.none,[]⟩,0,0⟩:cf),⟨Sv.none,[]⟩⟩:c0),by rw[hE],by rw[hE];simp only[cH,vv,abZ];rfl,RF (v:=(⟨yz,⟨Sv.none,[]⟩,0,0⟩:cf)) (ai.mem (CN (ai.mem hw:Mem w [fz yz] _)))⟩
 have hE:ui (cv c)=(⟨(nL (cv c) (hH (cv c))).1,[]⟩,(nL (cv c) (hH (cv c))).2):=by rw[ui,if_neg h0]
 refine Gc ?_;refine rU [3,7,8,2007,4003] [[],[],[],[],[3],[3],[3],[],[3,7],[3,7,8]] [0,1,2,3,4,5,6,7,8,9] [an b1 (aU c) 59] [(7,jR Tryz.prog 63)] oK (fun _ hw=>ai.mem hw) oK oK (ar rfl (fW rfl) (ar rfl (fW rfl) (rR rfl (bP rfl trivial) ?_)));refine xu rfl rfl (by assumption) (fun e x w hw=>ai.mem hw) (Cert.one (i:=7) rfl rfl rfl jy (Cert.none rfl)) fun hU J1=>⟨fun _ hw=>ai.mem hw,?_⟩;refine ar rfl (bf rfl) (ar rfl (aI (v:= .agg (cj (⟨hU.1,hU.2.1,hU.2.2.1,hU.2.2.2⟩:cf))) rfl rfl) (ar rfl (aI (v:= .int .i64 ((nL (cv c) (hH (cv c))).2)) rfl rfl) (oP (m:=jR Tryz.prog 63) rfl rfl jy (Cert.none rfl) fun b4=>?_)));change Ln _ _ _ _ _ _ _ _ (ca _ _ (.pointer (some ⟨b4,0,none⟩))) (an b4 (cj kS) 63::_) _;refine c8 rfl (np rfl rfl ⟨fun _ hw=>ai.mem hw,?_⟩);refine ar rfl (gN rfl) (av ?_);refine ag (cN (v:= .agg (dy (⟨(⟨hU.1,hU.2.1,hU.2.2.1,hU.2.2.2⟩:cf),⟨Sv.none,[]⟩⟩:c0))) rfl (RE (⟨hU.1,hU.2.1,hU.2.2.1,hU.2.2.2⟩:cf))) (au ?_);refine Gr fun w1 hw=>?_;exact⟨(⟨(⟨hU.1,hU.2.1,hU.2.2.1,hU.2.2.2⟩:cf),⟨Sv.none,[]⟩⟩:c0),by rw[hE],by rw[hE];simp only[cH,vv,J1],RF (v:=(⟨hU.1,hU.2.1,hU.2.2.1,hU.2.2.2⟩:cf)) (ai.mem hw)⟩)⟩
theorem ab0{w0 w:World}{L:List aj}{f:c0}{a:Sl Rt}(h:Mem w0 (fz f::own aq 19 a.sv a.xs::L) w):Mem w0 (fz (⟨f.aG,a⟩:c0)::L) w:=by
 have h2:=(Cm (a:=a) (h.perm (List.Perm.swap _ _ _))).perm (List.Perm.swap _ _ _);refine Mem.freeze (es:=[fz f,fz a]) (⟨f.aG,a⟩:c0) ⟨(h2.sat (fz f) (by simp)).1,h2.sat (fz a) (by simp)⟩ (fun k hk=>?_) h2;rcases hk with hk|hk
 ·
  exact⟨fz f,by simp, .inl hk⟩
 exact⟨fz a,by simp,hk⟩
instance an3{f:c0}[hf:aV w0 L f]:bE Tryz.prog 100 w0 L [.agg (dy f)] (c0) (fun zz=> .agg (dy zz)) (fun zz=>fz zz::L) (fun zz=>cH zz=cH f) (gn f.aG.ak/\f.aG.at_.xs.length<=1000000/\f.table.xs.length<=1000000):=⟨fun aA w hw=>Gk (fun zz=>[fz zz]) hw (by
 have hf:=hf.h w hw;have RD:cy w f:=⟨hf⟩;obtain⟨eF,fU,eY⟩:=aA;refine cw Tryz.func100 rfl Tryz.ntmps100 rfl ?_;refine Gc ?_;refine bH rfl fun b1=>bn fun b2=>al ?_;refine ag (gE rfl) (aY rfl eF fun x6 q9=>av ?_);refine Bg (cs':=dy ({f with aG:=({f.aG with ak:=x6}:cf)}:c0)) rfl rfl (by show 0+6<=10;decide) rfl (au ?_)
 refine aY rfl fU fun AD abj=>av ?_;refine dR (cs':=dy ({f with aG:=({f.aG with ak:=x6,at_:=⟨AD,f.aG.at_.xs⟩}:cf)}:c0)) rfl rfl (by show 6<10;decide) (by first|rfl|exact Sv.one _) rfl (al ?_)
 refine aY rfl eY fun hU J1=>Gs ?_;refine dR (cs':=dy (⟨({f.aG with ak:=x6,at_:=⟨AD,f.aG.at_.xs⟩}:cf),⟨hU,f.table.xs⟩⟩:c0)) rfl rfl (by show 9<10;decide) (by first|rfl|exact Sv.one _) rfl (au ?_)
 refine Gr fun w1 hw=>?_;exact⟨(⟨({f.aG with ak:=x6,at_:=⟨AD,f.aG.at_.xs⟩}:cf),⟨hU,f.table.xs⟩⟩:c0),rfl,by simp only[cH,vv,q9],Qq (f:=(⟨({f.aG with ak:=x6,at_:=⟨AD,f.aG.at_.xs⟩}:cf),⟨hU,f.table.xs⟩⟩:c0)) (ai.mem hw)⟩)⟩
end Go.Proofs.YtkggjjnhnjjokaaGreatDoor
namespace Go.Kb
open Go.ay
theorem RG{t:List Rt}{ids room:Int}(h:kv t ids room=0): ¬mH ids room=0/\bl t=true/\ ¬mH ids room<t.length/\lq t ids room=pd t ids.toNat (room/20).toNat:=by
 unfold kv at h;split at h
 ·
  cases h
 rename_i hn;split at h
 ·
  cases h
 rename_i hm;have h1: ¬mH ids room=0:=fun e=>hn (.inr e);have h2:bl t=true:=by cases hr:bl t;exact absurd (.inl hr) hn;rfl
 exact⟨h1,h2,hm,(PS h1 h2 hm).2⟩
theorem ab1{t:List Rt}{ids room:Int}(h: ¬kv t ids room=0):lq t ids room=[]:=by rw[lq,if_neg h]
theorem ab2{t:List Rt}{ids room:Int}(h:kv t ids room=0):((lq t ids room).length:Int)=ids/\1<=ids/\ids<=64:=by
 obtain⟨h1,_,_,hV⟩:=RG h;have:=Je h1;rw[hV,vQ];omega
theorem ab3{t:List Rt}{ids room:Int}:(lq t ids room).length<=64/\ ∀x∈lq t ids room,x.length<=240:=by
 by_cases h:kv t ids room=0
 ·
  have h2:=ab2 h;obtain⟨h1,_,_,hV⟩:=RG h;have hm:=Je h1;refine⟨by omega,fun x hx=>?_⟩;rw[hV]at hx;obtain⟨j,_,rfl⟩:=aqr.1 hx;have:=PJ t (room/20).toNat j;omega
 rw[ab1 h];simp
end Go.Kb
namespace Go.Proofs.YtkggjjnhnjjokaaGreatDoor
open Go.ay Go.Kb Go.RowKit
variable {w0:World}{L:List aj}
instance an4{f:c0}{l:Sv}{ls:List Ch}[hf:aV w0 L f][hl:ct w0 L eQ 20 l ls]:bE Tryz.prog 39 w0 L [.agg (dy f),l.val] (c0) (fun zz=> .tuple #[.agg (dy zz), .int .i64 ((lB (cH f) ls).2)]) (fun zz=>fz zz::L) (fun zz=>cH zz=(lB (cH f) ls).1) (gn f.aG.ak/\f.aG.at_.xs.length<=1000000/\f.table.xs.length<=1000000):=⟨fun aA w hw=>Gk (fun zz=>[fz zz]) hw (by
 have hf:=hf.h w hw;have hl:=hl.h w hw;have RD:cy w f:=⟨hf⟩;have qg:Gv w l eQ 20 ls:=⟨hl⟩;have yJ:=aA;obtain⟨eF,fU,eY⟩:=aA;refine cz Tryz.func39 rfl Tryz.ntmps39 rfl ?_;refine Gc ?_;refine bH rfl fun b2=>bn fun b4=>al ?_;refine aY rfl trivial fun yA AH=>Gs ?_;refine ag (aI (v:=yA.sv.val) rfl rfl) (ag (aI (v:= .bool (lA (cH f))) rfl rfl) (aT ?_));refine Gb (fun h0=>?_) fun h0=>?_
 ·
  have hE:(lB (cH f) ls)=(cH f,1):=aab h0;refine av ?_;refine aY rfl yJ fun gA CF=>al ?_;refine Gr fun w1 hw=>?_;exact⟨gA,by rw[hE],by rw[hE];exact CF,ai.mem hw⟩
 have tv:lx yA=mK (cH f):=AH h0;refine au ?_;refine aY rfl eY fun iu pv=>Gs ?_;refine ag (aI (v:=iu.val) rfl rfl) (ag (aI (v:= .int .i64 (gR f.table.xs ls)) rfl rfl) (aT ?_));refine Gb (fun h1=>?_) fun h1=>?_
 ·
  have hE:(lB (cH f) ls)=(cH f,gR f.table.xs ls):=aac h0 h1;refine av ?_;refine aY rfl yJ fun aB we=>au ?_;refine Gr fun w1 hw=>?_;exact⟨aB,by rw[hE],by rw[hE];exact we,ai.mem hw⟩
 refine Gc ?_;refine iE [10] [[],[],[],[],[],[],[],[],[],[],[],[10],[10],[10],[10],[10]] [0,1,2,3,4,5,6,7,8,9,10,11,12,13,14,15] _ (fun _ hw=>hw) oK oK (ar rfl (bf rfl) (ar rfl (aK (o':=0) rfl rfl) (ar rfl (aK (o':=0) rfl rfl) (ar rfl (gE rfl) (rR rfl (bP rfl trivial) (ar rfl (aK (o':=0) rfl rfl) (ar rfl (aK (o':=0) rfl rfl) (ar rfl (aK (o':=1) rfl rfl) (ar rfl (bQ rfl) (rR rfl (bP rfl trivial) (c8 rfl (om rfl trivial fun rr RA=>⟨fun _ hw=>ai.mem hw,?_⟩))))))))))));refine ar rfl (bf rfl) (ar rfl (aI (v:=rr.sv.val) rfl rfl) (ar rfl (aI (v:= .int .i64 (kv (dH f.table.xs ls) (hH (cv f.aG.ak)) (fI f.aG.ak.size))) rfl rfl) (ar rfl (gN rfl) (ar rfl (gN rfl) (au ?_)))));refine Gb (fun h2=>?_) fun h2=>?_
 ·
  have hE:(lB (cH f) ls)=(cH f,(kv (dH f.table.xs ls) (hH (cv f.aG.ak)) (fI f.aG.ak.size))):=aad h0 h1 h2;refine av ?_;refine aY rfl yJ fun x51 ab4=>au ?_;refine Gr fun w1 hw=>?_;exact⟨x51,by rw[hE],by rw[hE];exact ab4,ai.mem hw⟩
 have sq:lx rr=l4 (cH f) ls:=RA;have Cr:(mK (cH f)).length<=64:=aaa _;have Ki:yA.xs.length<=1000000:=by rw[←tv,xe]at Cr;omega
 have FT:(l4 (cH f) ls).length<=64/\ ∀x∈l4 (cH f) ls,x.length<=240:=ab3;have ab5:rr.xs.length<=1000000:=by have:=FT.1;rw[←sq,xe]at this;omega
 have ab6: ∀x∈rr.xs,x.xs.length<=140737488355328:=fun x hx=>by
  have hm:x.xs∈lx rr:=aqb (f:=fun x:Sl UInt8=>x.xs) hx;rw[sq]at hm;have:=FT.2 _ hm;omega
 refine al ?_;refine aY rfl ⟨Ki,ab5,ab6⟩ fun qn RH=>aT ?_;refine Gb (fun h3=>?_) fun h3=>?_
 ·
  have CT:kW (mK (cH f)) (l4 (cH f) ls)=[]:=by rw[←tv,←sq,←RH,zg,apB.1 (by omega:qn.xs.length=0)];rfl
  have hE:(lB (cH f) ls)=(⟨(cH f).aG,(dH f.table.xs ls)⟩,0):=aae h0 h1 h2 CT;refine av ?_;refine aY rfl yJ fun F0 ab7=>au ?_;refine dR (cs':=dy (⟨F0.aG,⟨iu,(dH f.table.xs ls)⟩⟩:c0)) rfl rfl (by show 9<10;decide) (by first|rfl|exact Sv.one _) rfl (aH ?_);refine Gr fun w1 hw=>?_;exact⟨(⟨F0.aG,⟨iu,(dH f.table.xs ls)⟩⟩:c0),by rw[hE],by rw[hE,←ab7];rfl,ab0 (f:=F0) (ai.mem hw:Mem w [fz F0,own aq 19 iu (dH f.table.xs ls)] _)⟩
 have CT:kW (mK (cH f)) (l4 (cH f) ls)=qn.xs.map bt:=by rw[←tv,←sq,←RH];rfl
 have h3n: ¬kW (mK (cH f)) (l4 (cH f) ls)=[]:=by rw[CT];intro h;have:=congrArg List.length h;rw[apQ,apl]at this;omega
 have ab8:qn.xs.length<=1000000:=by have:=congrArg List.length CT;have hq:=Jh (mK (cH f)) (l4 (cH f) ls) (max (mK (cH f)).length (l4 (cH f) ls).length);rw[apQ]at this;have h7:=FT.1;rw[kW]at this;omega
 have uz:=aaf h0 h1 h2 h3n;rw[CT]at uz;refine av ?_;refine ag (gE rfl) (Gs ?_);refine aY rfl ⟨eF,fU,ab8⟩ fun ez JT=>Gs ?_;refine ag (aI (v:= .agg (cj (⟨ez.1,ez.2.1,ez.2.2.1,ez.2.2.2⟩:cf))) rfl rfl) (ag (aI (v:= .int .i64 ((iq (vv f.aG) (qn.xs.map bt)).2)) rfl rfl) (bn fun uo=>aT ?_));refine Gb (fun h4=>?_) fun h4=>?_
 ·
  have hE:(lB (cH f) ls)=(⟨(iq (vv f.aG) (qn.xs.map bt)).1,f.table.xs⟩,(iq (vv f.aG) (qn.xs.map bt)).2):=uz.trans (congrArg (fun z=>((⟨(iq (vv f.aG) (qn.xs.map bt)).1,z⟩:FV),(iq (vv f.aG) (qn.xs.map bt)).2)) (if_pos h4));refine Gi ?_;refine av ?_;refine aY rfl eY fun AI an5=>au ?_;refine ag (cN (v:= .agg (dy (⟨(⟨ez.1,ez.2.1,ez.2.2.1,ez.2.2.2⟩:cf),⟨AI,f.table.xs⟩⟩:c0))) rfl (Km (⟨ez.1,ez.2.1,ez.2.2.1,ez.2.2.2⟩:cf) ⟨AI,f.table.xs⟩)) (au ?_);refine Gr fun w1 hw=>?_;exact⟨(⟨(⟨ez.1,ez.2.1,ez.2.2.1,ez.2.2.2⟩:cf),⟨AI,f.table.xs⟩⟩:c0),by rw[hE],by rw[hE];simp only[cH,vv,JT],Fm (f:=(⟨(⟨ez.1,ez.2.1,ez.2.2.1,ez.2.2.2⟩:cf),⟨AI,f.table.xs⟩⟩:c0)) (ai.mem (Cm (a:=(⟨AI,f.table.xs⟩:Sl Rt)) (ai.mem hw:Mem w [own aq 19 AI f.table.xs,fz ez.1,fz ez.2.1] _)))⟩
 have hE:(lB (cH f) ls)=(⟨(iq (vv f.aG) (qn.xs.map bt)).1,(dH f.table.xs ls)⟩,(iq (vv f.aG) (qn.xs.map bt)).2):=uz.trans (congrArg (fun z=>((⟨(iq (vv f.aG) (qn.xs.map bt)).1,z⟩:FV),(iq (vv f.aG) (qn.xs.map bt)).2)) (if_neg (fun h=>h h4)));refine al ?_;refine ag (cN (v:= .agg (dy (⟨(⟨ez.1,ez.2.1,ez.2.2.1,ez.2.2.2⟩:cf),⟨iu,(dH f.table.xs ls)⟩⟩:c0))) rfl (Km (⟨ez.1,ez.2.1,ez.2.2.1,ez.2.2.2⟩:cf) ⟨iu,(dH f.table.xs ls)⟩)) (au ?_);refine Gr fun w1 hw=>?_;exact⟨(⟨(⟨ez.1,ez.2.1,ez.2.2.1,ez.2.2.2⟩:cf),⟨iu,(dH f.table.xs ls)⟩⟩:c0),by rw[hE],by rw[hE];simp only[cH,vv,JT],Fm (f:=(⟨(⟨ez.1,ez.2.1,ez.2.2.1,ez.2.2.2⟩:cf),⟨iu,(dH f.table.xs ls)⟩⟩:c0)) (ai.mem (Cm (a:=(⟨iu,(dH f.table.xs ls)⟩:Sl Rt)) (ai.mem hw:Mem w [own aq 19 iu (dH f.table.xs ls),fz ez.1,fz ez.2.1] _)))⟩)⟩
theorem ab9(n s:Int)(b:Sv)(xs:List Bk)(w:World):(Instr.build 59 #[(0, .int .i64 n),(1, .int .i64 s),(2,b.val)]).run Tryz.prog w= .ok (.agg (aU ⟨n,s,⟨b,xs⟩,0,false,⟨Sv.none,[]⟩⟩)) w:=by
 unfold aU;obtain⟨e,b,o,l,c,p⟩:=b
 cases e<;>kernel_rfl
instance an6{b:Int}{n:Int}{s:Int}:bE Tryz.prog 37 w0 L [.int .i64 b, .int .i64 n, .int .i64 s] (Cp) (fun zz=> .tuple #[.agg (aU zz), .int .i64 ((tP b n s).2)]) (fun zz=>fz zz::L) (fun zz=>cv zz=(tP b n s).1) (True):=⟨fun aA w hw=>Gk (fun zz=>[fz zz]) hw (by
 refine pS Tryz.func37 rfl Tryz.ntmps37 rfl ?_;refine Gc ?_;refine bn fun b6=>dP ?_;refine Gb (fun h0=>?_) fun h0=>?_
 ·
  have hN:tP b n s=(⟨0,0,[],0,false,[]⟩,1):=by rw[tP,if_neg (by rw[h0];simp)]
  refine Gc ?_;refine ag (cN (v:= .agg (aU fY)) rfl (fun w=>by kernel_rfl)) (al ?_);refine Gr fun w1 hw=>?_;exact⟨fY,by rw[hN],by rw[hN];rfl,Ow (d:=fY) rfl (show Mem w [own bS 4 Sv.none [],aj.all []] _ from ai.mem (Mem.xx (Mem.cO bS 4 (ai.mem hw:Mem w [] _))))⟩
 have hO:=kQ.1 h0;have hN:tP b n s=(⟨n,s,List.replicate b.toNat (⟨List.replicate n.toNat (gX s),0,0,false⟩:BV),0,false,[]⟩,0):=by rw[tP,if_pos h0]
 refine au ?_;refine rH (enc:=bS) (n:=b.toNat) (cap:=b.toNat) oR rfl rfl rfl oM oM oM oM oM fun hY=>ag (cN (v:= .agg (aU (⟨n,s,⟨⟨false,hY,0,b.toNat,b.toNat,none⟩,[]⟩,0,false,⟨Sv.none,[]⟩⟩:Cp))) rfl (ab9 n s ⟨false,hY,0,b.toNat,b.toNat,none⟩ [])) (bn fun b8=>aH ?_);refine bA (X:=Nat×List Bk) (fun zz=>[(23, .int .i64 (zz.1:Nat)),(8, .pointer (some ⟨b8,0,none⟩)),(1, .int .i64 n),(2, .int .i64 s),(6, .pointer (some ⟨b6,0,none⟩)),(22, .int .i64 b)]) (fun zz=>[own bS 4 ⟨false,hY,0,b.toNat,b.toNat,none⟩ zz.2,aj.all ((zz.2.take zz.1).map fun b:Bk=>fz b.ae),an b8 (aU (⟨n,s,⟨⟨false,hY,0,b.toNat,b.toNat,none⟩,[]⟩,0,false,⟨Sv.none,[]⟩⟩:Cp)) 59,an b6 (aU fY) 59]) (fun zz=>zz.1<=b.toNat/\zz.2.length=b.toNat/\(zz.2.take zz.1).map bv=List.replicate zz.1 (⟨List.replicate n.toNat (gX s),0,0,false⟩:BV)/\ ∀j,zz.1<=j->j<b.toNat->zz.2[j]? =Option.some oR) (fun zz=>b.toNat -zz.1) (0,List.replicate b.toNat oR) ⟨Nat.zero_le _,by simp,by simp,fun j _ hj=>by simp[hj]⟩ sb (fun w hw=>by
  simp only[apK,aqu];exact ai.mem (Mem.xx hw)) ?_
 rintro⟨i,zs⟩ ⟨aQ,az,aX,bX⟩;dsimp only;simp only at aQ az aX bX;refine al ?_;refine Gb (fun h1=>?_) fun h1=>?_
 ·
  obtain⟨z,hz⟩:=get_some (xs:=zs) (i:=i) oM;obtain rfl:z=oR:=api (hz.symm.trans (bX i (apm _) oM));have aca:=EP (b:=hY) (n:=b.toNat) oM;refine au ?_;refine iE [4,7] [[],[],[],[],[],[4],[4],[4]] [0,1,2,3,4,5,6,7] [an b8 (aU (⟨n,s,⟨⟨false,hY,0,b.toNat,b.toNat,none⟩,[]⟩,0,false,⟨Sv.none,[]⟩⟩:Cp)) 59] (fun _ hw=>ai.mem hw) oK oK (ar rfl (aK (o':=2) rfl rfl) (ar rfl (bQ rfl) (ar rfl (bf rfl) (ar rfl (bf rfl) (c8 rfl (Nb (enc:=bU (τ:=UInt8)) (n:=n.toNat) (cap:=n.toNat) (⟨Sv.none,[]⟩:Sl UInt8) rfl rfl rfl oM oM oM oM oM fun fF=>⟨fun _ hw=>ai.mem hw,?_⟩))))));obtain⟨e31,an7⟩:=get_some (xs:=zs) (i:=i) oM;refine ar rfl (lg (s:=⟨false,hY,0,b.toNat,b.toNat,none⟩) (i:=i) rfl rfl rfl aca (by simp only;omega)) (ar rfl (aK rfl rfl) ?_);refine c8 rfl (vo (s:=⟨false,hY,0,b.toNat,b.toNat,none⟩) (n:=1) (k:=i) (j:=0) (a:=oR) (a':=⟨⟨⟨false,fF,0,n.toNat,n.toNat,none⟩,[]⟩,0,0,false⟩) (xs:=zs) (enc:=bS) (c:=4) (v:=(⟨false,fF,0,n.toNat,n.toNat,none⟩:Sv).val) oK rfl rfl rfl hz (by rw[Sv.iD];simp[Sv.one]) (by rw[Sv.iD];rfl) (by decide) (by rw[Sv.iD];rfl) ⟨fun _ hw=>ai.mem hw,?_⟩);refine iN ?_;have RI:(zs.set i ⟨⟨⟨false,fF,0,n.toNat,n.toNat,none⟩,[]⟩,0,0,false⟩)[i]? =Option.some (⟨⟨⟨false,fF,0,n.toNat,n.toNat,none⟩,[]⟩,0,0,false⟩:Bk):=apJ oM;have yb:(zs.set i ⟨⟨⟨false,fF,0,n.toNat,n.toNat,none⟩,[]⟩,0,0,false⟩).length=b.toNat:=by rw[ap8];exact az
  refine Gi ?_;refine al ?_;refine bA (X:=Nat×List (Sl UInt8)) (fun zz=>[(34, .int .i64 (zz.1:Nat)),(8, .pointer (some ⟨b8,0,none⟩)),(1, .int .i64 n),(2, .int .i64 s),(6, .pointer (some ⟨b6,0,none⟩)),(9, .int .i64 (i:Nat)),(22, .int .i64 b),(23, .int .i64 (i:Nat)),(33, .int .i64 n)]) (fun zz=>[own (bU (τ:=UInt8)) 1 ⟨false,fF,0,n.toNat,n.toNat,none⟩ zz.2,aj.all ((zz.2.take zz.1).map fun b:Sl UInt8=>fz b),own bS 4 ⟨false,hY,0,b.toNat,b.toNat,none⟩ (zs.set i ⟨⟨⟨false,fF,0,n.toNat,n.toNat,none⟩,[]⟩,0,0,false⟩),aj.all ((zs.take i).map fun b:Bk=>fz b.ae),an b8 (aU (⟨n,s,⟨⟨false,hY,0,b.toNat,b.toNat,none⟩,[]⟩,0,false,⟨Sv.none,[]⟩⟩:Cp)) 59,an b6 (aU fY) 59]) (fun zz=>zz.1<=n.toNat/\zz.2.length=n.toNat/\aL (zz.2.take zz.1)=List.replicate zz.1 (gX s)) (fun zz=>n.toNat -zz.1) (0,List.replicate n.toNat ⟨Sv.none,[]⟩) ⟨Nat.zero_le _,by simp,by simp[aL]⟩ sb (fun w hw=>by
   simp only[apK,aqu];exact ai.mem (Mem.xx hw)) ?_
  rintro⟨j,qs⟩ ⟨hM,fb,fV⟩;dsimp only;simp only at hM fb fV;refine al ?_;refine Gb (fun h2=>?_) fun h2=>?_
  ·
   obtain⟨y,hy⟩:=get_some (xs:=qs) (i:=j) oM;have acb:=EP (b:=fF) (n:=n.toNat) oM;refine au ?_;refine iE [8,10] [[],[],[],[],[],[],[],[],[],[8],[8]] [0,1,2,3,4,5,6,7,8,9,10] [an b8 (aU (⟨n,s,⟨⟨false,hY,0,b.toNat,b.toNat,none⟩,[]⟩,0,false,⟨Sv.none,[]⟩⟩:Cp)) 59,own bS 4 ⟨false,hY,0,b.toNat,b.toNat,none⟩ (zs.set i ⟨⟨⟨false,fF,0,n.toNat,n.toNat,none⟩,[]⟩,0,0,false⟩)] (fun _ hw=>ai.mem hw) oK oK (ar rfl (aK (o':=2) rfl rfl) (ar rfl (bQ rfl) (ar rfl (bf rfl) ?_)));obtain⟨e40,abW⟩:=get_some (xs:=(zs.set i ⟨⟨⟨false,fF,0,n.toNat,n.toNat,none⟩,[]⟩,0,0,false⟩)) (i:=i) oM;refine ar rfl (aR (s:=⟨false,hY,0,b.toNat,b.toNat,none⟩) (xs:=(zs.set i ⟨⟨⟨false,fF,0,n.toNat,n.toNat,none⟩,[]⟩,0,0,false⟩)) rfl rfl i rfl oM) (ar rfl (aK rfl rfl) (ar rfl (Ry.to (v':=(⟨false,fF,0,n.toNat,n.toNat,none⟩:Sv).val) (bC (s:=⟨false,hY,0,b.toNat,b.toNat,none⟩) (j:=0) rfl i RI rfl (by decide)) rfl) (ar rfl (bf rfl) (ar rfl (bf rfl) (c8 rfl (Nb (enc:=aP) (n:=s.toNat) (cap:=s.toNat) 0 rfl rfl rfl oM oM oM oM oM fun qo=>⟨fun _ hw=>ai.mem hw,?_⟩))))));obtain⟨e46,an8⟩:=get_some (xs:=qs) (i:=j) oM;refine ar rfl (lg (s:=⟨false,fF,0,n.toNat,n.toNat,none⟩) (i:=j) rfl rfl rfl acb (by simp only;omega)) (c8 rfl (VM (s:=⟨false,fF,0,n.toNat,n.toNat,none⟩) (xs:=qs) (k:=j) (a:=y) (⟨⟨false,qo,0,s.toNat,s.toNat,none⟩,gX s⟩:Sl UInt8) oK rfl rfl oM hy ⟨fun _ hw=>ai.mem hw,?_⟩));refine au ?_;obtain⟨e50,an9⟩:=get_some (xs:=(zs.set i ⟨⟨⟨false,fF,0,n.toNat,n.toNat,none⟩,[]⟩,0,0,false⟩)) (i:=i) oM;refine ag (aR (s:=⟨false,hY,0,b.toNat,b.toNat,none⟩) (xs:=(zs.set i ⟨⟨⟨false,fF,0,n.toNat,n.toNat,none⟩,[]⟩,0,0,false⟩)) rfl rfl i rfl oM) (ag (aK rfl rfl) (ag (Ry.to (v':=(⟨false,fF,0,n.toNat,n.toNat,none⟩:Sv).val) (bC (s:=⟨false,hY,0,b.toNat,b.toNat,none⟩) (j:=0) rfl i RI rfl (by decide)) rfl) (Gs ?_)));refine ag (aR rfl rfl j rfl (by rw[ap8];omega)) (ag (Ry.to (v':= .slice (some ⟨(⟨false,qo,0,s.toNat,s.toNat,none⟩:Sv).b,(⟨false,qo,0,s.toNat,s.toNat,none⟩:Sv).o+0,none⟩) s.toNat s.toNat) (bC (s:=⟨false,fF,0,n.toNat,n.toNat,none⟩) (xs:=qs.set j (⟨⟨false,qo,0,s.toNat,s.toNat,none⟩,gX s⟩:Sl UInt8)) (j:=0) rfl j (apJ oM) rfl (by decide)) rfl) ?_);refine aY (hc:=aaq (rm:=⟨false,qo,0,s.toNat,s.toNat,none⟩) (k:=0) (n:=s.toNat) (cap:=s.toNat) (xs:=List.replicate s.toNat 0)) rfl ⟨by simp,by omega⟩ fun FP J2=>al ?_;refine Gi ?_;exact aW (x:=(j,qs)) (j+1,qs.set j (⟨⟨false,qo,0,s.toNat,s.toNat,none⟩,gX s⟩:Sl UInt8)) ⟨oF,by rw[ap8];exact fb,by rw[aL,EO hy,←aL,fV,List.replicate_succ']⟩ (by simp only;omega) sb (fun w hw=>by
    have h1:=Iv (a:=(⟨⟨false,qo,0,s.toNat,s.toNat,none⟩,gX s⟩:Sl UInt8)) (by
     simp only[apK,apV,apP,List.drop_replicate,aqM,List.replicate_zero,apZ]at hw;exact(ai.mem hw:Mem _ (own aP 1 ⟨false,qo,0,s.toNat,s.toNat,none⟩ (List.replicate s.toNat 255)::[own (bU (τ:=UInt8)) 1 ⟨false,fF,0,n.toNat,n.toNat,none⟩ (qs.set j (⟨⟨false,qo,0,s.toNat,s.toNat,none⟩,gX s⟩:Sl UInt8)),aj.all ((qs.take j).map fun b:Sl UInt8=>fz b),own bS 4 ⟨false,hY,0,b.toNat,b.toNat,none⟩ (zs.set i ⟨⟨⟨false,fF,0,n.toNat,n.toNat,none⟩,[]⟩,0,0,false⟩),aj.all ((zs.take i).map fun b:Bk=>fz b.ae),an b8 (aU (⟨n,s,⟨⟨false,hY,0,b.toNat,b.toNat,none⟩,[]⟩,0,false,⟨Sv.none,[]⟩⟩:Cp)) 59,an b6 (aU fY) 59]) _))
    have h3:=Mem.zC (ai.mem h1:Mem _ (fz (⟨⟨false,qo,0,s.toNat,s.toNat,none⟩,gX s⟩:Sl UInt8)::aj.all ((qs.take j).map fun b:Sl UInt8=>fz b)::[own (bU (τ:=UInt8)) 1 ⟨false,fF,0,n.toNat,n.toNat,none⟩ (qs.set j (⟨⟨false,qo,0,s.toNat,s.toNat,none⟩,gX s⟩:Sl UInt8)),own bS 4 ⟨false,hY,0,b.toNat,b.toNat,none⟩ (zs.set i ⟨⟨⟨false,fF,0,n.toNat,n.toNat,none⟩,[]⟩,0,0,false⟩),aj.all ((zs.take i).map fun b:Bk=>fz b.ae),an b8 (aU (⟨n,s,⟨⟨false,hY,0,b.toNat,b.toNat,none⟩,[]⟩,0,false,⟨Sv.none,[]⟩⟩:Cp)) 59,an b6 (aU fY) 59]) _);rw[ID (z':=(⟨⟨false,qo,0,s.toNat,s.toNat,none⟩,gX s⟩:Sl UInt8)) hy]at h3;exact ai.mem h3)
  have uV:j=n.toNat:=by omega
  have gU:j=qs.length:=by omega
  rw[apy oM]at fV;refine al ?_;refine Gi ?_;exact aW (x:=(i,zs)) (i+1,zs.set i (⟨⟨⟨false,fF,0,n.toNat,n.toNat,none⟩,qs⟩,0,0,false⟩:Bk)) ⟨oF,by rw[ap8];exact az,by rw[EO hz,aX,List.replicate_succ',show bv (⟨⟨⟨false,fF,0,n.toNat,n.toNat,none⟩,qs⟩,0,0,false⟩:Bk)=(⟨List.replicate n.toNat (gX s),0,0,false⟩:BV) by rw[bv,fV,uV]],fun k hk ni=>by rw[aqG oF];exact bX k oF ni⟩ (by simp only;omega) sb (fun w hw=>by
   rw[apy oM]at hw;have h1:=IC (ai.mem hw:Mem _ (own (bU (τ:=UInt8)) 1 ⟨false,fF,0,n.toNat,n.toNat,none⟩ qs::aj.all (qs.map fun b:Sl UInt8=>fz b)::[own bS 4 ⟨false,hY,0,b.toNat,b.toNat,none⟩ (zs.set i ⟨⟨⟨false,fF,0,n.toNat,n.toNat,none⟩,[]⟩,0,0,false⟩),aj.all ((zs.take i).map fun b:Bk=>fz b.ae),an b8 (aU (⟨n,s,⟨⟨false,hY,0,b.toNat,b.toNat,none⟩,[]⟩,0,false,⟨Sv.none,[]⟩⟩:Cp)) 59,an b6 (aU fY) 59]) _);have h2:=Iw (ys:=zs.set i (⟨⟨⟨false,fF,0,n.toNat,n.toNat,none⟩,qs⟩,0,0,false⟩:Bk)) (by rw[arx,arx];rfl) (ai.mem h1:Mem _ (own bS 4 ⟨false,hY,0,b.toNat,b.toNat,none⟩ (zs.set i ⟨⟨⟨false,fF,0,n.toNat,n.toNat,none⟩,[]⟩,0,0,false⟩)::[fz (⟨⟨false,fF,0,n.toNat,n.toNat,none⟩,qs⟩:Sl (Sl UInt8)),aj.all ((zs.take i).map fun b:Bk=>fz b.ae),an b8 (aU (⟨n,s,⟨⟨false,hY,0,b.toNat,b.toNat,none⟩,[]⟩,0,false,⟨Sv.none,[]⟩⟩:Cp)) 59,an b6 (aU fY) 59]) _);have h3:=Mem.zC (ai.mem h2:Mem _ (fz (⟨⟨false,fF,0,n.toNat,n.toNat,none⟩,qs⟩:Sl (Sl UInt8))::aj.all ((zs.take i).map fun b:Bk=>fz b.ae)::[own bS 4 ⟨false,hY,0,b.toNat,b.toNat,none⟩ (zs.set i (⟨⟨⟨false,fF,0,n.toNat,n.toNat,none⟩,qs⟩,0,0,false⟩:Bk)),an b8 (aU (⟨n,s,⟨⟨false,hY,0,b.toNat,b.toNat,none⟩,[]⟩,0,false,⟨Sv.none,[]⟩⟩:Cp)) 59,an b6 (aU fY) 59]) _);rw[Ox (z':=(⟨⟨⟨false,fF,0,n.toNat,n.toNat,none⟩,qs⟩,0,0,false⟩:Bk)) hz]at h3;exact ai.mem h3)
 obtain rfl:i=zs.length:=by omega
 rw[apI]at aX;refine aH ?_;refine Gr fun w1 hw=>?_;exact⟨⟨n,s,⟨⟨false,hY,0,b.toNat,b.toNat,none⟩,zs⟩,0,false,⟨Sv.none,[]⟩⟩,by rw[hN];rfl,by rw[hN];simp only[cv,ij];rw[aX,az],Ow rfl (by rw[apI]at hw;exact ai.mem hw)⟩)⟩
theorem aoa(w:World)(c:UInt8):Calls Tryz.prog 211 #[.int .u8 (c.toNat:Nat)] w fun e w'=>e= .returned (.int .i64 (qJ c))/\Mem w [] w':=by
 refine cw Tryz.func211 rfl Tryz.ntmps211 rfl ?_;refine nq ?_;refine Gb (fun h0=>?_) fun h0=>?_
 ·
  refine av ?_;refine ag (DS (p:=c.toNat) (q:=48) rfl rfl rfl rfl oM) (ag (iA rfl (by simp only[nb];omega)) (av ?_));refine Gr fun w1 hw=>?_;exact Gf ((by simp only[qJ,kj];rw[if_pos oM])) hw
 refine dP ?_;refine Gb (fun h1=>?_) fun h1=>?_
 ·
  refine av ?_;refine ag (DS (p:=c.toNat) (q:=97) rfl rfl rfl rfl oM) (ag (iA rfl (by simp only[nb];omega)) (al ?_));refine Gr fun w1 hw=>?_;exact Gf ((by simp only[qJ,kj];rw[if_neg oM,if_pos oM];simp only[];omega)) hw
 refine al ?_;refine Gr fun w1 hw=>?_;exact Gf ((by simp only[qJ,kj];rw[if_neg oM,if_neg oM])) hw
theorem aob(w:World)(s:List UInt8)(top:Nat)(aA:top<=65535):Calls Tryz.prog 210 #[.string ⟨s.toArray⟩, .int .i64 (top:Nat)] w fun e w'=>e= .returned (.int .i64 (BA s top))/\Mem w [] w':=by
 refine cz Tryz.func210 rfl Tryz.ntmps210 rfl ?_;refine au ?_;refine ag (qF (s:=s) Tryz.underlying9 rfl) (al ?_);refine bo rfl rfl rfl (fun hg=>(Ry.yl (qF (s:=s) Tryz.underlying9 (aw hg rfl)))) (au ?_);refine bo rfl rfl rfl (fun hg=>(Ry.yl (qF (s:=s) Tryz.underlying9 (aw hg rfl)))) (Gg ?_);refine bo rfl rfl rfl (fun hg=>(Ry.yl (bf (aw hg rfl)))) (kK rfl rfl rfl (fun hg=>(Ry.yl (bf rfl))) (kK rfl rfl rfl (fun hg=>(Ry.yl (tq (s:=s) 0 Tryz.underlying9 (aw hg rfl) rfl rfl (by simp only[Z0,Z1,Z2,Z3,Z4,Z5,Z6,Z7,Z8,Z9]at hg;omega)))) (kK rfl rfl rfl (fun hg=>(Ry.yl (du (aw hg rfl) rfl rfl))) (bo rfl rfl rfl (fun hg=>(Ry.yl (wS (aw hg rfl) (ti hg rfl) rfl))) (av ?_)))));refine Gb (fun h0=>?_) fun h0=>?_
 ·
  refine al ?_;refine Gr fun w1 hw=>?_;exact Gf ((by rw[BA,Ve aA oM])) hw
 have hx:s.length<=5/\0<s.length:=by omega
 refine aH ?_;refine bA (X:=Nat) (fun zz=>[(6, .int .i64 (zz:Nat)),(5, .int .i64 ((val (s.take zz)):Nat)),(0, .string ⟨s.toArray⟩),(1, .int .i64 (top:Nat))]) (fun zz=>[]) (fun zz=>zz<=s.length/\(s.take zz).all kM=true) (fun zz=>s.length -zz) 0 ⟨Nat.zero_le _,rfl⟩ (Sub.cons rfl (Sub.cons (look_eq rfl rfl) sb)) (fun w hw=>ai.mem hw) ?_;rintro i ⟨hi,hd⟩;have hv:=Vc (s:=s) (i:=i) oM hi hd;refine al ?_;refine ag (qF (s:=s) Tryz.underlying9 rfl) (av ?_);refine Gb (fun h1=>?_) fun h1=>?_
 ·
  refine al ?_;refine ag (tq (s:=s) i Tryz.underlying9 rfl rfl rfl oM) (au ?_);refine bo rfl rfl rfl (fun hg=>(Ry.yl (tq (s:=s) i Tryz.underlying9 (aw hg rfl) (aw hg rfl) rfl (by simp only[Z0,Z1,Z2,Z3,Z4,Z5,Z6,Z7,Z8,Z9]at hg;omega)))) (al ?_);refine Gb (fun h2=>?_) fun h2=>?_
  ·
   refine al ?_;refine Gr fun w1 hw=>?_;exact Gf ((by rw[BA,MQ (i:=i) oM oM])) hw
  refine av ?_;refine ag (mX rfl rfl oM) (av ?_);refine ag (tq (s:=s) i Tryz.underlying9 rfl rfl rfl oM) (ag (DS (p:=(s.getD i 0).toNat) (q:=48) rfl rfl rfl rfl oM) (ag (iA rfl (by simp only[nb];omega)) (aT ?_)));refine Gi ?_;exact aW (x:=(i)) (i+1) ⟨oF,MP oF hd oF⟩ oF (Sub.cons rfl (Sub.cons (look_eq rfl (by rw[D1 oM,aqt 10];rfl)) sb)) (fun w hw=>ai.mem hw)
 refine aH ?_;refine Gb (fun h3=>?_) fun h3=>?_
 ·
  refine al ?_;refine Gr fun w1 hw=>?_;exact Gf ((by rw[BA,MR (i:=i) oM])) hw
 refine au ?_;refine Gr fun w1 hw=>?_;exact Gf ((by have e:s.take i=s:=apy oM;rw[e]at hd;rw[BA,MS (arn.1 hx.2) oM hd (by rw[←e];omega),e])) hw
instance aoc{s:List UInt8}{top:Nat}:bY Tryz.prog 117 w0 L [.string ⟨s.toArray⟩, .int .i64 (top:Nat)] (.tuple #[.int .i64 (((cJ s top).getD 0):Nat), .bool ((cJ s top).isSome)]) (top<=65535/\s.length<=1000000000):=⟨fun aA w hw=>by
 refine cz Tryz.func117 rfl Tryz.ntmps117 rfl ?_;refine aH ?_;refine ag (Md rfl rfl) (av ?_);refine bo rfl rfl rfl (fun hg=>(Ry.yl (qF (s:=s) Tryz.underlying9 (aw hg rfl)))) (Gg ?_);refine bo rfl rfl rfl (fun hg=>(Ry.yl (bf (aw hg rfl)))) (kK rfl rfl rfl (fun hg=>(Ry.yl (bf rfl))) (kK rfl rfl rfl (fun hg=>(Ry.yl (tq (s:=s) 0 Tryz.underlying9 (aw hg rfl) rfl rfl (by simp only[Z0,Z1,Z2,Z3,Z4,Z5,Z6,Z7,Z8,Z9]at hg;omega)))) (kK rfl rfl rfl (fun hg=>(Ry.yl (du (aw hg rfl) rfl rfl))) (bo rfl rfl rfl (fun hg=>(Ry.yl (wS (aw hg rfl) (ti hg rfl) rfl))) (av ?_)))));refine Gb (fun h0=>?_) fun h0=>?_
 ·
  refine au ?_;refine Gr fun w1 hw=>?_;exact⟨(by rw[Vf (h0.imp id fun h=>⟨by omega,by omega⟩)];rfl),ai.mem hw⟩
 refine au ?_;refine ag (qF (s:=s) Tryz.underlying9 rfl) (av ?_);refine bA (X:=Nat) (fun zz=>[(22, .int .i64 (zz:Nat)),(6, .int .i64 ((val (s.take zz)):Nat)),(0, .string ⟨s.toArray⟩),(1, .int .i64 (top:Nat)),(21, .int .i64 (s.length:Nat))]) (fun zz=>[]) (fun zz=>zz<=s.length/\(s.take zz).all kM=true/\val (s.take zz)<=top) (fun zz=>s.length -zz) 0 ⟨Nat.zero_le _,rfl,apE _⟩ (Sub.cons rfl (Sub.cons (look_eq rfl rfl) sb)) (fun w hw=>ai.mem hw) ?_;rintro i ⟨hi,hd,hv⟩;refine al ?_;refine Gb (fun h1=>?_) fun h1=>?_
 ·
  refine aT ?_;refine ag (tq (s:=s) i Tryz.underlying9 rfl rfl rfl oM) (au ?_);refine bo rfl rfl rfl (fun hg=>(Ry.yl (tq (s:=s) i Tryz.underlying9 (aw hg rfl) (aw hg rfl) rfl (by simp only[Z0,Z1,Z2,Z3,Z4,Z5,Z6,Z7,Z8,Z9]at hg;omega)))) (al ?_);refine Gb (fun h2=>?_) fun h2=>?_
  ·
   refine au ?_;refine Gr fun w1 hw=>?_;exact⟨(by rw[MQ (i:=i) oM oM];rfl),ai.mem hw⟩
  refine av ?_;refine ag (mX rfl rfl oM) (av ?_);refine ag (tq (s:=s) i Tryz.underlying9 rfl rfl rfl oM) (ag (DS (p:=(s.getD i 0).toNat) (q:=48) rfl rfl rfl rfl oM) (ag (iA rfl (by simp only[nb];omega)) (cx ?_)));refine Gb (fun h3=>?_) fun h3=>?_
  ·
   refine au ?_;refine Gr fun w1 hw=>?_;exact⟨(by rw[MR (i:=i+1) (by rw[D1 oM];omega)];rfl),ai.mem hw⟩
  refine al ?_;refine Gi ?_;exact aW (x:=(i)) (i+1) ⟨oF,MP oF hd oF,by rw[D1 oF];omega⟩ oF (Sub.cons rfl (Sub.cons (look_eq rfl (by rw[D1 oM];rfl)) sb)) (fun w hw=>ai.mem hw)
 refine aH ?_;refine Gr fun w1 hw=>?_;exact⟨(by have e:s.take i=s:=apy oM;rw[e]at hd hv;rw[MS h0.1 (by have:=h0.2;omega) hd hv,e];rfl),ai.mem hw⟩⟩
instance:dz Tryz.prog 5 (.int .u8 0):=⟨by kernel_rfl⟩
end Go.Proofs.YtkggjjnhnjjokaaGreatDoor
namespace Go.Kb
open Go.ay
variable {k kk:Key} {i j n v:Nat} {s:bZ} {c:UInt8}
def uC(k:Key)(i v:Nat):Key:=n7 fun j=>if j=i then v else bm k j
theorem Kp(k:Key)(i:Nat)(hv:v<256)(hj:j<16):bm (uC k i v) j=if j=i then v else bm k j:=by
 rw[uC,tu _ _ hj];have:=jv k j;split<;>omega
theorem RJ(k:Key)(i:Nat)(hi:i<16)(hv:v<256):(bR k).setIfInBounds i (.int .u8 ((v:Nat):Int))=bR (uC k i v):=by
 refine Hw (by simp[fD]) fun j hj=>?_;rw[Kp k i hv hj,aqa]
 by_cases e:i=j
 ·
  subst e;simp[fD,hi]
 rw[if_neg e,if_neg (fun h=>e h.symm)];exact ki k j hj
theorem RL:bm (0#128) j=0:=by simp[bm]
def AJ(ps:List bZ)(i:Nat)(k:Key):Prop:=(∀j,j<16->bm k j=if j<i then(cJ (ps.getD j []) 255).getD 0 else 0)/\ ∀j,j<i->(cJ (ps.getD j []) 255).isSome=true
theorem acd(ps:List bZ):AJ ps 0 (0#128):=⟨fun j _=>by rw[RL,if_neg (by omega)],fun j h=>absurd h (Nat.not_lt_zero j)⟩
theorem Kq(s:bZ):(cJ s 255).getD 0<256:=by
 cases e:cJ s 255 with
 |none=>simp
 |some n=>have:=(kN.1 e).2;simp;omega
theorem getD_at{α:Type}{xs:List α}{i:Nat}{x d:α}(h:xs[i]? =some x):xs.getD i d=x:=by simp[List.getD,h]
theorem AJ.step{ps:List bZ}{x:bZ}(h:AJ ps i k)(hx:ps[i]? =some x)(ho:(cJ x 255).isSome=true)(hi:i<4):AJ ps (i+1) (uC k i ((cJ x 255).getD 0)):=by
 have e:ps.getD i []=x:=getD_at hx;refine⟨fun j hj=>?_,fun j hj=>?_⟩
 ·
  rw[Kp k i (Kq x) hj]
  by_cases ej:j=i
  ·
   subst ej;rw[if_pos rfl,if_pos (by omega),e]
  rw[if_neg ej,h.1 j hj]
  by_cases hl:j<i
  ·
   rw[if_pos hl,if_pos (by omega)]
  rw[if_neg hl,if_neg (by omega)]
 by_cases ej:j=i
 ·
  subst ej;rw[e];exact ho
 exact h.2 j (by omega)
theorem RM{ps:List bZ}(h:ps.length=4): ∃a b c d,ps=[a,b,c,d]:=by
 match ps,h with
 |[a,b,c,d],_=>exact⟨a,b,c,d,rfl⟩
theorem ace(h:(cG 46 s).length≠4):jP s=none:=by
 unfold jP;split
 ·
  rename_i a b c d e;rw[e]at h;exact absurd rfl h
 rfl
theorem acf{x:bZ}(hl:(cG 46 s).length=4)(hx:(cG 46 s)[i]? =some x)(hn:(cJ x 255).isSome=false):jP s=none:=by
 obtain⟨a,b,c,d,e⟩:=RM hl;have Kr:cJ x 255=none:=by cases q:cJ x 255 with
  |none=>rfl
  |some z=>rw[q]at hn;cases hn
 unfold jP;rw[e]at hx⊢;have hm:x∈[a,b,c,d]:=alM hx;simp only[apn,ar7,or_false]at hm;rcases hm with rfl|rfl|rfl|rfl
 all_goals simp only[Kr]
 all_goals(split<;>first|rfl|(rename_i h1 h2 h3 h4;simp_all))
theorem acg(hl:(cG 46 s).length=4)(h:AJ (cG 46 s) 4 k):jP s=some k:=by
 obtain⟨a,b,c,d,e⟩:=RM hl;rw[e]at h;obtain⟨na,ha⟩:=ap9.1 (h.2 0 (by decide));obtain⟨nb,hb⟩:=ap9.1 (h.2 1 (by decide));obtain⟨nc,hc⟩:=ap9.1 (h.2 2 (by decide));obtain⟨nd,hd⟩:=ap9.1 (h.2 3 (by decide));simp only[List.getD_cons_zero,List.getD_cons_succ]at ha hb hc hd;unfold jP;rw[e];simp only[ha,hb,hc,hd];refine congrArg some (tt fun j hj=>?_);rw[xm (kN.1 ha).2 (kN.1 hb).2 (kN.1 hc).2 (kN.1 hd).2 hj,h.1 j hj];rcases apo j 4 with h4|h4
 ·
  have:j=0\/j=1\/j=2\/j=3:=by omega
  rcases this with rfl|rfl|rfl|rfl
  ·
   simp[ha]
  ·
   simp[hb]
  ·
   simp[hc]
  simp[hd]
 rw[if_neg (by omega),if_neg (by omega),if_neg (by omega),if_neg (by omega),if_neg (by omega)]
theorem ach(h: ¬qJ (s.getD i 0)<0):qJ (s.getD i 0)=((kl s i:Nat):Int)/\kl s i<16/\(kj (s.getD i 0)).isSome=true:=by
 unfold qJ kl at*
 cases e:kj (s.getD i 0)with
 |none=>rw[e]at h;simp at h
 |some n=>exact⟨rfl,HA e,rfl⟩
theorem aci(h:qJ (s.getD i 0)<0)(hi:i<s.length):lP s=none:=by
 unfold lP;rw[if_neg];rintro⟨_,ha⟩;have:=apC.1 ha (s.getD i 0) (by simp[List.getD,hi]);unfold qJ at h
 cases e:kj (s.getD i 0)with
 |none=>rw[e]at this;cases this
 |some n=>rw[e]at h;simp only at h;omega
theorem acj(c:UInt8):Lib.indexByte ([48,49,50,51,52,53,54,55,56,57,97,98,99,100,101,102]:bZ) c=qJ c:=by
 have key: ∀n,n<256->Lib.indexByte ([48,49,50,51,52,53,54,55,56,57,97,98,99,100,101,102]:bZ) (UInt8.ofNat n)=qJ (UInt8.ofNat n):=by decide+kernel
 have:=key c.toNat c.toNat_lt;rwa [UInt8.ofNat_toNat]at this
def wv(s:bZ)(i:Nat)(k:Key):Prop:=(∀j,j<16->bm k j=if 2*j+1<i then 16*kl s (2*j)+kl s (2*j+1)else if 2*j<i then kl s (2*j)else 0)/\ ∀j,j<i->(kj (s.getD j 0)).isSome=true
theorem ack(s:bZ):wv s 0 (0#128):=⟨fun j _=>by rw[RL,if_neg (by omega),if_neg (by omega)],fun j h=>absurd h (Nat.not_lt_zero j)⟩
theorem F1(h:(kj (s.getD i 0)).isSome=true):kl s i<16:=by
 unfold kl;obtain⟨n,e⟩:=ap9.1 h;rw[e];exact HA e
theorem wv.lt(h:wv s i k)(hi:i<32):bm k (i/2)<16:=by
 rw[h.1 (i/2) (by omega),if_neg (by omega)];split
 ·
  exact F1 (h.2 _ (by omega))
 omega
theorem RN(hn:n<16):v*16|||n=v*16+n:=by
 have:=Nat.two_pow_add_eq_or_of_lt (i:=4) (show n<2^4 from hn) v;rw[aqt v 16];exact this.symm
theorem wv.step(h:wv s i k)(hi:i<32)(ho:(kj (s.getD i 0)).isSome=true):wv s (i+1) (uC k (i/2) (bm k (i/2)*16|||kl s i)):=by
 have hl:=h.lt hi;have hx:=F1 ho;rw[RN hx];refine⟨fun j hj=>?_,fun j hj=>?_⟩
 ·
  rw[Kp k _ (by omega) hj]
  by_cases ej:j=i/2
  ·
   rw[if_pos ej,←ej,h.1 j hj,if_neg (by omega)];rcases Nat.mod_two_eq_zero_or_one i with e|e
   ·
    rw[if_neg (by omega),if_neg (by omega),if_pos (by omega),show 2*j=i by omega];omega
   rw[if_pos (by omega),if_pos (by omega),show 2*j+1=i by omega];omega
  rw[if_neg ej,h.1 j hj]
  by_cases h1:2*j+1<i
  ·
   rw[if_pos h1,if_pos (by omega)]
  rw[if_neg h1,if_neg (by omega),if_neg (by omega),if_neg (by omega)]
 by_cases ej:j=i
 ·
  subst ej;exact ho
 exact h.2 j (by omega)
theorem acm(h:s.length≠32):lP s=none:=by unfold lP;rw[if_neg (fun e=>h e.1)]
theorem acn(h: ∀j,j<s.length->(kj (s.getD j 0)).isSome=true):D0 s=true:=by
 refine apC.2 fun c hc=>?_;obtain⟨j,hj,rfl⟩:=aqC hc;have:=h j hj;simpa[List.getD,hj]using this
theorem aco(hl:s.length=32)(h:wv s 32 k):lP s=some k:=by
 unfold lP;rw[if_pos ⟨hl,acn fun j hj=>h.2 j (by omega)⟩];refine congrArg some (tt fun j hj=>?_);rw[h.1 j hj,if_pos (by omega),zf,tu _ _ hj];have:=F1 (h.2 (2*j) (by omega));have:=F1 (h.2 (2*j+1) (by omega));omega
def nU(s:bZ):Key:=if 60<s.length then 0#128 else match mr s with|some (k,_)=>k|none=>0#128
def iK(s:bZ):Nat:=if 60<s.length then 0 else match mr s with|some (_,n)=>n.toNat|none=>0
def lG(s:bZ):Int:=if 60<s.length then 3 else match mr s with|some _=>0|none=>2
theorem acp(h:60<s.length):nU s=0#128/\iK s=0/\lG s=3:=by simp[nU,iK,lG,h]
theorem acq(h: ¬60<s.length)(hs:jP s=some k):nU s=k/\iK s=32/\lG s=0:=by simp[nU,iK,lG,h,mr,hs]
theorem acr(h: ¬60<s.length)(hs:jP s=none)(hw:lP s=some k):nU s=k/\iK s=128/\lG s=0:=by simp[nU,iK,lG,h,mr,hs,hw]
theorem acs(h: ¬60<s.length)(hs:jP s=none)(hw:lP s=none):nU s=0#128/\iK s=0/\lG s=2:=by simp[nU,iK,lG,h,mr,hs,hw]
end Go.Kb
namespace Go.Proofs.YtkggjjnhnjjokaaGreatDoor
open Go.ay Go.Kb
instance:lJ Tryz.prog 25 [] (.agg (bR 0#128)):=⟨fun w=>by rw[vR];kernel_rfl⟩
instance:lJ Tryz.prog 32 [] (.agg (bV ⟨0,0,0#128⟩)):=⟨fun w=>by unfold bV;rw[vR];kernel_rfl⟩
instance:lJ Tryz.prog 34 [] (.agg (aq cP)):=⟨fun w=>by unfold aq bV cP;rw[vR];kernel_rfl⟩
variable {w0:World}{L:List aj}
instance aod{s:List UInt8}[tb:pP w0]:bY Tryz.prog 208 w0 L [.string ⟨s.toArray⟩] (.tuple #[.agg (bR ((jP s).getD 0#128)), .bool ((jP s).isSome)]) (s.length<=60):=⟨fun aA w hw=>by
 have tb:=tb.at hw;refine cw Tryz.func208 rfl Tryz.ntmps208 rfl ?_;refine Gc ?_;refine bn fun b2=>al ?_;refine aY rfl oM fun dq yk=>aT ?_;refine Gb (fun h0=>?_) fun h0=>?_
 ·
  refine Gc ?_;refine ag (fv rfl) (al ?_);refine Gr fun w1 hw=>?_;exact⟨(by rw[ace oM];rfl),ai.mem hw⟩
 refine Gc ?_;refine bn fun b5=>aH ?_;refine bA (X:=Nat×Key) (fun zz=>[(18, .int .i64 (zz.1:Nat)),(5, .pointer (some ⟨b5,0,none⟩)),(2, .pointer (some ⟨b2,0,none⟩)),(16,(⟨false,dq,0,(cG 46 s).length,(cG 46 s).length,none⟩:Sv).val),(17, .int .i64 ((cG 46 s).length:Nat))]) (fun zz=>[an b5 (bR zz.2) 25,own Bx 1 ⟨false,dq,0,(cG 46 s).length,(cG 46 s).length,none⟩ (cG 46 s),an b2 (bR 0#128) 25]) (fun zz=>zz.1<=4/\AJ (cG 46 s) zz.1 zz.2) (fun zz=>4 -zz.1) (0,0#128) ⟨Nat.zero_le _,acd _⟩ sb (fun w hw=>ai.mem hw) ?_;rintro⟨i,kk⟩ ⟨hi,hp⟩;dsimp only;simp only at hi hp;refine al ?_;refine Gb (fun h1=>?_) fun h1=>?_
 ·
  refine av ?_;obtain⟨x,hx⟩:=get_some (xs:=(cG 46 s)) (i:=i) oM;refine ag (aR rfl rfl i rfl oM) (ag (bC (j:=0) rfl i hx rfl (by decide)) (au ?_));refine dv (bP (vs:=[_, .int .i64 ((255:Nat):Int)]) rfl ⟨by decide,by have:=Vg s (alM hx);omega⟩) (Gs ?_);refine ag (aI (v:= .int .i64 (((cJ x 255).getD 0):Nat)) rfl rfl) (ag (aI (v:= .bool ((cJ x 255).isSome)) rfl rfl) (aT ?_));refine Gb (fun h2=>?_) fun h2=>?_
  ·
   refine Gc ?_;refine ag (fv rfl) (al ?_);refine Gr fun w1 hw=>?_;exact⟨(by rw[acf oM hx h2];rfl),ai.mem hw⟩
  refine al ?_;refine ag (GY (n:=(((cJ x 255).getD 0:Nat):Int)) rfl oM (by have:=Kq x;simp only[nb];omega)) (ag (oG rfl rfl oM oM) (dR (cs':=bR (uC kk i ((cJ x 255).getD 0))) rfl rfl (by rw[fD];omega) rfl (RJ kk i oM (Kq x)) (al ?_)));refine Gi ?_;exact aW (x:=(i,kk)) (i+1,uC kk i ((cJ x 255).getD 0)) ⟨oF,hp.step hx h2 oF⟩ (by simp only;omega) sb (fun w hw=>ai.mem hw)
 refine aH ?_;refine Gr fun w1 hw=>?_;exact⟨(by rw[acg oM (by rw[show i=4 by omega]at hp;exact hp)];rfl),ai.mem hw⟩⟩
instance aoe{s:List UInt8}:bY Tryz.prog 209 w0 L [.string ⟨s.toArray⟩] (.tuple #[.agg (bR ((lP s).getD 0#128)), .bool ((lP s).isSome)]) (s.length<=60):=⟨fun aA w hw=>by
 refine cw Tryz.func209 rfl Tryz.ntmps209 rfl ?_;refine Gc ?_;refine bn fun b2=>av ?_;refine bn fun b4=>av ?_;refine ag (qF (s:=s) Tryz.underlying9 rfl) (av ?_);refine Gb (fun h0=>?_) fun h0=>?_
 ·
  refine Gc ?_;refine ag (fv rfl) (al ?_);refine Gr fun w1 hw=>?_;exact⟨(by rw[acm oM];rfl),ai.mem hw⟩
 refine av ?_;refine ag (qF (s:=s) Tryz.underlying9 rfl) (av ?_);refine bA (X:=Nat×Key) (fun zz=>[(13, .int .i64 (zz.1:Nat)),(4, .pointer (some ⟨b4,0,none⟩)),(0, .string ⟨s.toArray⟩),(2, .pointer (some ⟨b2,0,none⟩)),(12, .int .i64 (s.length:Nat))]) (fun zz=>[an b4 (bR zz.2) 25,an b2 (bR 0#128) 25]) (fun zz=>zz.1<=32/\wv s zz.1 zz.2) (fun zz=>32 -zz.1) (0,0#128) ⟨Nat.zero_le _,ack s⟩ sb (fun w hw=>ai.mem hw) ?_;rintro⟨i,kk⟩ ⟨hi,hp⟩;dsimp only;simp only at hi hp;refine al ?_;refine Gb (fun h1=>?_) fun h1=>?_
 ·
  refine aT ?_;refine ag (tq (s:=s) i Tryz.underlying9 rfl rfl rfl oM) (Gs ?_);rw[acj];refine aH ?_;refine Gb (fun h2=>?_) fun h2=>?_
  ·
   refine Gc ?_;refine ag (fv rfl) (al ?_);refine Gr fun w1 hw=>?_;exact⟨(by rw[aci h2 oM];rfl),ai.mem hw⟩
  refine da ?_;obtain⟨he,hx,ho⟩:=ach h2;have bc:=hp.lt (show i<32 by omega);have az:(((i:Nat):Int)/2).toNat=i/2:=by omega
  refine Gi ?_;refine Gs ?_;refine ag (lf rfl rfl oM oM) (Gs ?_);refine ag (lf rfl rfl oM oM) (ag (oG rfl rfl oM oM) (ag (Ry.as (v':= .int .u8 ((bm kk (i/2):Nat):Int)) (yP rfl (ki kk (((i:Nat):Int)/2).toNat oM)) (by rw[az])) (ag (UE (p:=bm kk (i/2)) rfl rfl rfl oM) (Gs ?_))));refine ag (GY rfl oM (by simp only[nb];omega)) (ag (Be (p:=bm kk (i/2)*16) (q:=kl s i) rfl rfl rfl he (by simp only[nb];omega) (by simp only[nb];omega)) (ag (oG rfl rfl oM oM) (dR (cs':=bR (uC kk (i/2) (bm kk (i/2)*16|||kl s i))) rfl rfl (by rw[fD];omega) rfl (by rw[az];exact RJ kk (i/2) oM (by rw[RN hx];omega)) (al ?_))));refine Gi ?_;exact aW (x:=(i,kk)) (i+1,uC kk (i/2) (bm kk (i/2)*16|||kl s i)) ⟨oF,hp.step oF ho⟩ (by simp only;omega) sb (fun w hw=>ai.mem hw)
 refine aH ?_;refine Gr fun w1 hw=>?_;exact⟨(by rw[aco oM (by rw[show i=32 by omega]at hp;exact hp)];rfl),ai.mem hw⟩⟩
instance aof{s:List UInt8}[tb:pP w0]:bY Tryz.prog 149 w0 L [.string ⟨s.toArray⟩] (.tuple #[.agg (bR (nU s)), .int .i64 ((iK s):Nat), .int .i64 (lG s)]) (s.length<=1000000000):=⟨fun aA w hw=>by
 have tb:=tb.at hw;refine cw Tryz.func149 rfl Tryz.ntmps149 rfl ?_;refine Gc ?_;refine bn fun b2=>au ?_;refine ag (qF (s:=s) Tryz.underlying9 rfl) (av ?_);refine Gb (fun h0=>?_) fun h0=>?_
 ·
  refine Gc ?_;refine ag (fv rfl) (au ?_);refine Gr fun w1 hw=>?_;exact⟨(by obtain⟨e1,e2,e3⟩:=acp (s:=s) oM;rw[e1,e2,e3];rfl),ai.mem hw⟩
 refine av ?_;refine dv (bP rfl oM) (Gs ?_);refine ag (aI (v:= .agg (bR ((jP s).getD 0#128))) rfl rfl) (ag (aI (v:= .bool ((jP s).isSome)) rfl rfl) (bn fun b5=>aH ?_));refine Gb (fun h1=>?_) fun h1=>?_
 ·
  obtain⟨q,hq⟩:=ap9.1 h1;refine aT ?_;refine Gr fun w1 hw=>?_;exact⟨(by obtain⟨e1,e2,e3⟩:=acq oM hq;rw[e1,e2,e3,hq];rfl),ai.mem hw⟩
 have hs:jP s=none:=by simpa using h1
 refine av ?_;refine dv (bP rfl oM) (Gs ?_);refine ag (aI (v:= .agg (bR ((lP s).getD 0#128))) rfl rfl) (ag (aI (v:= .bool ((lP s).isSome)) rfl rfl) (bn fun b7=>aH ?_));refine Gb (fun h2=>?_) fun h2=>?_
 ·
  obtain⟨q,hq⟩:=ap9.1 h2;refine aT ?_;refine Gr fun w1 hw=>?_;exact⟨(by obtain⟨e1,e2,e3⟩:=acr oM hs hq;rw[e1,e2,e3,hq];rfl),ai.mem hw⟩
 have hw0:lP s=none:=by simpa using h2
 refine Gc ?_;refine ag (fv rfl) (au ?_);refine Gr fun w1 hw=>?_;exact⟨(by obtain⟨e1,e2,e3⟩:=acs oM hs hw0;rw[e1,e2,e3];rfl),ai.mem hw⟩⟩
end Go.Proofs.YtkggjjnhnjjokaaGreatDoor
namespace Go.Kb
open Go.ay
variable {s a b:bZ} {c:UInt8} {n top:Nat}
theorem yB(c:UInt8)(s:bZ):(∃a b,s=a++c::b/\dK c s=(a,b,true)/\cG c s=a::cG c b)\/(dK c s=(s,[],false)/\cG c s=[s]):=by
 rcases za (c:=c) s with⟨h1,h2⟩|⟨a,b,h1,h2,h3⟩
 ·
  exact .inr ⟨UF h1,h2⟩
 exact .inl ⟨a,b,h1,by rw[h1,UG h2],h3⟩
theorem RO(hc:c∈b)(hd:kM c=false):cJ b top=none:=by
 cases e:cJ b top with
 |none=>rfl
 |some n=>
  obtain⟨rfl,_⟩:=kN.1 e;exact absurd hc (Mn hd)
theorem RP(c:UInt8)(s:bZ):(dK c s).1.length<=s.length/\(dK c s).2.1.length<=s.length:=by
 rcases yB c s with⟨a,b,h1,h2,_⟩|⟨h2,_⟩
 ·
  rw[h2,h1];simp;omega
 rw[h2];simp
theorem acu(h:(dK 47 s).2.2=false):lQ s=none:=by
 rcases yB 47 s with⟨a,b,_,h2,_⟩|⟨_,h3⟩
 ·
  rw[h2]at h;cases h
 unfold lQ;rw[h3]
def uD(a b:bZ):Option ba:=match mr a,cJ b 128 with
 |some (k,bits),some n=>if aZ ⟨bits,(n:Int),k⟩=true then some ⟨bits,(n:Int),k⟩else none
 |_,_=>none
theorem acv(h:cG 47 s=[a,b]):lQ s=uD a b:=by
 unfold lQ;rw[h];rfl
theorem F2(h:(dK 47 s).2.2=true):lQ s=uD (dK 47 s).1 (dK 47 s).2.1:=by
 rcases yB 47 s with⟨a,b,_,h2,h3⟩|⟨h2,_⟩
 ·
  rw[h2];rcases yB 47 b with⟨x,y,e1,_,e3⟩|⟨_,e3⟩
  ·
   have hn:cJ b 128=none:=RO (c:=47) (by rw[e1];simp) (by decide);unfold lQ uD;rw[h3,e3,hn];have:cG 47 y≠[]:=Hr y
   cases q:cG 47 y with
   |nil=>exact absurd q this
   |cons z zs=>simp only;split<;>simp_all
  exact acv (by rw[h3,e3])
 rw[h2]at h;cases h
def uE(a b:bZ):Option Rt:=match lQ a,cJ b 65535 with
 |some p,some n=>some ⟨p,UInt16.ofNat n⟩
 |_,_=>none
theorem acw(h:(dK 32 s).2.2=false):rO s=none:=by
 rcases yB 32 s with⟨a,b,_,h2,_⟩|⟨_,h3⟩
 ·
  rw[h2]at h;cases h
 unfold rO;rw[h3]
theorem acx(h:cG 32 s=[a,b]):rO s=uE a b:=by
 unfold rO;rw[h];rfl
theorem Ks(h:(dK 32 s).2.2=true):rO s=uE (dK 32 s).1 (dK 32 s).2.1:=by
 rcases yB 32 s with⟨a,b,_,h2,h3⟩|⟨h2,_⟩
 ·
  rw[h2];rcases yB 32 b with⟨x,y,e1,_,e3⟩|⟨_,e3⟩
  ·
   have hn:cJ b 65535=none:=RO (c:=32) (by rw[e1];simp) (by decide);unfold rO uE;rw[h3,e3,hn];have:cG 32 y≠[]:=Hr y
   cases q:cG 32 y with
   |nil=>exact absurd q this
   |cons z zs=>simp only;split<;>simp_all
  exact acx (by rw[h3,e3])
 rw[h2]at h;cases h
theorem Kt(h:a.length<=60)(he:lG a=0):mr a=some (nU a,((iK a:Nat):Int))/\(iK a=32\/iK a=128):=by
 have hl: ¬60<a.length:=by omega
 unfold lG at he;rw[if_neg hl]at he
 cases e:mr a with
 |none=>rw[e]at he;cases he
 |some z=>
  obtain⟨k,m⟩:=z;have hm:=((DX _).1 (Va.1 e).1).1;simp only at hm;unfold nU iK;rw[if_neg hl,if_neg hl,e];simp only;rcases hm with rfl|rfl
  ·
   exact⟨rfl, .inl rfl⟩
  exact⟨rfl, .inr rfl⟩
theorem acy(h:a.length<=60)(he: ¬lG a=0):mr a=none:=by
 unfold lG at he;rw[if_neg (show ¬60<a.length by omega)]at he
 cases e:mr a with
 |none=>rfl
 |some z=>rw[e]at he;exact absurd rfl he
def ru(s:bZ):ba:=if 60<s.length then⟨0,0,0#128⟩else(lQ s).getD ⟨0,0,0#128⟩
def oz(s:bZ):Int:=if 60<s.length then 3 else if(lQ s).isSome=true then 0 else 2
theorem acz(h:60<s.length):ru s=⟨0,0,0#128⟩/\oz s=3:=by simp[ru,oz,h]
theorem F3(h: ¬60<s.length)(hp:lQ s=none):ru s=⟨0,0,0#128⟩/\oz s=2:=by simp[ru,oz,h,hp]
theorem acA{p:ba}(h: ¬60<s.length)(hp:lQ s=some p):ru s=p/\oz s=0:=by simp[ru,oz,h,hp]
theorem acB(h:a.length<=60)(he:oz a=0):lQ a=some (ru a):=by
 have hl: ¬60<a.length:=by omega
 unfold oz at he;rw[if_neg hl]at he
 cases e:lQ a with
 |none=>rw[e]at he;simp at he
 |some z=>rw[ru,if_neg hl,e];rfl
theorem acC(h:a.length<=60)(he: ¬oz a=0):lQ a=none:=by
 unfold oz at he;rw[if_neg (show ¬60<a.length by omega)]at he
 cases e:lQ a with
 |none=>rfl
 |some z=>rw[e]at he;exact absurd rfl he
def qp(s:bZ):Rt:=if 60<s.length then cP else(rO s).getD cP
def uF(s:bZ):Int:=if 60<s.length then 3 else if(rO s).isSome=true then 0 else 2
theorem acD(h:60<s.length):qp s=cP/\uF s=3:=by simp[qp,uF,h]
theorem Ku(h: ¬60<s.length)(hp:rO s=none):qp s=cP/\uF s=2:=by simp[qp,uF,h,hp]
theorem acE{r:Rt}(h: ¬60<s.length)(hp:rO s=some r):qp s=r/\uF s=0:=by simp[qp,uF,h,hp]
theorem acF(h:a.length<=60)(he: ¬lG a=0):uD a b=none:=by unfold uD;rw[acy h he]
theorem acG(h:cJ b n=none)(hn:n<=top){m:Nat}(e:cJ b top=some m):n<m:=by
 obtain⟨rfl,h2⟩:=kN.1 e;rcases apo n m with q|q
 ·
  exact q
 rw[Hq q]at h;cases h
theorem acH(h:a.length<=60)(he:lG a=0)(hn:(cJ b (iK a)).isSome=false):uD a b=none:=by
 obtain⟨hk,hm⟩:=Kt h he;have Kr:cJ b (iK a)=none:=by simpa using hn
 unfold uD;rw[hk]
 cases e:cJ b 128 with
 |none=>rfl
 |some m=>
  have:=acG Kr (by omega) e;simp only;rw[if_neg];intro hp;have:=((DX _).1 hp).2.2.1;simp only at this;omega
theorem RQ(h:a.length<=60)(he:lG a=0)(hn:(cJ b (iK a)).isSome=true):uD a b=if aZ ⟨((iK a:Nat):Int),(((cJ b (iK a)).getD 0:Nat):Int),nU a⟩=true then some ⟨((iK a:Nat):Int),(((cJ b (iK a)).getD 0:Nat):Int),nU a⟩else none:=by
 obtain⟨hk,hm⟩:=Kt h he;obtain⟨m,e⟩:=ap9.1 hn;obtain⟨rfl,h2⟩:=kN.1 e;unfold uD;rw[hk,e,Hq (show m<=128 by omega)];rfl
theorem acI(h:a.length<=60)(he: ¬oz a=0):uE a b=none:=by unfold uE;rw[acC h he]
theorem acJ(hn:cJ b 65535=none):uE a b=none:=by
 unfold uE;rw[hn];cases lQ a<;>rfl
theorem acK(h:a.length<=60)(he:oz a=0)(hn:cJ b 65535=some n):uE a b=some ⟨ru a,UInt16.ofNat n⟩:=by
 unfold uE;rw[hn,acB h he]
theorem RR(s:bZ)(top:Nat):(cJ s top).getD 0<=top:=by
 cases e:cJ s top with
 |none=>simp
 |some n=>exact(kN.1 e).2
theorem acL{n:Nat}(h:n<=65535):(Value.int .u16 ((n:Nat):Int))=Value.int .u16 (((UInt16.ofNat n).toNat:Nat):Int):=by
 rw[UInt16.toNat_ofNat',ap3 (show n<2^16 by omega)]
theorem Oh{ps:List bZ}(h:ps.length=2): ∃a b,ps=[a,b]:=by
 match ps,h with
 |[a,b],_=>exact⟨a,b,rfl⟩
end Go.Kb
namespace Go.Proofs.YtkggjjnhnjjokaaGreatDoor
open Go.ay Go.Kb
variable {w0:World}{L:List aj}
instance aog{s:List UInt8}[tb:pP w0]:bY Tryz.prog 116 w0 L [.string ⟨s.toArray⟩] (.tuple #[.agg (bV (ru s)), .int .i64 (oz s)]) (s.length<=1000000000):=⟨fun aA w hw=>by
 have tb:=tb.at hw;obtain⟨hca,nN⟩:=RP 47 s;refine cw Tryz.func116 rfl Tryz.ntmps116 rfl ?_;refine Gc ?_;refine bn fun b2=>al ?_;refine ag (qF (s:=s) Tryz.underlying9 rfl) (av ?_);refine Gb (fun h0=>?_) fun h0=>?_
 ·
  refine Gc ?_;refine ag (fv rfl) (al ?_);refine Gr fun w1 hw=>?_;exact⟨(by obtain⟨e1,e2⟩:=acz (s:=s) oM;rw[e1,e2]),ai.mem hw⟩
 refine av ?_;refine dv (bP rfl oM) (Gs ?_);refine ag (aI (v:= .string ⟨((dK 47 s).1).toArray⟩) rfl rfl) (ag (aI (v:= .string ⟨((dK 47 s).2.1).toArray⟩) rfl rfl) (ag (aI (v:= .bool ((dK 47 s).2.2)) rfl rfl) (cx ?_)));refine Gb (fun h1=>?_) fun h1=>?_
 ·
  refine Gc ?_;refine ag (fv rfl) (al ?_);refine Gr fun w1 hw=>?_;exact⟨(by obtain⟨e1,e2⟩:=F3 (s:=s) oM (acu h1);rw[e1,e2]),ai.mem hw⟩
 refine av ?_;refine dv (bP rfl oM) (Gs ?_);refine ag (aI (v:= .agg (bR (nU ((dK 47 s).1)))) rfl rfl) (ag (aI (v:= .int .i64 ((iK ((dK 47 s).1)):Nat)) rfl rfl) (ag (aI (v:= .int .i64 (lG ((dK 47 s).1))) rfl rfl) (bn fun b7=>cx ?_)));refine Gb (fun h2=>?_) fun h2=>?_
 ·
  refine Gc ?_;refine ag (fv rfl) (al ?_);refine Gr fun w1 hw=>?_;exact⟨(by obtain⟨e1,e2⟩:=F3 (s:=s) oM (by rw[F2 h1];exact acF oM oM);rw[e1,e2]),ai.mem hw⟩
 have hr:lG (dK 47 s).1=0:=by omega
 obtain⟨_,hm⟩:=Kt oM hr;refine al ?_;refine dv (bP rfl ⟨by omega,by omega⟩) (Gs ?_);refine ag (aI (v:= .int .i64 (((cJ ((dK 47 s).2.1) (iK ((dK 47 s).1))).getD 0):Nat)) rfl rfl) (ag (aI (v:= .bool ((cJ ((dK 47 s).2.1) (iK ((dK 47 s).1))).isSome)) rfl rfl) (aT ?_));refine Gb (fun h3=>?_) fun h3=>?_
 ·
  refine Gc ?_;refine ag (fv rfl) (al ?_);refine Gr fun w1 hw=>?_;exact⟨(by obtain⟨e1,e2⟩:=F3 (s:=s) oM (by rw[F2 h1];exact acH oM hr h3);rw[e1,e2]),ai.mem hw⟩
 refine au ?_;refine ag (fv rfl) (bn fun nQ=>aT ?_);refine Gb (fun h4=>?_) fun h4=>?_
 ·
  refine Gc ?_;refine ag (fv rfl) (al ?_);refine Gr fun w1 hw=>?_;exact⟨(by obtain⟨e1,e2⟩:=F3 (s:=s) oM (by rw[F2 h1,RQ oM hr h3,h4];rfl);rw[e1,e2]),ai.mem hw⟩
 refine aH ?_;refine Gr fun w1 hw=>?_;exact⟨(by obtain⟨e1,e2⟩:=acA (s:=s) (p:=(⟨((iK (dK 47 s).1:Nat):Int),(((cJ (dK 47 s).2.1 (iK (dK 47 s).1)).getD 0:Nat):Int),nU (dK 47 s).1⟩:ba)) oM (by rw[F2 h1,RQ oM hr h3,if_pos h4]);rw[e1,e2]),ai.mem hw⟩⟩
instance aoh{s:List UInt8}[tb:pP w0]:bY Tryz.prog 50 w0 L [.string ⟨s.toArray⟩] (.tuple #[.agg (aq (qp s)), .int .i64 (uF s)]) (s.length<=1000000000):=⟨fun aA w hw=>by
 have tb:=tb.at hw;obtain⟨hca,nN⟩:=RP 32 s;refine cw Tryz.func50 rfl Tryz.ntmps50 rfl ?_;refine Gc ?_;refine bn fun b2=>al ?_;refine ag (qF (s:=s) Tryz.underlying9 rfl) (av ?_);refine Gb (fun h0=>?_) fun h0=>?_
 ·
  refine Gc ?_;refine ag (fv rfl) (al ?_);refine Gr fun w1 hw=>?_;exact⟨(by obtain⟨e1,e2⟩:=acD (s:=s) oM;rw[e1,e2]),ai.mem hw⟩
 refine av ?_;refine dv (bP rfl oM) (Gs ?_);refine ag (aI (v:= .string ⟨((dK 32 s).1).toArray⟩) rfl rfl) (ag (aI (v:= .string ⟨((dK 32 s).2.1).toArray⟩) rfl rfl) (ag (aI (v:= .bool ((dK 32 s).2.2)) rfl rfl) (cx ?_)));refine Gb (fun h1=>?_) fun h1=>?_
 ·
  refine Gc ?_;refine ag (fv rfl) (al ?_);refine Gr fun w1 hw=>?_;exact⟨(by obtain⟨e1,e2⟩:=Ku (s:=s) oM (acw h1);rw[e1,e2]),ai.mem hw⟩
 refine av ?_;refine dv (bP rfl oM) (Gs ?_);refine ag (aI (v:= .agg (bV (ru ((dK 32 s).1)))) rfl rfl) (ag (aI (v:= .int .i64 (oz ((dK 32 s).1))) rfl rfl) (bn fun b7=>aT ?_));refine Gb (fun h2=>?_) fun h2=>?_
 ·
  refine Gc ?_;refine ag (fv rfl) (al ?_);refine Gr fun w1 hw=>?_;exact⟨(by obtain⟨e1,e2⟩:=Ku (s:=s) oM (by rw[Ks h1];exact acI oM oM);rw[e1,e2]),ai.mem hw⟩
 refine av ?_;refine dv (bP (vs:=[_, .int .i64 ((65535:Nat):Int)]) rfl ⟨by omega,by omega⟩) (Gs ?_);refine ag (aI (v:= .int .i64 (((cJ ((dK 32 s).2.1) 65535).getD 0):Nat)) rfl rfl) (ag (aI (v:= .bool ((cJ ((dK 32 s).2.1) 65535).isSome)) rfl rfl) (aT ?_));refine Gb (fun h3=>?_) fun h3=>?_
 ·
  refine Gc ?_;refine ag (fv rfl) (al ?_);refine Gr fun w1 hw=>?_;exact⟨(by obtain⟨e1,e2⟩:=Ku (s:=s) oM (by rw[Ks h1];exact acJ (by simpa using h3));rw[e1,e2]),ai.mem hw⟩
 obtain⟨m,hm⟩:=ap9.1 h3;have hm2:=(kN.1 hm).2;refine al ?_;refine ag (Ry.as (v':= .int .u16 (((UInt16.ofNat ((cJ (dK 32 s).2.1 65535).getD 0)).toNat:Nat):Int)) (iA rfl (by have:=RR (dK 32 s).2.1 65535;simp only[nb];omega)) (acL (RR (dK 32 s).2.1 65535))) (ag (fv rfl) (al ?_));refine Gr fun w1 hw=>?_;exact⟨(by obtain⟨e1,e2⟩:=acE (s:=s) oM ((Ks h1).trans (acK oM oM hm));rw[e1,e2,hm];rfl),ai.mem hw⟩⟩
instance:dz Tryz.prog 225 (.agg (cW Nd.zero)):=⟨by kernel_rfl⟩
instance:dz Tryz.prog 221 (.agg (oq fH.no)):=⟨by kernel_rfl⟩
instance:dz Tryz.prog 124 (.agg (dk ⟨0,⟨Sv.none,[]⟩⟩)):=⟨by kernel_rfl⟩
instance:dz Tryz.prog 217 (.agg (dk ⟨0,⟨Sv.none,[]⟩⟩)):=⟨by kernel_rfl⟩
instance:dz Tryz.prog 3 (.int .i64 0):=⟨by kernel_rfl⟩
instance:lJ Tryz.prog 225 [] (.agg (cW Nd.zero)):=⟨fun w=>by kernel_rfl⟩
instance (n:Int)(h:UInt16):lJ Tryz.prog 221 [(0, .int .i64 n),(1, .int .u16 h.toNat)] (.agg (oq ⟨n,h⟩)):=⟨fun w=>by kernel_rfl⟩
instance:lJ Tryz.prog 124 [] (.agg (dk ⟨0,⟨Sv.none,[]⟩⟩)):=⟨fun w=>by kernel_rfl⟩
theorem acM(n:Int)(s:Sv)(xs:List Nd)(w:World):(Instr.build 124 #[(0, .int .i64 n),(1,s.val)]).run Tryz.prog w= .ok (.agg (dk ⟨n,⟨s,xs⟩⟩)) w:=by
 unfold dk;obtain⟨e,b,o,l,c,p⟩:=s
 cases e<;>kernel_rfl
instance (t:kP):lJ Tryz.prog 217 [(0, .agg (dk t))] (.agg (dk t)):=⟨fun w=>by
 obtain⟨n,⟨⟨e,b,o,l,c,p⟩,xs⟩⟩:=t;unfold dk
 cases e<;>kernel_rfl⟩
instance aoi{b:Int}:bY Tryz.prog 122 w0 L [.int .i64 b] (.bool (decide (b=32)||decide (b=128))) (True):=⟨fun aA w hw=>by
 refine cw Tryz.func122 rfl Tryz.ntmps122 rfl ?_;refine lR ?_;refine Gr fun w1 hw=>?_;exact⟨congrArg (fun b=>Ending.returned (Value.bool b)) (rfl),ai.mem hw⟩⟩
theorem acN(w0 w:World)(L:List aj)(B:Nat)(T:TypeId)(bits:Int)(s:Sv)(ns:List Nd)(node:Nat)(four:Int)(hw:Mem w0 (an B (dk ⟨bits,⟨s,[]⟩⟩) T::own cW 48 s ns::L) w)(aA:node<ns.length/\0<=four/\four<16/\ns.length<=512):Calls Tryz.prog 197 #[.pointer (some ⟨B,0,none⟩), .int .i64 (node:Nat), .int .i64 four] w fun e w'=> ∃zz:Sv,e= .returned (.tuple #[.int .i64 (tK ns node four.toNat), .bool (tJ ns node four.toNat)])/\(True)/\Mem w0 (an B (dk ⟨bits,⟨zz,[]⟩⟩) T::own cW 48 zz (tL ns node four.toNat)::L) w':=by
 obtain⟨eF,fU,eY,uG⟩:=aA;refine gG (args:=[_,_,_]) Tryz.func197 rfl Tryz.ntmps197 rfl hw ?_;change Cw _ _ _ _ _ [(0, .pointer (some ⟨B,0,none⟩)),(1, .int .i64 (node:Nat)),(2, .int .i64 four)] (an B (dk ⟨bits,⟨s,[]⟩⟩) T::own cW 48 s ns::L);refine lR ?_;obtain⟨n,hn⟩:=get_some (xs:=ns) (i:=node) oM;refine ag (aR rfl rfl node rfl oM) ?_;have en:ns.getD node Nd.zero=n:=by simp[List.getD,hn]
 refine ag (aK rfl rfl) (ag (uX rfl rfl oM oM) ?_);refine ag (N4 rfl node hn ((four).toNat) oM (by simp only[arH,aqm,aqS,apP,aqk]<;>omega)) ?_;refine aH ?_;refine Gb (fun h0=>?_) fun h0=>?_
 ·
  refine aH ?_;refine Gr fun w1 hw=>?_;exact⟨s,by rw[tK,tJ,en,if_pos h0,decide_eq_true h0];rfl,trivial,by rw[tL,en,if_pos (.inl h0)];exact ai.mem hw⟩
 refine fQ ?_;refine Gb (fun h1=>?_) fun h1=>?_
 ·
  refine au ?_;refine Gr fun w1 hw=>?_;exact⟨s,by rw[tK,tJ,en,if_neg h0,if_pos oM,decide_eq_false h0,decide_eq_false oM];rfl,trivial,by rw[tL,en,if_pos (.inr oM)];exact ai.mem hw⟩
 refine cx ?_;refine ag (fv rfl) ?_;refine jO (enc:=cW) (vals:=[_]) [Nd.zero] rfl rfl rfl (by decide) (by decide) fun RS=>?_;refine jd (s:=s) (ys:=[Nd.zero]) rfl rfl (by decide) (fun w hw=>ib (s:=⟨false,RS,0,1,1,none⟩) Tryz.underlying122 (by decide) ((inferInstance:Hd _ _ ⟨false,RS,0,1,1,none⟩ cW 48 [Nd.zero]).h w hw)) (by simp only[af0,apj,apl];omega) (by simp only[af0,apj,apl];omega) fun F4 Kv Kw=>?_;refine al ?_;refine dR (cs':=dk (⟨bits,⟨F4,[]⟩⟩:kP)) rfl rfl (by show 1<2;decide) (by first|rfl|exact Sv.one _) rfl (iN ?_);have hm:(ns++[Nd.zero])[node]? =some n:=by rw[apw eF];exact hn
 have bc:node<F4.len:=by rw[Kw,af0];omega
 refine iE [17] [[],[],[],[],[],[],[],[],[],[],[],[],[],[],[],[],[],[]] [0,1,2,3,4,5,6,7,8,9,10,11,12,13,14,15,16,17] [an B (dk ⟨bits,⟨F4,[]⟩⟩) T] (fun _ hw=>ai.mem hw) oK oK (ar rfl (bf rfl) (ar rfl (iM rfl) (ar rfl (aK (o':=0) rfl rfl) (ar rfl (aK (o':=1) rfl rfl) (ar rfl (bQ rfl) (ar rfl (bf rfl) (ar rfl (bf rfl) (ar rfl (bf rfl) (ar rfl (iM rfl) (ar rfl (aK (o':=0) rfl rfl) (ar rfl (aK (o':=1) rfl rfl) (ar rfl (bQ rfl) ?_))))))))))));refine ar rfl (rE rfl Kv (Kw.trans (by simp:_=ns.length+1))) (ar rfl (kI rfl rfl oM) ?_);obtain⟨e56,aoj⟩:=get_some (xs:=(ns++[Nd.zero])) (i:=node) oM;refine ar rfl (lg rfl rfl rfl Kv bc) (ar rfl (aK rfl rfl) (ar rfl (uX rfl rfl oM oM) ?_));refine c8 rfl (aan rfl rfl hm ((four).toNat) oM (by simp only[arH,aqm,aqS,apP,aqk]<;>omega) ⟨fun _ hw=>ai.mem hw,?_⟩);refine aT ?_;refine ag (rE rfl Kv (Kw.trans (by simp:_=ns.length+1))) (au ?_);refine Gr fun w1 hw=>?_;exact⟨F4,by rw[tK,tJ,en,if_neg h0,if_neg oM,decide_eq_true (show ns.length<512 by omega)];simp,trivial,by rw[tL,en,if_neg oM];have:=hw.sub (apX _ _);simpa using this⟩
instance aok{w0:World}{L R1 L2:List aj}{i j:Nat}{B:Nat}{T:TypeId}{bits:Int}{s:Sv}{ns:List Nd}{node:Nat}{four:Int}[h:Has L B (dk ⟨bits,⟨s,[]⟩⟩) T i][d1:cm L i R1][q:di R1 s cW 48 ns j][d2:cm R1 j L2]:bE Tryz.prog 197 w0 L [.pointer (some ⟨B,0,none⟩), .int .i64 (node:Nat), .int .i64 four] (Sv) (fun zz=> .tuple #[.int .i64 (tK ns node four.toNat), .bool (tJ ns node four.toNat)]) (fun zz=>an B (dk ⟨bits,⟨zz,[]⟩⟩) T::own cW 48 zz (tL ns node four.toNat)::L2) (fun zz=>True) (node<ns.length/\0<=four/\four<16/\ns.length<=512):=⟨fun hp w hw=>acN w0 w L2 B T bits s ns node four (lC h.h d1.h q.h d2.h hw) hp⟩
theorem acO(w0 w:World)(L:List aj)(B:Nat)(T:TypeId)(bits:Int)(s:Sv)(W:List Wy)(R:List Rt)(r:Rt)(hw:Mem w0 (an B (dk ⟨bits,⟨s,[]⟩⟩) T::own cW 48 s (nodes bits W R)::L) w)(aA:aZ r.p=true/\r.p.bits=bits/\ig W/\tI bits W R/\W.length<=512):Calls Tryz.prog 123 #[.pointer (some ⟨B,0,none⟩), .agg (aq r)] w fun e w'=> ∃zz:Sv×List Nd,e= .returned (.bool (decide ((dj W r.p (bF r.p)).length<=512)))/\((dj W r.p (bF r.p)).length<=512->zz.2=nodes bits (dj W r.p (bF r.p)) (R++[r]))/\Mem w0 (an B (dk ⟨bits,⟨zz.1,[]⟩⟩) T::own cW 48 zz.1 zz.2::L) w':=by
 obtain⟨eF,fU,eY,uG,re⟩:=aA;obtain⟨GP,Dn,CU,hq4⟩:=(pM r.p).1 eF;have bc:=Et eF;have nh:=NX eF;have CW:=BR r.p.key (bF r.p);have bN:=BU eF;have JS:=WZ Dn oM;refine gG (args:=[_,_]) Tryz.func123 rfl Tryz.ntmps123 rfl hw ?_;change Cw _ _ _ _ _ [(0, .pointer (some ⟨B,0,none⟩)),(1, .agg (aq r))] (an B (dk ⟨bits,⟨s,[]⟩⟩) T::own cW 48 s (nodes bits W R)::L);refine Gc ?_;refine bH rfl fun b3=>aT ?_;refine ag (du rfl rfl (by rw[kG,if_neg (by decide),wrap64_in oM])) (ag (Ry.to (u4 rfl rfl) (by rw[WY Dn])) (cx ?_));refine bA (X:=Nat×Sv) (fun zz=>[(21, .int .i64 (zz.1:Nat)),(6, .int .i64 (((dj W r.p zz.1).idxOf (cK r.p.key zz.1)):Nat)),(0, .pointer (some ⟨B,0,none⟩)),(3, .pointer (some ⟨b3,0,none⟩)),(5, .int .i64 (bF r.p:Nat)),(20, .int .i64 (bF r.p:Nat))]) (fun zz=>an B (dk ⟨bits,⟨zz.2,[]⟩⟩) T::own cW 48 zz.2 (nodes bits (dj W r.p zz.1) R)::an b3 (aq r) 34::L) (fun zz=>zz.1<=bF r.p/\(dj W r.p zz.1).length<=512) (fun zz=>bF r.p -zz.1) (0,s) ⟨Nat.zero_le _,re⟩ (Sub.cons rfl (Sub.cons (look_eq rfl (by rw[zr,Ij,Im eY.nodup eY.root];rfl)) sb)) (fun w hw=>(ai.mem hw:Mem _ (an B (dk ⟨bits,⟨s,[]⟩⟩) T::own cW 48 s (nodes bits W R)::an b3 (aq r) 34::L) _)) ?_;rintro⟨i,s1⟩ ⟨aQ,az⟩;dsimp only;simp only at aQ az;have uH:=eY.add (p:=r.p) (n:=i) oM;have vm:=NR (N2 eY r.p i);have dF:=WJ (N2 eY r.p i);have hk:=tG r.p.key i;have aol:=BR r.p.key i;refine al ?_;refine Gb (fun h0=>?_) fun h0=>?_
 ·
  refine dP ?_;refine ag (gE rfl) (av ?_);refine aY rfl ⟨by rw[zv];exact dF,by omega,by omega,by rw[zv];exact az⟩ fun aB we=>?_;have ho:tJ (nodes bits (dj W r.p i) R) ((dj W r.p i).idxOf (cK r.p.key i)) (ic r.p.key i).toNat=decide ((dj W r.p (i+1)).length<=512):=by have:=WM uH (R:=R) (bits:=bits) vm hk az;rw[Er _ _ oM,←tF]at this;exact this
  refine Gs ?_;refine ag (aI (v:= .int .i64 (tK (nodes bits (dj W r.p i) R) ((dj W r.p i).idxOf (cK r.p.key i)) (ic r.p.key ((i:Nat):Int)).toNat)) rfl rfl) (ag (aI (v:= .bool (tJ (nodes bits (dj W r.p i) R) ((dj W r.p i).idxOf (cK r.p.key i)) (ic r.p.key ((i:Nat):Int)).toNat)) rfl rfl) (aT ?_));refine Gb (fun h1=>?_) fun h1=>?_
  ·
   refine al ?_;refine Gr fun w1 hw=>?_;have kz: ¬(dj W r.p (bF r.p)).length<=512:=by
    have h5:=(WH (W:=W) (p:=r.p) (show i+1<=bF r.p by omega)).length_le;have h6: ¬(dj W r.p (i+1)).length<=512:=by simpa[ho]using h1
    omega
   exact⟨(aB,tL (nodes bits (dj W r.p i) R) ((dj W r.p i).idxOf (cK r.p.key i)) (ic r.p.key i).toNat),by rw[decide_eq_false kz],fun h=>absurd h kz,ai.mem hw⟩
  refine aT ?_;refine Gi ?_;have rG:(dj W r.p (i+1)).length<=512:=by simpa[ho]using h1
  have uI:=rG;rw[tF,←Er _ _ oM]at uI;have CA:tL (nodes bits (dj W r.p i) R) ((dj W r.p i).idxOf (cK r.p.key i)) (fR r.p.key i)=nodes bits (dj W r.p (i+1)) R:=by rw[WO uH vm hk (by show i<31;omega) (uG.mono (Es _)) uI,Er _ _ oM,←tF]
  have Rb:tK (nodes bits (dj W r.p i) R) ((dj W r.p i).idxOf (cK r.p.key i)) (ic r.p.key i).toNat=(((dj W r.p (i+1)).idxOf (cK r.p.key (i+1)):Nat):Int):=by have:=WN uH (R:=R) (bits:=bits) vm hk uI;rw[Er _ _ oM,←tF]at this;exact this
  unfold fR at CA;exact aW (x:=(i,s1)) (i+1,aB) ⟨oF,by simpa[ho]using h1⟩ (by simp only;omega) (Sub.cons rfl (Sub.cons (look_eq rfl (by rw[Rb])) sb)) (fun w hw=>by rw[CA]at hw;exact ai.mem hw)
 obtain rfl:i=bF r.p:=by omega
 refine al ?_;refine ag (gE rfl) (dP ?_);refine ag (mX rfl rfl oM) (av ?_);refine ag (Ry.to (Dw rfl rfl oM) (by rw[aam eF])) (aH ?_);refine bA (X:=Nat) (fun zz=>[(12, .int .i64 (zz:Nat)),(0, .pointer (some ⟨B,0,none⟩)),(3, .pointer (some ⟨b3,0,none⟩)),(6, .int .i64 (((dj W r.p (bF r.p)).idxOf (cK r.p.key (bF r.p))):Nat)),(10, .int .i64 (ic r.p.key ((bF r.p:Nat):Int))),(11, .int .i64 (2^kO r.p:Nat))]) (fun zz=>an B (dk ⟨bits,⟨s1,[]⟩⟩) T::own cW 48 s1 (mw bits (dj W r.p (bF r.p)) R r zz)::an b3 (aq r) 34::L) (fun zz=>fR r.p.key (bF r.p)<=zz/\zz<=fR r.p.key (bF r.p)+2^kO r.p) (fun zz=>fR r.p.key (bF r.p)+2^kO r.p -zz) (fR r.p.key (bF r.p)) ⟨Nat.le_refl _,Nat.le_add_right _ _⟩ (Sub.cons (look_eq rfl (by rw[CW])) sb) (fun w hw=>by rw[WT uH eF fU];exact ai.mem hw) ?_;rintro f ⟨rT,jx⟩;refine cx ?_;refine Gb (fun h2=>?_) fun h2=>?_
 ·
  refine dP ?_;obtain⟨n,hn⟩:=get_some (xs:=(mw bits (dj W r.p (bF r.p)) R r f)) (i:=((dj W r.p (bF r.p)).idxOf (cK r.p.key (bF r.p)))) (by rw[NZ];exact dF);refine ag (aR rfl rfl ((dj W r.p (bF r.p)).idxOf (cK r.p.key (bF r.p))) rfl (by rw[NZ];exact dF)) (ag (aK rfl rfl) (ag (uX rfl rfl oM oM) (av ?_)));refine fA oK oK (av ?_);refine bx (aK rfl rfl) ?_;refine bx (Xa rfl ((dj W r.p (bF r.p)).idxOf (cK r.p.key (bF r.p))) hn f oM (by simp only[arH,aqm,aqS,apP,aqk]<;>omega)) ?_;refine aH ?_;refine Gb (fun h3=>?_) fun h3=>?_
  ·
   refine Gi ?_;refine cx ?_;refine ag (fv rfl) (Gs ?_);refine Xe rfl rfl hn f oM (by simp only[arH,aqm,aqS,apP,aqk]<;>omega) ?_;refine au ?_;refine Gi ?_;have km:(lS bits R (cK r.p.key (bF r.p)) f).len<=r.p.len:=by rw[←N1 vm oM hn];exact h3
   exact aW (x:=(f)) (f+1) ⟨oF,oF⟩ oF sb (fun w hw=>by rw[WX uH eF fU vm hn rT oM km]at hw;exact ai.mem hw)
  refine au ?_;refine Gi ?_;have km: ¬(lS bits R (cK r.p.key (bF r.p)) f).len<=r.p.len:=by rw[←N1 vm oM hn];exact h3
  exact aW (x:=(f)) (f+1) ⟨oF,oF⟩ oF sb (fun w hw=>by rw[WW uH km];exact ai.mem hw)
 obtain rfl:f=fR r.p.key (bF r.p)+2^kO r.p:=by omega
 refine al ?_;refine Gr fun w1 hw=>?_;exact⟨(s1,mw bits (dj W r.p (bF r.p)) R r (fR r.p.key (bF r.p)+2^kO r.p)),by rw[decide_eq_true az],fun _=>WU uH eF fU,ai.mem hw⟩
instance aom{w0:World}{L R1 L2:List aj}{i j:Nat}{B:Nat}{T:TypeId}{bits:Int}{s:Sv}{W:List Wy}{R:List Rt}{r:Rt}[h:Has L B (dk ⟨bits,⟨s,[]⟩⟩) T i][d1:cm L i R1][q:di R1 s cW 48 (nodes bits W R) j][d2:cm R1 j L2]:bE Tryz.prog 123 w0 L [.pointer (some ⟨B,0,none⟩), .agg (aq r)] (Sv×List Nd) (fun zz=> .bool (decide ((dj W r.p (bF r.p)).length<=512))) (fun zz=>an B (dk ⟨bits,⟨zz.1,[]⟩⟩) T::own cW 48 zz.1 zz.2::L2) (fun zz=>(dj W r.p (bF r.p)).length<=512->zz.2=nodes bits (dj W r.p (bF r.p)) (R++[r])) (aZ r.p=true/\r.p.bits=bits/\ig W/\tI bits W R/\W.length<=512):=⟨fun hp w hw=>acO w0 w L2 B T bits s W R r (lC h.h d1.h q.h d2.h hw) hp⟩
instance aon{t:Sv}{ts:List Rt}{bits:Int}[ht:ct w0 L aq 19 t ts]:bE Tryz.prog 55 w0 L [t.val, .int .i64 bits] (kP) (fun zz=> .tuple #[.agg (dk zz), .int .i64 (nv ts bits)]) (fun zz=>Deep.cd zz::L) (fun zz=>zz.bits=rW ts bits/\zz.ns.xs=rX ts bits) (True):=⟨fun aA w hw=>Gk (fun zz=>[Deep.cd zz]) hw (by
 have ht:=ht.h w hw;have l5:Gv w t aq 19 ts:=⟨ht⟩;refine cz Tryz.func55 rfl Tryz.ntmps55 rfl ?_;refine Gc ?_;refine bn fun b4=>cx ?_;refine bo rfl rfl rfl (fun hg=>bP (cZ (aw hg rfl) fu) trivial) (bo rfl rfl rfl (fun hg=>(Ry.yl (iz (aw hg rfl)))) (av ?_));refine Gb (fun h0=>?_) fun h0=>?_
 ·
  have hc: ¬(bl ts=true/\(bits=32\/bits=128)):=by rintro⟨h1,h2⟩;rcases h2 with h2|h2<;>simp[h1,h2]at h0
  obtain⟨xA,pQ,CX⟩:=W3 hc;refine Gc ?_;refine ag (fv rfl) (al ?_);refine Gr fun w1 hw=>?_;exact⟨(⟨0,⟨Sv.none,[]⟩⟩:kP),by rw[xA],⟨pQ.symm,CX.symm⟩,Mem.y8 (τ:=Nd) (enc:=cW) (c:=48) (ai.mem hw:Mem w [] _)⟩
 have hc:bl ts=true/\(bits=32\/bits=128):=by simpa using h0
 have hlen:=pV hc.1;refine av ?_;refine rH (enc:=cW) (n:=1) (cap:=1) Nd.zero rfl rfl rfl rfl rfl oM oM oM fun kc=>ag (cN (v:= .agg (dk ⟨bits,⟨⟨false,kc,0,1,1,none⟩,[]⟩⟩)) rfl (acM bits _ [])) (ag (fv rfl) (bn fun b6=>aT ?_));refine bA (X:=Nat×Sv) (fun zz=>[(24, .int .i64 (zz.1:Nat)),(6, .pointer (some ⟨b6,0,none⟩)),(1, .int .i64 bits),(4, .pointer (some ⟨b4,0,none⟩)),(22,t.val),(23, .int .i64 (ts.length:Nat))]) (fun zz=>[an b6 (dk ⟨bits,⟨zz.2,[]⟩⟩) 217,own cW 48 zz.2 (nodes bits (kt bits (ts.take zz.1)) (ts.take zz.1)),an b4 (dk (⟨0,⟨Sv.none,[]⟩⟩:kP)) 124]) (fun zz=>zz.1<=ts.length/\(kt bits (ts.take zz.1)).length<=512) (fun zz=>ts.length -zz.1) (0,⟨false,kc,0,1,1,none⟩) ⟨Nat.zero_le _,(by decide:[root].length<=512)⟩ sb (fun w hw=>by rw[show List.replicate 1 Nd.zero=nodes bits [root] []from(W2 bits).symm]at hw;exact(ai.mem hw:Mem _ [an b6 (dk ⟨bits,⟨⟨false,kc,0,1,1,none⟩,[]⟩⟩) 217,own cW 48 ⟨false,kc,0,1,1,none⟩ (nodes bits [root] []),an b4 (dk (⟨0,⟨Sv.none,[]⟩⟩:kP)) 124] _)) ?_;rintro⟨i,s1⟩ ⟨aQ,az⟩;dsimp only;simp only at aQ az;refine al ?_;refine Gb (fun h1=>?_) fun h1=>?_
 ·
  refine jS ?_;obtain⟨AK,uJ⟩:=get_some (xs:=ts) (i:=i) oM;refine ag (aR rfl rfl i rfl oM) (ag (fC rfl i uJ rfl) (bn fun b8=>dP ?_));refine Gb (fun h2=>?_) fun h2=>?_
  ·
   refine al ?_;refine Gi ?_;have tk:ts.take (i+1)=ts.take i++[AK]:=by obtain⟨hl,rfl⟩:=ad2.1 uJ;exact aqL hl
   exact aW (x:=(i,s1)) (i+1,s1) ⟨oF,by rw[BW uJ,mv,if_neg h2];exact az⟩ (by simp only;omega) sb (fun w hw=>by rw[BW uJ,mv,if_neg h2,tk,W1 h2];exact ai.mem hw)
  have hme:=rV hc.1 (alM uJ);have uH:ig (kt bits (ts.take i)):=WI fun x hx=>rV hc.1 (art hx);refine av ?_;refine aY rfl ⟨hme,h2,uH,Ir i ts,az⟩ fun jl yr=>av ?_;refine Gb (fun h3=>?_) fun h3=>?_
  ·
   have kz: ¬(kt bits ts).length<=512:=fun h=>by have h5:=(W0 (bits:=bits) (t:=ts) (show i+1<=ts.length by omega)).length_le;rw[apI,BW uJ,mv,if_pos h2]at h5;omega
   obtain⟨xA,pQ,CX⟩:=W4 hc kz;refine Gc ?_;refine ag (fv rfl) (al ?_);refine Gr fun w1 hw=>?_;exact⟨(⟨0,⟨Sv.none,[]⟩⟩:kP),by rw[xA],⟨pQ.symm,CX.symm⟩,Mem.y8 (τ:=Nd) (enc:=cW) (c:=48) (ai.mem hw:Mem w [] _)⟩
  refine al ?_;refine Gi ?_;have tk:ts.take (i+1)=ts.take i++[AK]:=by obtain⟨hl,rfl⟩:=ad2.1 uJ;exact aqL hl
  have bI:=h3;exact aW (x:=(i,s1)) (i+1,jl.1) ⟨oF,by rw[BW uJ,mv,if_pos h2];exact bI⟩ (by simp only;omega) sb (fun w hw=>by rw[BW uJ,mv,if_pos h2,tk,←yr bI];exact ai.mem hw)
 refine av ?_;refine ag (gE rfl) (al ?_);refine Gr fun w1 hw=>?_;obtain rfl:i=ts.length:=by omega
 rw[apI]at az hw;obtain⟨xA,pQ,CX⟩:=W5 hc az;exact⟨⟨bits,⟨s1,nodes bits (kt bits ts) ts⟩⟩,by rw[xA];rfl,⟨pQ.symm,CX.symm⟩,(Tr.DL (a:=(⟨s1,nodes bits (kt bits ts) ts⟩:Sl Nd))).mem (ai.mem hw)⟩)⟩
instance aoo{t:kP}[ht:aV w0 L t]:bE Tryz.prog 237 w0 L [.agg (dk t)] (Sv) (fun zz=>zz.val) (fun zz=>own bw 1 zz ((j8 t.bits t.ns.xs).getD [])::L) (fun zz=>zz.nil=(j8 t.bits t.ns.xs).isNone) (True):=⟨fun aA w hw=>Gk (fun zz=>[own bw 1 zz ((j8 t.bits t.ns.xs).getD [])]) hw (by
 have ht:=ht.h w hw;have l5:cy w t:=⟨ht⟩;have iO:=ht.1.bd;refine cw Tryz.func237 rfl Tryz.ntmps237 rfl ?_;refine Gc ?_;refine bH rfl fun b1=>VX ?_;refine Gb (fun h0=>?_) fun h0=>?_
 ·
  have hv:j8 t.bits t.ns.xs=none:=by rw[j8,if_neg];omega
  refine al ?_;refine Gr fun w1 hw=>?_;exact⟨Sv.none,rfl,by rw[hv];rfl,by rw[hv];exact Mem.cO bw 1 (ai.mem hw:Mem w [] _)⟩
 have hb:t.bits=32\/t.bits=128:=by omega
 have rG:1<=t.ns.xs.length:=by omega
 have uI:t.ns.xs.length<=512:=by omega
 have F5:j8 t.bits t.ns.xs=j7 t.bits t.ns.xs t.ns.xs.length:=by rw[j8,if_pos ⟨hb,rG,uI⟩]
 refine au ?_;refine rH (enc:=bw) (n:=t.ns.xs.length) (cap:=t.ns.xs.length) (0:Int) rfl rfl rfl rfl rfl oM oM oM fun q8=>al ?_;obtain⟨z,hz⟩:=get_some (xs:=(List.replicate t.ns.xs.length (0:Int))) (i:=0) (by simp;omega);refine ag (aR rfl rfl 0 rfl (by simp;omega)) (N5 rfl rfl hz rfl (aT ?_));refine bA (X:=Nat×List Int) (fun zz=>[(34, .int .i64 (zz.1:Nat)),(3,(⟨false,q8,0,t.ns.xs.length,t.ns.xs.length,none⟩:Sv).val),(1, .pointer (some ⟨b1,0,none⟩)),(32,t.ns.sv.val),(33, .int .i64 (t.ns.xs.length:Nat))]) (fun zz=>[own bw 1 ⟨false,q8,0,t.ns.xs.length,t.ns.xs.length,none⟩ zz.2,an b1 (dk t) 124]) (fun zz=>zz.1<=t.ns.xs.length/\j7 t.bits t.ns.xs zz.1=some zz.2/\zz.2.length=t.ns.xs.length/\(∀y∈zz.2,0<=y/\y<=33)) (fun zz=>t.ns.xs.length -zz.1) (0,(List.replicate t.ns.xs.length 0).set 0 1) ⟨Nat.zero_le _,rfl,by simp,fun y hy=>by rcases aqd hy with h|h;rw[List.eq_of_mem_replicate h];omega;omega⟩ sb (fun w hw=>ai.mem hw) ?_
 rintro⟨i,a⟩ ⟨hi,hs,ha,hy⟩;dsimp only;simp only at hi hs ha hy;refine al ?_;refine Gb (fun h1=>?_) fun h1=>?_
 ·
  refine av ?_;obtain⟨n,hn⟩:=get_some (xs:=t.ns.xs) (i:=i) oM;refine ag (aR rfl rfl i rfl oM) (ag (fC rfl i hn rfl) (bn fun b5=>al ?_));refine fA oK oK (av ?_);obtain⟨x,hx⟩:=get_some (xs:=a) (i:=i) oM;refine bx (aR rfl rfl i rfl oM) ?_;have hxr:=hy x (alM hx);refine bx (bC (j:=0) rfl i hx rfl (by decide)) (au ?_);refine eV rfl rfl rfl (fun hg=>(Ry.yl (aR (aw hg rfl) (aw hg rfl) i rfl oM))) (eV rfl rfl rfl (fun hg=>(Ry.yl (bC (j:=0) (aw hg rfl) i hx rfl (by decide)))) (av ?_));refine eV rfl rfl rfl (fun hg=>(Ry.yl (lf (aw hg rfl) rfl (by simp only[Z0,Z1,Z2,Z3,Z4,Z5,Z6,Z7,Z8,Z9]at hg;omega) (by simp only[Z0,Z1,Z2,Z3,Z4,Z5,Z6,Z7,Z8,Z9]at hg;omega)))) (al ?_);refine Gb (fun h2=>?_) fun h2=>?_
  ·
   have hv:=Zc oM hs (by rw[getD_some hx];omega);refine al ?_;refine Gr fun w1 hw=>?_;exact⟨Sv.none,rfl,by rw[hv];rfl,by rw[hv];exact Mem.cO bw 1 (ai.mem hw:Mem w [] _)⟩
  have hxn: ¬(a.getD i 0=0\/t.bits/4<a.getD i 0):=by rw[getD_some hx];omega
  refine al ?_;refine bA (X:=Nat×List Int) (fun zz=>[(54, .int .i64 (zz.1:Nat)),(3,(⟨false,q8,0,t.ns.xs.length,t.ns.xs.length,none⟩:Sv).val),(1, .pointer (some ⟨b1,0,none⟩)),(4, .int .i64 (i:Nat)),(5, .pointer (some ⟨b5,0,none⟩)),(32,t.ns.sv.val),(33, .int .i64 (t.ns.xs.length:Nat)),(34, .int .i64 (i:Nat))]) (fun zz=>[own bw 1 ⟨false,q8,0,t.ns.xs.length,t.ns.xs.length,none⟩ zz.2,an b5 (cW n) 225,an b1 (dk t) 124]) (fun zz=>zz.1<=16/\lu t.ns.xs.length i n zz.1 a=some zz.2/\zz.2.length=t.ns.xs.length/\(∀y∈zz.2,0<=y/\y<=33)/\zz.2[i]? =some x) (fun zz=>16 -zz.1) (0,a) ⟨oF,rfl,ha,hy,hx⟩ sb (fun w hw=>ai.mem hw) ?_;rintro⟨b,a2⟩ ⟨ji,AL,F6,CB,jh⟩;dsimp only;simp only at ji AL F6 CB jh;refine al ?_;refine Gb (fun h3=>?_) fun h3=>?_
  ·
   refine aT ?_;refine ag (uX rfl rfl oM oM) (ag (aK rfl rfl) ?_);refine ag (Xd rfl b oM (by simp only[arH,aqm,aqS,apP,aqk]<;>omega)) ?_;refine dP ?_;refine bo rfl rfl rfl (fun hg=>(Ry.yl (aR (aw hg rfl) (aw hg rfl) i rfl oM))) (bo rfl rfl rfl (fun hg=>(Ry.yl (bC (j:=0) (aw hg rfl) i jh rfl (by decide)))) (bo rfl rfl rfl (fun hg=>(Ry.yl (mX rfl (aw hg rfl) (by simp only[Z0,Z1,Z2,Z3,Z4,Z5,Z6,Z7,Z8,Z9]at hg;omega)))) (bo rfl rfl rfl (fun hg=>(Ry.yl (uZ (aw hg rfl) rfl (by simp only[Z0,Z1,Z2,Z3,Z4,Z5,Z6,Z7,Z8,Z9]at hg;omega)))) (al ?_))));refine Gb (fun h4=>?_) fun h4=>?_
   ·
    have hv:=PU oM hs hn (b:=b) oM AL (by rw[sF,getD_some jh,if_pos oM]);refine al ?_;refine Gr fun w1 hw=>?_;exact⟨Sv.none,rfl,by rw[hv];rfl,by rw[hv];exact Mem.cO bw 1 (ai.mem hw:Mem w [] _)⟩
   refine al ?_;refine ag (uX rfl rfl oM oM) ?_;refine ag (Xc rfl b oM (by simp only[arH,aqm,aqS,apP,aqk]<;>omega)) ?_;refine aH ?_;refine Gb (fun h5=>?_) fun h5=>?_
   ·
    have ho:sF t.ns.xs.length i n b a2=some a2:=by rw[sF,getD_some jh,if_neg oM,if_pos h5]
    refine al ?_;refine Gi ?_;exact aW (x:=(b,a2)) (b+1,a2) ⟨oF,by rw[lu,AL,aqN,ho],F6,CB,jh⟩ (by simp only;omega) sb (fun w hw=>ai.mem hw)
   refine Nk ?_;refine bo rfl rfl rfl (fun hg=>(Ry.yl (aR (aw hg rfl) (aw hg rfl) ((n.nx b).toNat) (by simp only[Z0,Z1,Z2,Z3,Z4,Z5,Z6,Z7,Z8,Z9]at hg;omega) (by simp only[Z0,Z1,Z2,Z3,Z4,Z5,Z6,Z7,Z8,Z9]at hg;omega)))) (bo rfl rfl rfl (fun hg=>(Ry.yl (bC (j:=0) (aw hg rfl) ((n.nx b).toNat) (kL (xs:=a2) (i:=(n.nx b).toNat) (d:=(0:Int)) (by simp only[Z0,Z1,Z2,Z3,Z4,Z5,Z6,Z7,Z8,Z9]at hg;omega)) rfl (by decide)))) (al ?_));refine Gb (fun h6=>?_) fun h6=>?_
   ·
    have hv:=PU oM hs hn (b:=b) oM AL (by rw[sF,getD_some jh,if_neg oM,if_neg h5,if_pos oM]);refine al ?_;refine Gr fun w1 hw=>?_;exact⟨Sv.none,rfl,by rw[hv];rfl,by rw[hv];exact Mem.cO bw 1 (ai.mem hw:Mem w [] _)⟩
   have ho:sF t.ns.xs.length i n b a2=some (a2.set (n.nx b).toNat (x+1)):=by rw[sF,getD_some jh,if_neg oM,if_neg h5,if_neg oM]
   refine aH ?_;refine ag (aR rfl rfl i rfl oM) (ag (bC (j:=0) rfl i jh rfl (by decide)) (Gs ?_));obtain⟨aop,acP⟩:=get_some (xs:=a2) (i:=(n.nx b).toNat) oM;refine ag (aR rfl rfl ((n.nx b).toNat) oM oM) (N5 rfl rfl acP rfl (al ?_));refine Gi ?_;exact aW (x:=(b,a2)) (b+1,_) ⟨oF,by rw[lu,AL,aqN,ho],by simp[F6],fun y xE=>by rcases aqd xE with h|h;exact CB y h;omega,by rw[aqG oF];exact jh⟩ (by simp only;omega) sb (fun w hw=>ai.mem hw)
  obtain rfl:b=16:=by omega
  refine al ?_;refine Gi ?_;exact aW (x:=(i,a)) (i+1,a2) ⟨oF,Zd hs hn hxn AL,F6,CB⟩ (by simp only;omega) sb (fun w hw=>ai.mem hw)
 refine au ?_;refine Gr fun w1 hw=>?_;obtain rfl:i=t.ns.xs.length:=by omega
 exact⟨⟨false,q8,0,t.ns.xs.length,t.ns.xs.length,none⟩,rfl,by rw[F5,hs];rfl,by rw[F5,hs];exact(ai.mem hw:Mem w [own bw 1 ⟨false,q8,0,t.ns.xs.length,t.ns.xs.length,none⟩ a] _)⟩)⟩
instance aoq{t:kP}[ht:aV w0 L t]:bY Tryz.prog 198 w0 L [.agg (dk t)] (.bool ((j8 t.bits t.ns.xs).isSome)) (True):=⟨fun aA w hw=>by
 have ht:=ht.h w hw;have l5:cy w t:=⟨ht⟩;refine cw Tryz.func198 rfl Tryz.ntmps198 rfl ?_;refine Gc ?_;refine bH rfl fun b1=>al ?_;refine aY rfl trivial fun x4 uG=>ag (Un Tryz.underlying60 rfl) (av ?_);refine Gr fun w1 hw=>?_;exact⟨congrArg (fun b=>Ending.returned (Value.bool b)) (by rw[uG];cases j8 t.bits t.ns.xs<;>rfl),ai.mem hw⟩⟩
instance aor{t:kP}{k:Key}[ht:aV w0 L t]:bE Tryz.prog 124 w0 L [.agg (dk t), .agg (bR k)] (Sv) (fun zz=>zz.val) (fun zz=>own bw 1 zz (lv t.bits t.ns.xs k)::L) (fun zz=>True) (True):=⟨fun aA w hw=>Gk (fun zz=>[own bw 1 zz (lv t.bits t.ns.xs k)]) hw (by
 have ht:=ht.h w hw;have l5:cy w t:=⟨ht⟩;refine cz Tryz.func124 rfl Tryz.ntmps124 rfl ?_;refine Gc ?_;refine bH rfl fun b2=>bH rfl fun b3=>av ?_;refine fA oK oK (Gq ?_);refine pI (bP rfl trivial) (av ?_);refine eV rfl rfl rfl (fun hg=>(Ry.yl (fW rfl))) (av ?_);refine eV rfl rfl rfl (fun hg=>bP (cZ (aw hg rfl) (cZ (aw hg rfl) fu)) trivial) (eV rfl rfl rfl (fun hg=>(Ry.yl (fW rfl))) (eV rfl rfl rfl (fun hg=>(Ry.yl (yR (aw hg rfl) (aw hg rfl)))) (av ?_)));refine Gb (fun h0=>?_) fun h0=>?_
 ·
  have hk:qW t.bits t.ns.xs k=false:=by rw[qW];rcases h0 with h|h;rw[h];rfl;rw[decide_eq_false h];simp
  refine al ?_;refine Gr fun w1 hw=>?_;exact⟨Sv.none,rfl,trivial,by rw[lv,if_neg (by rw[hk];simp)];exact Mem.cO bw 1 (ai.mem hw:Mem w [] _)⟩
 have hs:(j8 t.bits t.ns.xs).isSome=true:=by simpa using h0.1
 have hk:qW t.bits t.ns.xs k=true:=by rw[qW,hs];simpa using h0.2
 obtain⟨hr,hb,rG,uI⟩:=Ff hs;refine Gc ?_;refine jO (enc:=bw) (vals:=[_]) [0] rfl rfl rfl (by decide) (by decide) fun kc=>?_;refine au ?_;refine ag (lf rfl rfl oM oM) (av ?_);refine bA (X:=Nat×Sv) (fun zz=>[(23, .int .i64 (zz.1:Nat)),(5,zz.2.val),(2, .pointer (some ⟨b2,0,none⟩)),(3, .pointer (some ⟨b3,0,none⟩)),(22, .int .i64 (t.bits/4))]) (fun zz=>[own bw 1 zz.2 (ug t.ns.xs k zz.1),an b2 (dk t) 124,an b3 (bR k) 25]) (fun zz=>zz.1<=(t.bits/4).toNat/\ ∀j,j<zz.1->chain t.ns.xs k (j+1)≠0) (fun zz=>(t.bits/4).toNat -zz.1) (0,⟨false,kc,0,1,1,none⟩) ⟨Nat.zero_le _,fun j hj=>absurd hj (Nat.not_lt_zero j)⟩ sb (fun w hw=>(ai.mem hw:Mem _ [own bw 1 ⟨false,kc,0,1,1,none⟩ [0],an b2 (dk t) 124,an b3 (bR k) 25] _)) ?_;rintro⟨i,s1⟩ ⟨aQ,az⟩;dsimp only;simp only at aQ az;have qE:=Fg (k:=k) hr rG i;have bu:=tG k i;have CW:=BR k i;refine al ?_;refine Gb (fun h1=>?_) fun h1=>?_
 ·
  refine au ?_;refine fA oK oK (au ?_);refine bx (aR rfl rfl i rfl (by rw[Cj];omega)) (bx (bC (j:=0) rfl i (PX (apm i)) rfl (by decide)) (av ?_));refine pI (bP rfl trivial) ?_;obtain⟨n,hn⟩:=get_some (xs:=t.ns.xs) (i:=(chain t.ns.xs k i)) qE;refine bx (aR rfl rfl (chain t.ns.xs k i) rfl qE) (bx (aK rfl rfl) (bx (uX rfl rfl oM oM) ?_));refine bx (N4 rfl (chain t.ns.xs k i) hn ((ic k ((i:Nat):Int)).toNat) oM (by simp only[arH,aqm,aqS,apP,aqk]<;>omega)) ?_;refine aH ?_;refine Gb (fun h2=>?_) fun h2=>?_
  ·
   have h00:chain t.ns.xs k (i+1)=0:=by rw[chain,getD_some hn];have:n.nx (fR k i)=0:=h2;omega
   refine da ?_;refine LV rfl (au ?_);refine Gr fun w1 hw=>?_;exact⟨s1,rfl,trivial,by rw[lv,if_pos hk,Zk oM az h00];exact ai.mem hw⟩
  have Kx:n.nx (ic k (i:Nat)).toNat=((chain t.ns.xs k (i+1):Nat):Int):=by rw[chain,getD_some hn];have:=(hr _ n hn (fR k i) bu).1;show n.nx (fR k i)=_;omega
  refine al ?_;refine jO (enc:=bw) (vals:=[_]) [n.nx ((ic k ((i:Nat):Int)).toNat)] rfl rfl rfl (by decide) (by decide) fun iv=>?_;refine jd (s:=s1) (ys:=[n.nx ((ic k ((i:Nat):Int)).toNat)]) rfl rfl (by decide) (fun w hw=>ib (s:=⟨false,iv,0,1,1,none⟩) Tryz.underlying60 (by decide) ((inferInstance:Hd _ _ ⟨false,iv,0,1,1,none⟩ bw 1 [n.nx ((ic k ((i:Nat):Int)).toNat)]).h w hw)) (by rw[Cj];simp only[apj,apl];omega) (by rw[Cj];simp only[apj,apl];omega) fun s44 aos aot=>?_;refine au ?_;refine Gi ?_;exact aW (x:=(i,s1)) (i+1,s44) ⟨oF,fun j hj=>(apo j i).elim (az j) fun h=>by obtain rfl:j=i:=oF;intro h9;rw[h9]at Kx;exact h2 Kx⟩ (by simp only;omega) sb (fun w hw=>by rw[Zm,←Kx];exact ai.mem hw)
 refine au ?_;refine Gr fun w1 hw=>?_;exact⟨s1,rfl,trivial,by rw[lv,if_pos hk,Zl (fun j hj=>az j oM),show(t.bits/4).toNat=i by omega];exact ai.mem hw⟩)⟩
instance aou{t:kP}{k:Key}[ht:aV w0 L t]:bY Tryz.prog 56 w0 L [.agg (dk t), .agg (bR k)] (.tuple #[.int .i64 (xX t.bits t.ns.xs k), .int .u16 ((xY t.bits t.ns.xs k).toNat:Nat), .int .i64 (qc t.bits t.ns.xs k)]) (True):=⟨fun aA w hw=>by
 have ht:=ht.h w hw;have l5:cy w t:=⟨ht⟩;refine cz Tryz.func56 rfl Tryz.ntmps56 rfl ?_;refine Gc ?_;refine bH rfl fun b2=>bH rfl fun b3=>aT ?_;refine aY rfl trivial fun jJ yn=>aT ?_;refine Gb (fun h0=>?_) fun h0=>?_
 ·
  have hk:qW t.bits t.ns.xs k=false:=PZ.1 oM;have he:qc t.bits t.ns.xs k=1:=by rw[qc,if_neg (by rw[hk];simp)]
  refine aH ?_;refine Gr fun w1 hw=>?_;exact⟨by rw[xX,xY,he];rfl,ai.mem hw⟩
 have hk:qW t.bits t.ns.xs k=true:=by cases h:qW t.bits t.ns.xs k with|true=>rfl|false=>exact absurd (PZ.2 h) oM
 have hs:(j8 t.bits t.ns.xs).isSome=true:=by rw[qW,anc]at hk;exact hk.1
 obtain⟨hr,hb,rG,uI⟩:=Ff hs;refine Gc ?_;refine bn fun b8=>au ?_;refine iN ?_;refine Hk jJ fun iO=>bA (X:=Nat) (fun zz=>[(20, .int .i64 (zz:Nat)),(8, .pointer (some ⟨b8,0,none⟩)),(2, .pointer (some ⟨b2,0,none⟩)),(3, .pointer (some ⟨b3,0,none⟩)),(18,jJ.val),(19, .int .i64 ((lv t.bits t.ns.xs k).length:Nat))]) (fun zz=>[an b8 (oq (nM t.ns.xs k zz)) 221,own bw 1 jJ (lv t.bits t.ns.xs k),an b2 (dk t) 124,an b3 (bR k) 25]) (fun zz=>zz<=(lv t.bits t.ns.xs k).length) (fun zz=>(lv t.bits t.ns.xs k).length -zz) 0 (apE _) sb (fun w hw=>(ai.mem hw:Mem _ [an b8 (oq fH.no) 221,own bw 1 jJ (lv t.bits t.ns.xs k),an b2 (dk t) 124,an b3 (bR k) 25] _)) ?_;rintro i hI;have qE:=Fg (k:=k) hr rG i;have bu:=tG k i;have CW:=BR k i;refine al ?_;refine Gb (fun h1=>?_) fun h1=>?_
 ·
  refine av ?_;refine ag (aR rfl rfl i rfl oM) (ag (bC (j:=0) rfl i (Zn oM) rfl (by decide)) (al ?_));refine iE [10,11] [[],[],[],[],[],[],[],[],[],[],[],[10]] [0,1,2,3,4,5,6,7,8,9,10,11] [an b2 (dk t) 124,an b3 (bR k) 25] (fun _ hw=>ai.mem hw) oK oK (ar rfl (aK (o':=1) rfl rfl) (ar rfl (bQ rfl) (ar rfl (bf rfl) (ar rfl (fW rfl) (ar rfl (bf rfl) (rR rfl (bP rfl trivial) ?_))))));obtain⟨n,hn⟩:=get_some (xs:=t.ns.xs) (i:=(chain t.ns.xs k i)) qE;refine ar rfl (aR rfl rfl (chain t.ns.xs k i) rfl qE) (ar rfl (aK rfl rfl) (ar rfl (uX rfl rfl oM oM) ?_));refine ar rfl (Xb rfl (chain t.ns.xs k i) hn ((ic k ((i:Nat):Int)).toNat) oM (by simp only[arH,aqm,aqS,apP,aqk]<;>omega)) ?_;refine c8 rfl (M8 fun nQ=>⟨fun _ hw=>ai.mem hw,?_⟩);refine c8 rfl (np rfl rfl ⟨fun _ hw=>ai.mem hw,?_⟩);refine cx ?_;refine Gb (fun h2=>?_) fun h2=>?_
  ·
   have wg:nM t.ns.xs k (i+1)=n.sl (ic k (i:Nat)).toNat:=by simp only[nM,getD_some hn];exact if_pos h2
   refine Gi ?_;refine aH ?_;refine Gi ?_;exact aW (x:=(i)) (i+1) oF oF sb (fun w hw=>by rw[wg];exact ai.mem hw)
  have wg:nM t.ns.xs k (i+1)=nM t.ns.xs k i:=by simp only[nM,getD_some hn];exact if_neg h2
  refine al ?_;refine Gi ?_;exact aW (x:=(i)) (i+1) oF oF sb (fun w hw=>by rw[wg];exact ai.mem hw)
 refine aH ?_;refine Gb (fun h3=>?_) fun h3=>?_
 ·
  have F7:xW t.bits t.ns.xs k=nM t.ns.xs k i:=by rw[xW,show(lv t.bits t.ns.xs k).length=i by omega]
  have he:qc t.bits t.ns.xs k=6:=by rw[qc,if_pos hk,F7,if_pos h3]
  refine aH ?_;refine Gr fun w1 hw=>?_;exact⟨by rw[xX,xY,he];rfl,ai.mem hw⟩
 have F7:xW t.bits t.ns.xs k=nM t.ns.xs k i:=by rw[xW,show(lv t.bits t.ns.xs k).length=i by omega]
 have he:qc t.bits t.ns.xs k=0:=by rw[qc,if_pos hk,F7,if_neg h3]
 have RB:=PY (k:=k) hs i;refine Gc ?_;refine fA oK oK (fQ ?_);refine Gr fun w1 hw=>?_;exact⟨by rw[xX,xY,he,F7];rfl,ai.mem hw⟩⟩
end Go.Proofs.YtkggjjnhnjjokaaGreatDoor
namespace Go.Kb
open Go.ay
def acQ:Key:=n7 fun i=>if i=0 then 10 else 0
def rv(h:UInt16):Rt:=⟨⟨32,8,acQ⟩,h⟩
def Ky:CV×Int:=tP 6 2 64
def Kz:FV×Int:=ui Ky.1
def F8:FV×Int:=lB Kz.1 [⟨rv 7,false⟩]
def KA:FV×Int:=dU F8.1.aG.ak
theorem acR:Ky.2=0:=by decide+kernel
theorem acS:Kz.2=0:=by decide+kernel
theorem acT:F8.2=0:=by decide+kernel
theorem acU:KA.2=0:=by decide+kernel
def sU:Key:=n7 fun i=>if i=0 then 10 else if i=1 then 9 else 0
theorem acV:uF [49,48,46,48,46,48,46,48,47,56,32,55]=0:=by decide+kernel
theorem RT:qp [49,48,46,48,46,48,46,48,47,56,32,55]=rv 7:=by decide+kernel
theorem acW:KA.1.table=[rv 7]:=by decide+kernel
theorem acX:nv [rv 7] 32=0:=by decide+kernel
theorem acY:qc (rW [rv 7] 32) (rX [rv 7] 32) sU=0:=by decide+kernel
theorem acZ:xX (rW [rv 7] 32) (rX [rv 7] 32) sU=8:=by decide+kernel
theorem ac0:xY (rW [rv 7] 32) (rX [rv 7] 32) sU=7:=by decide+kernel
end Go.Kb
namespace Go.Proofs.YtkggjjnhnjjokaaGreatDoor
open Go.ay Go.Kb Go.RowKit
theorem ac1{f:c0}{v:FV}(e:cH f=v)(h:Qu v=true):gn f.aG.ak/\f.aG.at_.xs.length<=1000000/\f.table.xs.length<=1000000:=by
 subst e;simp only[Qu,anc,decide_eq_true_eq]at h;exact⟨r8 h.1.1,h.1.2,h.2⟩
variable {w0:World}{L:List aj}
instance aov[tb:pP w0]:bY Tryz.prog 12 w0 L [] (.bool true) (True):=⟨fun aA w hw=>by
 have tb:=tb.at hw;refine V9 Tryz.func12 rfl Tryz.ntmps12 rfl ?_;refine al ?_;refine dv (bP rfl (by decide)) (Gs ?_);refine ag (aI (v:= .agg (aq (qp [49,48,46,48,46,48,46,48,47,56,32,55]))) rfl rfl) (ag (aI (v:= .int .i64 (uF [49,48,46,48,46,48,46,48,47,56,32,55])) rfl rfl) (bn fun b1=>al ?_));refine aY rfl trivial fun gA CF=>?_;have KB:cv gA=Ky.1:=CF;have z21:(tP 6 2 64).2=0:=acR;have ac2:gn gA:=r8 (by rw[KB];decide+kernel);refine Gs ?_;refine ag (aI (v:= .agg (aU gA)) rfl rfl) (ag (aI (v:= .int .i64 ((tP 6 2 64).2)) rfl rfl) (bn fun b3=>au ?_));refine aY rfl ac2 fun iu pv=>?_;have AK:cH iu=Kz.1:=by rw[pv,KB];rfl
 have iU:(ui (cv gA)).2=0:=by rw[KB];exact acS
 have ac3:=ac1 AK (by decide+kernel);refine Gs ?_;refine ag (aI (v:= .agg (dy iu)) rfl rfl) (ag (aI (v:= .int .i64 ((ui (cv gA)).2)) rfl rfl) (bn fun b5=>aH ?_));refine ag (fv rfl) ?_;refine jO (enc:=eQ) (vals:=[_]) [(⟨(qp [49,48,46,48,46,48,46,48,47,56,32,55]),false⟩:Ch)] rfl rfl rfl (by decide) (by decide) fun iT=>?_;refine aY rfl ac3 fun jl yr=>?_;have uB:cH jl=F8.1:=by rw[yr,AK,RT];rfl
 have iV:(lB (cH iu) [(⟨(qp [49,48,46,48,46,48,46,48,47,56,32,55]),false⟩:Ch)]).2=0:=by rw[AK,RT];exact acT
 have RU:cv jl.aG.ak=F8.1.aG.ak:=congrArg (fun z:FV=>z.aG.ak) uB;refine Gs ?_;refine ag (aI (v:= .agg (dy jl)) rfl rfl) (ag (aI (v:= .int .i64 ((lB (cH iu) [(⟨(qp [49,48,46,48,46,48,46,48,47,56,32,55]),false⟩:Ch)]).2)) rfl rfl) (bn fun b7=>aH ?_));refine ag (gE rfl) (aY rfl trivial fun ir JM=>?_);have e41:cH ir=KA.1:=by rw[JM,RU];rfl
 have iW:(dU (cv jl.aG.ak)).2=0:=by rw[RU];exact acU
 have t41:ir.table.xs=[rv 7]:=(congrArg FV.table e41).trans acW;refine Gs ?_;refine ag (aI (v:= .agg (dy ir)) rfl rfl) (ag (aI (v:= .int .i64 ((dU (cv jl.aG.ak)).2)) rfl rfl) (bn fun b9=>aH ?_));refine aY rfl trivial fun kA wb=>?_;have iX:nv ir.table.xs 32=0:=by rw[t41];exact acX
 have f1:qc kA.bits kA.ns.xs sU=0:=by rw[wb.1,wb.2,t41];exact acY
 have f2:xX kA.bits kA.ns.xs sU=8:=by rw[wb.1,wb.2,t41];exact acZ
 have f3:xY kA.bits kA.ns.xs sU=7:=by rw[wb.1,wb.2,t41];exact ac0
 have iY:=acV;refine Gs ?_;refine ag (aI (v:= .agg (dk kA)) rfl rfl) (ag (aI (v:= .int .i64 (nv ir.table.xs 32)) rfl rfl) (bn fun nQ=>au ?_));refine ag (cN (v:= .agg (bR sU)) rfl (fun w=>by kernel_rfl)) (av ?_);refine ag (aI (v:= .int .i64 (xX kA.bits kA.ns.xs sU)) rfl rfl) (ag (aI (v:= .int .u16 ((xY kA.bits kA.ns.xs sU).toNat:Nat)) rfl rfl) (ag (aI (v:= .int .i64 (qc kA.bits kA.ns.xs sU)) rfl rfl) (cx ?_)));refine mq rfl rfl rfl (by simp[iY,z21,iU,iV,iW,iX,f1,f2,f3]) (Ry.yl (bf rfl)) (mq rfl rfl rfl (by simp[iY,z21,iU,iV,iW,iX,f1,f2,f3]) (Ry.yl (du rfl rfl rfl)) (ag (ve rfl (by simp[iY,z21,iU,iV,iW,iX,f1,f2,f3]) rfl rfl) (Gs ?_)));refine mq rfl rfl rfl (by simp[iY,z21,iU,iV,iW,iX,f1,f2,f3]) (Ry.yl (bf rfl)) (mq rfl rfl rfl (by simp[iY,z21,iU,iV,iW,iX,f1,f2,f3]) (Ry.yl (du rfl rfl rfl)) (ag (ve rfl (by simp[iY,z21,iU,iV,iW,iX,f1,f2,f3]) rfl rfl) (Gs ?_)));refine mq rfl rfl rfl (by simp[iY,z21,iU,iV,iW,iX,f1,f2,f3]) (Ry.yl (bf rfl)) (mq rfl rfl rfl (by simp[iY,z21,iU,iV,iW,iX,f1,f2,f3]) (Ry.yl (du rfl rfl rfl)) (ag (ve rfl (by simp[iY,z21,iU,iV,iW,iX,f1,f2,f3]) rfl rfl) (Gs ?_)));refine mq rfl rfl rfl (by simp[iY,z21,iU,iV,iW,iX,f1,f2,f3]) (Ry.yl (bf rfl)) (mq rfl rfl rfl (by simp[iY,z21,iU,iV,iW,iX,f1,f2,f3]) (Ry.yl (du rfl rfl rfl)) (ag (ve rfl (by simp[iY,z21,iU,iV,iW,iX,f1,f2,f3]) rfl rfl) (Gs ?_)));refine mq rfl rfl rfl (by simp[iY,z21,iU,iV,iW,iX,f1,f2,f3]) (Ry.yl (bf rfl)) (mq rfl rfl rfl (by simp[iY,z21,iU,iV,iW,iX,f1,f2,f3]) (Ry.yl (du rfl rfl rfl)) (ag (ve rfl (by simp[iY,z21,iU,iV,iW,iX,f1,f2,f3]) rfl rfl) (Gs ?_)));refine mq rfl rfl rfl (by simp[iY,z21,iU,iV,iW,iX,f1,f2,f3]) (Ry.yl (bf rfl)) (mq rfl rfl rfl (by simp[iY,z21,iU,iV,iW,iX,f1,f2,f3]) (Ry.yl (du rfl rfl rfl)) (ag (ve rfl (by simp[iY,z21,iU,iV,iW,iX,f1,f2,f3]) rfl rfl) (Gs ?_)));refine mq rfl rfl rfl (by simp[iY,z21,iU,iV,iW,iX,f1,f2,f3]) (Ry.yl (bf rfl)) (mq rfl rfl rfl (by simp[iY,z21,iU,iV,iW,iX,f1,f2,f3]) (Ry.yl (du rfl rfl rfl)) (ag (ve rfl (by simp[iY,z21,iU,iV,iW,iX,f1,f2,f3]) rfl rfl) (Gs ?_)));refine mq rfl rfl rfl (by simp[iY,z21,iU,iV,iW,iX,f1,f2,f3]) (Ry.yl (bf rfl)) (mq rfl rfl rfl (by simp[iY,z21,iU,iV,iW,iX,f1,f2,f3]) (Ry.yl (du rfl rfl rfl)) (ag (ve rfl (by simp[iY,z21,iU,iV,iW,iX,f1,f2,f3]) rfl rfl) (av ?_)));refine Gr fun w1 hw=>?_;exact⟨congrArg (fun b=>Ending.returned (Value.bool b)) ((by simp[f3])),ai.mem hw⟩⟩
end Go.Proofs.YtkggjjnhnjjokaaGreatDoor
namespace Go.Kb
section
variable {α:Type} (f:α->Nat)
def dW(l:List α):Prop:=l.Pairwise fun a b=>f a<=f b
structure fg(l l':List α):Prop where
 iw:dW f l'
 same: ∀k,l'.filter (fun x=>decide (f x=k))=l.filter (fun x=>decide (f x=k))
variable {f}
theorem fg.refl{l:List α}(h:dW f l):fg f l l:=⟨h,fun _=>rfl⟩
theorem fg.trans{a b c:List α}(h: ∀k,b.filter (fun x=>decide (f x=k))=a.filter (fun x=>decide (f x=k)))(h':fg f b c):fg f a c:=⟨h'.iw,fun k=>(h'.same k).trans (h k)⟩
theorem fg.mem{l l':List α}(h:fg f l l'){x:α}:x∈l'↔x∈l:=by
 have h1:=h.same (f x);have e: ∀m:List α,x∈m↔x∈m.filter fun y=>decide (f y=f x):=fun m=>by simp[apD]
 rw[e l',h1,←e l]
theorem fg.length{l l':List α}(h:fg f l l'):l'.length=l.length:=by
 have key: ∀(n:Nat) (a b:List α),a.length=n->(∀k,b.filter (fun x=>decide (f x=k))=a.filter (fun x=>decide (f x=k)))->b.length=a.length:=by
  intro n
  induction n using Nat.strongRecOn with
  |_ n ih=>
   intro a b hn hs
   cases a with
   |nil=>
    cases b with
    |nil=>rfl
    |cons y b=>have:=hs (f y);simp at this
   |cons x a=>
    have e1: ∀m:List α,m.length=(m.filter fun y=>decide (f y=f x)).length+(m.filter fun y=> !decide (f y=f x)).length:=fun m=>by
     rw[←List.countP_eq_length_filter,←List.countP_eq_length_filter]
     induction m with
     |nil=>rfl
     |cons z m ihm=>by_cases hz:f z=f x<;>simp[List.countP_cons,hz]at ihm⊢ <;>omega
    have hx:((x::a).filter fun y=> !decide (f y=f x)).length<n:=by
     have:=e1 (x::a);have h2:0<((x::a).filter fun y=>decide (f y=f x)).length:=List.length_pos_of_mem (by simp:x∈_);omega
    have yM: ∀k,(b.filter fun y=> !decide (f y=f x)).filter (fun y=>decide (f y=k))=((x::a).filter fun y=> !decide (f y=f x)).filter (fun y=>decide (f y=k)):=fun k=>by
     have sw: ∀m:List α,(m.filter fun y=> !decide (f y=f x)).filter (fun y=>decide (f y=k))=(m.filter (fun y=>decide (f y=k))).filter fun y=> !decide (f y=f x):=fun m=>by
      rw[List.filter_filter,List.filter_filter];congr 1;funext y;rw[Bool.and_comm]
     rw[sw,sw,hs k]
    have:=ih _ hx _ _ rfl yM;rw[e1 b,e1 (x::a),hs,this]
 exact key _ l l' rfl h.same
theorem RW: ∀{a b:List α},dW f a->dW f b->(∀k,a.filter (fun x=>decide (f x=k))=b.filter (fun x=>decide (f x=k)))->a=b
 |[],[],_,_,_=>rfl
 |[],y::b,_,_,h=>by have:=h (f y);simp at this
 |x::a,[],_,_,h=>by have:=h (f x);simp at this
 |x::a,y::b,ha,hb,h=>by
  have wZ:=apA.1 ha;have cD:=apA.1 hb;have hx:x∈y::b:=by
   have:=(show x∈(x::a).filter (fun z=>decide (f z=f x)) by simp);rw[h]at this;exact(apD.1 this).1
  have hy:y∈x::a:=by
   have:=(show y∈(y::b).filter (fun z=>decide (f z=f y)) by simp);rw[←h]at this;exact(apD.1 this).1
  have aow:f x<=f y:=by
   rcases apn.1 hy with e|e
   ·
    rw[e];exact apm _
   exact wZ.1 y e
  have aox:f y<=f x:=by
   rcases apn.1 hx with e|e
   ·
    rw[e];exact apm _
   exact cD.1 x e
  have hf:f x=f y:=by omega
  have h0:=h (f x);rw[apS,apS,if_pos (by simp),if_pos (by simp[hf])]at h0;have exy:=(ar8 h0).1;subst exy;congr 1;refine RW wZ.2 cD.2 fun k=>?_;have hk:=h k;rw[apS,apS]at hk
  by_cases e:f x=k
  ·
   rw[if_pos (by simp[e]),if_pos (by simp[e])]at hk;exact(ar8 hk).2
  rw[if_neg (by simp[e]),if_neg (by simp[e])]at hk;exact hk
theorem fg.uniq{l a b:List α}(ha:fg f l a)(hb:fg f l b):a=b:=RW ha.iw hb.iw fun k=>(ha.same k).trans (hb.same k).symm
def ins(f:α->Nat)(x:α):List α->List α
 |[]=>[x]
 |y::r=>if f y<f x then y::ins f x r else x::y::r
def iw(f:α->Nat)(l:List α):List α:=l.foldr (ins f) []
theorem RX{x y:α}: ∀{l:List α},y∈ins f x l↔y=x\/y∈l
 |[]=>by simp[ins]
 |z::r=>by
  rw[ins];split
  ·
   rw[apn,RX,apn];constructor
   ·
    rintro(h|h|h)<;>simp[h]
   rintro(h|h|h)<;>simp[h]
  simp
theorem RY{x:α}: ∀{l:List α},dW f l->dW f (ins f x l)
 |[],_=>List.pairwise_singleton _ _
 |y::r,h=>by
  have h':=apA.1 h;rw[ins];split
  ·
   rename_i hl;refine apA.2 ⟨fun z hz=>?_,RY h'.2⟩;rcases RX.1 hz with rfl|hz
   ·
    omega
   exact h'.1 z hz
  rename_i hl;refine apA.2 ⟨fun z hz=>?_,h⟩;rcases apn.1 hz with rfl|hz
  ·
   omega
  have:=h'.1 z hz;omega
theorem RZ{x:α}(k:Nat): ∀{l:List α},dW f l->(ins f x l).filter (fun z=>decide (f z=k))=(x::l).filter (fun z=>decide (f z=k))
 |[],_=>rfl
 |y::r,h=>by
  have h':=apA.1 h;rw[ins];split
  ·
   rename_i hl;rw[apS,RZ k h'.2];simp only[apS]
   by_cases e1:f y=k
   ·
    have e2: ¬f x=k:=by omega
    simp[e1,e2]
   simp[e1]
  rfl
theorem F9: ∀l:List α,fg f l (iw f l)
 |[]=>⟨List.Pairwise.nil,fun _=>rfl⟩
 |x::l=>by
  have ih:=F9 l;refine⟨RY ih.iw,fun k=>?_⟩;show(ins f x (iw f l)).filter _=_;rw[RZ k ih.iw,apS,apS,ih.same k]
theorem ac4{l S A B:List α}{x:α}(h:fg f l S)(hS:S=A++B)(hB: ∀y∈B,f x<f y)(hA: ∀y∈A,f y<=f x):fg f (l++[x]) (A++x::B):=by
 have hs:=h.iw;rw[hS]at hs;have hp:=aqU.1 hs;refine⟨List.pairwise_append.2 ⟨hp.1,apA.2 ⟨fun y hy=>Nat.le_of_lt (hB y hy),hp.2.1⟩,fun a ha b hb=>?_⟩,fun k=>?_⟩
 ·
  rcases apn.1 hb with rfl|hb
  ·
   exact hA a ha
  exact hp.2.2 a ha b hb
 have h1:=h.same k;rw[hS,apN]at h1;rw[apN,apN,←h1,apS]
 by_cases e:f x=k
 ·
  have hn:B.filter (fun z=>decide (f z=k))=[]:=aqJ.2 fun y hy=>by have:=hB y hy;simp;omega
  simp[e,hn]
 simp[e]
theorem ac5{a b a' b':List α}(ha:fg f a a')(hb:fg f b b')(h: ∀x∈a,∀y∈b,f x<=f y):fg f (a++b) (a'++b'):=
 ⟨List.pairwise_append.2 ⟨ha.iw,hb.iw,fun x hx y hy=>h x (ha.mem.1 hx) y (hb.mem.1 hy)⟩,fun k=>by rw[apN,apN,ha.same,hb.same]⟩
theorem ac6{L1 L2 R1 R2:List α}(h: ∀x∈L2,∀y∈R1,f y<f x)(k:Nat):((L1++R1)++(L2++R2)).filter (fun z=>decide (f z=k))=((L1++L2)++(R1++R2)).filter (fun z=>decide (f z=k)):=by
 simp only[apN,apq];congr 1;rw[←apq,←apq];congr 1
 cases hl:L2.filter (fun z=>decide (f z=k))with
 |nil=>simp
 |cons x _=>
  have hx:x∈L2.filter (fun z=>decide (f z=k)):=by rw[hl];simp
  have oh:=apD.1 hx;have hn:R1.filter (fun z=>decide (f z=k))=[]:=aqJ.2 fun y hy=>by
   have h1:=h x oh.1 y hy;have h2:f x=k:=by simpa using oh.2
   simp;omega
  rw[hn];simp
theorem R0{L1 L2 R1 R2 A B:List α}(hLR:dW f (L1++L2))(hR:dW f (R1++R2))(h1: ∀x∈L2,∀y∈R1,f y<f x)(h2: ∀x∈L1,∀y∈R2,f x<=f y)(hA:fg f (L1++R1) A)(hB:fg f (L2++R2) B):fg f ((L1++L2)++(R1++R2)) (A++B):=by
 have pL:=(aqU.1 hLR).2.2;have pR:=(aqU.1 hR).2.2;refine fg.trans (fun k=>ac6 h1 k) (ac5 hA hB fun x hx y hy=>?_);rcases apv.1 hx with hx|hx<;>rcases apv.1 hy with hy|hy
 ·
  exact pL x hx y hy
 ·
  exact h2 x hx y hy
 ·
  exact Nat.le_of_lt (h1 y hy x hx)
 exact pR x hx y hy
end
section
variable {α:Type} {f:α->Nat} {xs ys zs:List α} {a b m i j k s e:Nat}
def bg(xs:List α)(i j:Nat):List α:=(xs.drop i).take (j -i)
def rk(f:α->Nat)(xs:List α)(i:Nat):Nat:=match xs[i]?with
 |some x=>f x
 |none=>0
theorem AM{x:α}(h:xs[i]? =some x):rk f xs i=f x:=by rw[rk,h]
theorem ia(h:j<=xs.length):(bg xs i j).length=j -i:=by rw[bg,apk,apr];omega
theorem CY(h:j<=i):bg xs i j=[]:=by rw[bg,show j -i=0 by omega,apK]
theorem nV(h1:i<=k)(h2:k<=j):bg xs i j=bg xs i k++bg xs k j:=by
 unfold bg;rw[show j -i=(k -i)+(j -k) by omega,List.take_add,aq5,show i+(k -i)=k by omega]
theorem lH(h:k<j -i):(bg xs i j)[k]? =xs[i+k]? :=by rw[bg,aqy,if_pos h,apU]
theorem ac7{x:α}:x∈bg xs i j↔ ∃t,i<=t/\t<j/\xs[t]? =some x:=by
 rw[ap4];constructor
 ·
  rintro⟨t,ht⟩;have hl:=(ad2.1 ht).1;have uI:t<j -i:=by rw[bg,apk]at hl;omega
  rw[lH uI]at ht;exact⟨i+t,by omega,by omega,ht⟩
 rintro⟨t,h1,h2,h3⟩;exact⟨t -i,by rw[lH (by omega),show i+(t -i)=t by omega];exact h3⟩
theorem sV(h:j<=xs.length):dW f (bg xs i j)↔ ∀s t,i<=s->s<=t->t<j->rk f xs s<=rk f xs t:=by
 unfold dW;rw[ap7];have hl:=ia (xs:=xs) (i:=i) h;have hg: ∀t (ht:t<(bg xs i j).length),rk f xs (i+t)=f (bg xs i j)[t]:=fun t ht=>by
  refine AM ?_;rw[←lH (i:=i) (j:=j) (by omega),apF ht]
 constructor
 ·
  intro h1 s t h2 h3 h4;rcases aq2 h3 with rfl|h5
  ·
   exact apm _
  have:=h1 (s -i) (t -i) (by omega) (by omega) (by omega);rw[←hg,←hg]at this;rwa [show i+(s -i)=s by omega,show i+(t -i)=t by omega]at this
 intro h1 s t hs ht bu;have:=h1 (i+s) (i+t) (by omega) (by omega) (by omega);rwa [hg,hg]at this
def eI(f:α->Nat)(xs:List α)(a b:Nat)(ys:List α):Prop:= ∃T,fg f (bg xs a b) T/\ys=xs.take a++T++xs.drop b
theorem eI.length(h:eI f xs a b ys)(h1:a<=b)(h2:b<=xs.length):ys.length=xs.length:=by
 obtain⟨T,hT,rfl⟩:=h;have:=hT.length;rw[ia h2]at this;simp only[af0,apk,apr];omega
theorem parts(h1:a<=b)(h2:b<=xs.length):xs=xs.take a++bg xs a b++xs.drop b:=by
 rw[bg,apq]
 conv=>lhs;rw[←apH a xs,←apH (b -a) (xs.drop a),aq5,show a+(b -a)=b by omega]
theorem eI.refl(h1:a<=b)(h2:b<=xs.length)(h:dW f (bg xs a b)):eI f xs a b xs:=⟨bg xs a b,fg.refl h,parts h1 h2⟩
theorem KC{P T S:List α}(hP:P.length=a):(P++T++S)[i]? =if i<a then P[i]?else if i<a+T.length then T[i -a]?else S[i -a -T.length]? :=by
 rw[apq,aqF,hP];split
 ·
  rfl
 rw[aqF];split
 ·
  rw[if_pos (by omega)]
 rw[if_neg (by omega)]
theorem eI.get(h:eI f xs a b ys)(h1:a<=b)(h2:b<=xs.length)(hi:i<a\/b<=i):ys[i]? =xs[i]? :=by
 obtain⟨T,hT,rfl⟩:=h;have hl:=hT.length;rw[ia h2]at hl;rw[KC (a:=a) (by rw[apk];omega)];rcases hi with hi|hi
 ·
  rw[if_pos hi,aqy,if_pos hi]
 rw[if_neg (by omega),if_neg (by omega),apU];congr 1;omega
theorem yC{l:List α}(h2:j<=xs.length)(hl:l.length=j -i)(h: ∀t,i<=t->t<j->l[t -i]? =xs[t]?):bg xs i j=l:=by
 refine ap2 fun t=>?_;rcases apo t (j -i)with ht|ht
 ·
  rw[lH ht,←h (i+t) (by omega) (by omega),aqv]
 rw[apt (by rw[ia h2];exact ht),apt (by omega)]
theorem uK(hl:xs.length=ys.length)(hj:j<=xs.length)(h: ∀t,i<=t->t<j->ys[t]? =xs[t]?):bg ys i j=bg xs i j:=by
 refine ap2 fun t=>?_;rcases apo t (j -i)with ht|ht
 ·
  rw[lH ht,lH ht,h (i+t) (by omega) (by omega)]
 rw[apt (by rw[ia (by omega)];exact ht),apt (by rw[ia hj];exact ht)]
theorem eI.AN(h:eI f xs a b ys)(h1:a<=b)(h2:b<=xs.length):fg f (bg xs a b) (bg ys a b):=by
 have hl:=h.length h1 h2;obtain⟨T,hT,rfl⟩:=h;have Fv:=hT.length;rw[ia h2]at Fv;rw[yC (xs:=xs.take a++T++xs.drop b) (i:=a) (j:=b) (l:=T) (by omega) (by omega) fun t h3 h4=>by rw[KC (a:=a) (by rw[apk];omega),if_neg (by omega),if_pos (by omega)]];exact hT
theorem Ga(h1:a<=b)(h2:b<=xs.length)(hl:ys.length=xs.length)(ho: ∀i,i<a\/b<=i->ys[i]? =xs[i]?)(h:fg f (bg xs a b) (bg ys a b)):eI f xs a b ys:=by
 refine⟨_,h,?_⟩;have e:=parts (xs:=ys) h1 (by omega)
 conv=>lhs;rw[e]
 congr 1
 ·
  congr 1;refine ap2 fun i=>?_;rw[aqy,aqy];split
  ·
   exact ho i (.inl (by omega))
  rfl
 refine ap2 fun i=>?_;rw[apU,apU];exact ho _ (.inr (by omega))
def fK(xs:List α)(s m e:Nat):List α:=xs.take s++(bg xs m e++bg xs s m)++xs.drop e
theorem Gd(h1:s<=m)(h2:m<=e)(h3:e<=xs.length):(fK xs s m e).length=xs.length:=by
 unfold fK;simp only[af0,ia h3,ia (show m<=xs.length by omega),apk,apr];omega
theorem KD(h1:s<=m)(h2:m<=e)(h3:e<=xs.length):(fK xs s m e)[i]? =if i<s then xs[i]?else if i<s+(e -m)then xs[m+(i -s)]?else if i<e then xs[i -(e -m)]?else xs[i]? :=by
 have l1:=ia (xs:=xs) (i:=m) h3;have l2:=ia (xs:=xs) (i:=s) (j:=m) (by omega);unfold fK;rw[KC (a:=s) (by rw[apk];omega)];split
 ·
  rw[aqy,if_pos (by omega)]
 rw[af0,l1,l2];split
 ·
  rw[aqF,l1];split
  ·
   rw[if_pos (by omega),lH (by omega)]
  rw[if_neg (by omega),if_pos (by omega),lH (by omega)];congr 1;omega
 rw[if_neg (by omega),if_neg (by omega),apU];congr 1;omega
theorem R5(h1:a<=s)(h2:s<=m)(h3:m<=e)(h4:e<=b)(h5:b<=xs.length)(hL:dW f (bg xs a m))(hR:dW f (bg xs m b))
  (k1: ∀x∈bg xs s m,∀y∈bg xs m e,f y<f x) (k2: ∀x∈bg xs a s,∀y∈bg xs e b,f x<=f y)
  (hA:eI f (fK xs s m e) a (s+(e -m)) ys) (hB:eI f ys (s+(e -m)) b zs):eI f xs a b zs:=by
 have lr:=Gd h2 h3 (show e<=xs.length by omega);have ly:=hA.length (by omega) (by omega);have lz:=hB.length (by omega) (by omega);have gr: ∀i,(fK xs s m e)[i]? =_:=fun i=>KD (i:=i) h2 h3 (show e<=xs.length by omega);have eL:bg (fK xs s m e) a (s+(e -m))=bg xs a s++bg xs m e:=by
  refine yC (by omega) (by rw[af0,ia (by omega),ia (by omega)];omega) fun t t1 t2=>?_;rw[aqF,ia (by omega)]
  by_cases ht:t<s
  ·
   have e1:(fK xs s m e)[t]? =xs[t]? :=by rw[gr,if_pos ht]
   rw[e1,if_pos (by omega),lH (by omega)];congr 1;omega
  ·
   have e1:(fK xs s m e)[t]? =xs[m+(t -s)]? :=by rw[gr,if_neg ht,if_pos t2]
   rw[e1,if_neg (by omega),lH (by omega)];congr 1;omega
 have eR0:bg (fK xs s m e) (s+(e -m)) b=bg xs s m++bg xs e b:=by
  refine yC (by omega) (by rw[af0,ia (by omega),ia (by omega)];omega) fun t t1 t2=>?_;rw[aqF,ia (by omega)]
  by_cases ht:t<e
  ·
   have e1:(fK xs s m e)[t]? =xs[t -(e -m)]? :=by rw[gr,if_neg (by omega),if_neg (by omega),if_pos ht]
   rw[e1,if_pos (by omega),lH (by omega)];congr 1;omega
  ·
   have e1:(fK xs s m e)[t]? =xs[t]? :=by rw[gr,if_neg (by omega),if_neg (by omega),if_neg ht]
   rw[e1,if_neg (by omega),lH (by omega)];congr 1;omega
 have eR:bg ys (s+(e -m)) b=bg xs s m++bg xs e b:=by
  rw[←eR0];exact uK ly.symm (by omega) fun t t1 t2=>hA.get (by omega) (by omega) (.inr t1)
 have sA:=hA.AN (by omega) (by omega);have sB:=hB.AN (by omega) (by omega);rw[eL]at sA;rw[eR]at sB;have eA:bg zs a (s+(e -m))=bg ys a (s+(e -m)):=uK lz.symm (by omega) fun t t1 t2=>hB.get (by omega) (by omega) (.inl t2);rw[nV h1 h2]at hL;rw[nV h3 h4]at hR;have:=R0 hL hR k1 k2 sA sB;rw[←nV h1 h2,←nV h3 h4,←nV (by omega) (by omega),←eA,←nV (by omega) (by omega)]at this;refine Ga (by omega) h5 (by omega) (fun i hi=>?_) this;rw[hB.get (by omega) (by omega) (by omega),hA.get (by omega) (by omega) (by omega),gr];rcases hi with hi|hi
 ·
  rw[if_pos (by omega)]
 ·
  rw[if_neg (by omega),if_neg (by omega),if_neg (by omega)]
end
end Go.Kb
namespace Go.ay
open Go.RowKit Go.Kb
section
variable {P:Program} {w0 w:World} {L:List aj} {α:Type} {enc:α->Array Value} {c:Nat} {s:Sv} {xs:List α}
def swp(xs:List α)(i j:Nat):List α:=match xs[i]?,xs[j]?with
 |some x,some y=>(xs.set i y).set j x
 |_,_=>xs
theorem KE(xs:List α)(i j:Nat):(swp xs i j).length=xs.length:=by
 unfold swp;split<;>simp
theorem KF{i j:Nat}{x y:α}(hx:xs[i]? =some x)(hy:xs[j]? =some y)(k:Nat):(swp xs i j)[k]? =if k=j then some x else if k=i then some y else xs[k]? :=by
 have hi:=(ad2.1 hx).1;have hj:=(ad2.1 hy).1;have e:swp xs i j=(xs.set i y).set j x:=by unfold swp;rw[hx,hy]
 rw[e,aqe,aqe,ap8]
 by_cases e1:k=j
 ·
  subst e1;simp[hj]
 rw[if_neg (fun h=>e1 h.symm),if_neg e1]
 by_cases e2:k=i
 ·
  subst e2;simp[hi]
 rw[if_neg (fun h=>e2 h.symm),if_neg e2]
theorem ac8{e:TypeId}{ie:TypeInfo}(qv:P.info? e=some ie)(dO:ie.size=c)(R6: ∀w,(isAgg e).run P w= .ok true w){i j idx:Nat}[he:bk enc c](hw:Mem w0 L w)(q:di L s enc c xs idx)(hi:i<xs.length)(hj:j<xs.length):
  ∃w',(Extern.ReflectliteSwapper.swap false #[.int .i64 i, .int .i64 j,s.val,typeHandle P e]).run P w= .ok (.tuple #[]) w'/\Mem w0 (L.set idx (own enc c s (swp xs i j))) w':=by
 obtain⟨x,hx⟩:=get_some hi;obtain⟨y,hy⟩:=get_some hj;obtain⟨r,lM⟩:=hw.get q.h;have hn:=r.some hi;obtain⟨fw,_⟩:=lM hn;have hlen:=r.len;have cell: ∀k z,xs[k]? =some z-> ∀t v,(enc z).toList[t]? =some v->w.cell? ⟨s.b,s.o+k*c+t,none⟩=some v:=fun k z hz t v hv=>by
  have ht:t<c:=by rw[←he.size z];have:=(ad2.1 hv).1;simpa using this
  rw[qB];have:=r.row k z hz t ht;rw[Array.getElem?_toList]at hv;rw[←hv];exact this
 have l1:=Lib.rl_loadVar_cells (P:=P) e ie qv R6 s.b (s.o+i*c) (enc x).toList (by rw[aqO,he.size,dO]) w (cell i x hx);have l2:=Lib.rl_loadVar_cells (P:=P) e ie qv R6 s.b (s.o+j*c) (enc y).toList (by rw[aqO,he.size,dO]) w (cell j y hy);obtain⟨w1,s1,m1⟩:=DI (P:=P) (j:=0) (a':=y) (vs:=enc y) (L':=L.set idx (own enc c s (xs.set i y))) hw q hx (he.one y) (by rw[he.size];omega) (by unfold over;apply arh;simp[he.size]) ⟨rfl⟩;have dF:idx<L.length:=(ad2.1 q.h).1;have q2:di (L.set idx (own enc c s (xs.set i y))) s enc c (xs.set i y) idx:=⟨by rw[apJ dF]⟩;obtain⟨z,hz⟩:=get_some (xs:=xs.set i y) (i:=j) (by rw[ap8];exact hj);obtain⟨w2,s2,m2⟩:=DI (P:=P) (j:=0) (a':=x) (vs:=enc x) (L':=L.set idx (own enc c s ((xs.set i y).set j x))) m1 q2 hz (he.one x) (by rw[he.size];omega) (by unfold over;apply arh;simp[he.size]) ⟨by rw[List.set_set]⟩;have st: ∀(o:Nat) (vs:Array Value) (w w':World),vs.size=c->(storeCells ⟨s.b,o,none⟩ vs.toList).run P w= .ok () w'->(storeVar e ⟨s.b,o,none⟩ (.agg vs)).run P w= .ok () w':=fun o vs w w' hs h=>by
  simp[storeVar,Value.cells,sizeOf,Lib.rl_info e ie qv,dO,hs,h,Result.andThen]
 have R7:=st _ _ _ _ (he.size y) s1;have R8:=st _ _ _ _ (he.size x) s2;rw[aqk]at R7 R8;have ex:(enc x).toList.toArray=enc x:=by simp
 have ey:(enc y).toList.toArray=enc y:=by simp
 rw[ex]at l1;rw[ey]at l2;refine⟨w2,?_,?_⟩
 ·
  rw[Sv.gk hn,fw,Lib.rl_swap];have i0: ¬((i:Int)<0):=by omega
  have i1: ¬((i:Int)≥s.len):=by omega
  have j0: ¬((j:Int)<0):=by omega
  have j1: ¬((j:Int)≥s.len):=by omega
  simp[i0,i1,j0,j1,Extern.Rtype.ofHandle,handleType,typeHandle,Extern.ReflectliteSwapper.exchange,sizeOf,Lib.rl_info e ie qv,dO,Addr.add_lit,l1,l2,R7,R8,Result.andThen]
 ·
  have:swp xs i j=(xs.set i y).set j x:=by unfold swp;rw[hx,hy]
  rw[this];exact m2
end
section
variable {P:Program} {N:cc} {w0:World} {env:Env} {L:List aj} {l:List Oper} {Q:Exit->Act->World->Prop} {rest:List Oper} {d:Option Tmp} {ty:TypeId} {ps:String} {af:Array Edge} {gd:Option (Nat×Bool)}
theorem KG{f:FuncId}{fn:Func}{e:Array Value→Sem Value}{xs:List Operand}{ts:Array TypeId}{vs:List Value}(hf:P.funcs[f]? =some fn)(uL:(fn.name== "runtime.NumGoroutine")=false)(hb:fn.body.isNone=true)(hn:Extern.findNext fn=none)(he:Extern.find fn=some e)(hx:eJ env xs=some vs)
  (h: ∀w,Mem w0 L w-> ∃v w' L',(e vs.toArray).run P w= .ok v w'/\Mem w0 L' w'/\Sq P N w0 l Q rest (ca env d v) L') (hd:cM N d=true:=by rfl):
  Sq P N w0 l Q (⟨d, .call {callee:= .value (.func f),args:=xs.toArray,argTypes:=ts},ty,ps,af,none⟩::rest) env L:=
 lL rfl hd fun a w ha hw=>by
  obtain⟨v,w',L',h1,h2,h3⟩:=h w hw;refine⟨v,w',L',?_,h2,h3⟩;have hm:=ha.eJ hx;have hr:=run_callFunc_extern hf uL hb hn he vs.toArray w;rw[h1]at hr;simp[execOp,resolve,Act.eval,Deferred.ofValue,invoke,←hm]at hr⊢;rw[hr]
theorem ac9{f:FuncId}{fn:Func}{e:Array Value→Sem Value}{x:Operand}{eS:Array Value}{xs:List Operand}{ts:Array TypeId}{vs:List Value}(hf:P.funcs[f]? =some fn)(uL:(fn.name== "runtime.NumGoroutine")=false)(hb:fn.body.isNone=true)(hn:Extern.findNext fn=none)(he:Extern.find fn=some e)(hx:ev env x=some (.func (.func f) #[] eS))(ya:eJ env xs=some vs)
  (h: ∀w,Mem w0 L w-> ∃v w' L',(e (vs++eS.toList).toArray).run P w= .ok v w'/\Mem w0 L' w'/\Sq P N w0 l Q rest (ca env d v) L') (hd:cM N d=true:=by rfl):
  Sq P N w0 l Q (⟨d, .call {callee:= .value x,args:=xs.toArray,argTypes:=ts},ty,ps,af,none⟩::rest) env L:=
 lL rfl hd fun a w ha hw=>by
  obtain⟨v,w',L',h1,h2,h3⟩:=h w hw;refine⟨v,w',L',?_,h2,h3⟩;have hm:=ha.eJ ya;have hr:=run_callFunc_extern hf uL hb hn he (vs++eS.toList).toArray w;rw[h1]at hr;simp[execOp,resolve,ha.ev hx,Deferred.ofValue,invoke,←hm]at hr⊢;have e2:((List.map a.eval xs).toArray++eS)=(List.map a.eval xs++eS.toList).toArray:=by apply arh;simp
  rw[e2,hr]
theorem ada{t:TypeId}{x:Operand}{v:Value}(hu: ∃d,P.underlying t=some d/\(match d with| .interface _=>False|_=>True))(hx:ev env x=some v):Ry P N w0 env L ⟨d, .makeInterface t x,ty,ps,af,gd⟩ (.iface t v):=fun a w ha _=>by
 obtain⟨D,h1,h2⟩:=hu;have h3:(underlying t).run P w= .ok D w:=run_underlying h1 w;have h4:(Instr.makeInterface t v).run P w= .ok (.iface t v) w:=by
  unfold Instr.makeInterface;simp only[Sem.run_bind,h3,Result.andThen]
  cases D<;>first|rfl|exact h2.elim
 simp[execOp,ha.ev hx,h4,Result.andThen]
end
section
variable {α:Type} {f:α->Nat} {xs ys zs ts:List α} {a b m i j k n:Nat}
theorem AO(h:eI f xs a b ys)(h1:a<=b)(h2:b<=xs.length){x:α}:x∈ys↔x∈xs:=by
 have e:=parts (xs:=xs) h1 h2;obtain⟨T,hT,rfl⟩:=h
 conv=>rhs;rw[e]
 simp only[apv,hT.mem]
structure mR(zs ts:List α)(i j:Nat):Prop where
 len:ts.length=zs.length
 at': ∀t,ts[t]? =if t<j then zs[t]?else if t=j then zs[i]?else if t<=i then zs[t -1]?else zs[t]?
theorem mR.refl:mR zs zs i i:=⟨rfl,fun t=>by
 split
 ·
  rfl
 split
 ·
  rename_i h;rw[h]
 split
 ·
  omega
 rfl⟩
theorem mR.step(h:mR zs ts i j)(hj:0<j)(cg:j<=i)(hi:i<zs.length):mR zs (swp ts j (j -1)) i (j -1):=by
 have hl:=h.len;obtain⟨x,hx⟩:=get_some (xs:=ts) (i:=j) (by omega);obtain⟨y,hy⟩:=get_some (xs:=ts) (i:=j -1) (by omega);have ex:zs[i]? =some x:=by rw[←hx,h.at',if_neg (by omega),if_pos rfl]
 have ey:zs[j -1]? =some y:=by rw[←hy,h.at',if_pos (by omega)]
 refine⟨by rw[KE,hl],fun t=>?_⟩;rw[KF hx hy]
 by_cases e1:t=j -1
 ·
  rw[if_pos e1,if_neg (by omega),if_pos e1,ex]
 rw[if_neg e1]
 by_cases e2:t=j
 ·
  rw[if_pos e2,if_neg (by omega),if_neg e1,if_pos (by omega),e2,ey]
 rw[if_neg e2]
 by_cases e3:t<j
 ·
  have el:ts[t]? =zs[t]? :=by rw[h.at',if_pos e3]
  rw[el,if_pos (by omega)]
 rw[if_neg (show ¬t<j -1 by omega),if_neg e1,h.at',if_neg e3,if_neg e2]
theorem mR.mem(h:mR zs ts i j)(cg:j<=i)(hi:i<zs.length){x:α}(hx:x∈ts):x∈zs:=by
 obtain⟨t,ht⟩:=ap4.1 hx;rw[h.at']at ht;split at ht
 ·
  exact alM ht
 split at ht
 ·
  exact alM ht
 split at ht<;>exact alM ht
theorem mR.bg(h:mR zs ts i j)(ha:a<=j)(cg:j<=i)(hi:i<zs.length){x:α}(hx:zs[i]? =some x):bg ts a (i+1)=bg zs a j++x::bg zs j i:=by
 have hl:=h.len;refine yC (by omega) (by rw[af0,apj,ia (by omega),ia (by omega)];omega) fun t h1 h2=>?_;rw[aqF,ia (by omega),h.at']
 by_cases e1:t<j
 ·
  rw[if_pos (by omega),if_pos e1,lH (by omega),show a+(t -a)=t by omega]
 rw[if_neg (by omega),if_neg e1]
 by_cases e2:t=j
 ·
  rw[if_pos e2,show t -a -(j -a)=0 by omega,hx];rfl
 rw[if_neg e2,if_pos (by omega),show t -a -(j -a)=(t -j -1)+1 by omega,arM,lH (by omega)];congr 1;omega
theorem wx{x:α}(h:x∈bg zs i j): ∃t,i<=t/\t<j/\rk f zs t=f x:=by
 obtain⟨t,h1,h2,h3⟩:=ac7.1 h;exact⟨t,h1,h2,AM h3⟩
theorem R9(hu:eI f xs a i zs)(CZ:a<=i)(hi:i<xs.length)(h:mR zs ts i j)(ha:a<=j)(cg:j<=i)(h1: ∀t,j<=t->t<i->rk f zs i<rk f zs t)(h2:j=a\/rk f zs (j -1)<=rk f zs i):eI f xs a (i+1) ts:=by
 have lz:=hu.length CZ (by omega);have hl:=h.len;obtain⟨x,hx⟩:=get_some (xs:=zs) (i:=i) (by omega);have fx:rk f zs i=f x:=AM hx;have hs:=hu.AN CZ (by omega);have hsr:=(sV (xs:=zs) (f:=f) (i:=a) (j:=i) (by omega)).1 hs.iw;have hxx:xs[i]? =some x:=by rw[←hx];exact(hu.get CZ (by omega) (.inr (apm _))).symm
 have e1:bg xs a (i+1)=bg xs a i++[x]:=by
  rw[nV CZ (Nat.le_succ i)];congr 1;unfold Go.Kb.bg;obtain⟨hh,hv⟩:=ad2.1 hxx;rw[show i+1 -i=1 by omega,aqE hh,aqg,apK,hv]
 refine Ga (by omega) (by omega) (by omega) (fun t ht=>?_) ?_
 ·
  rw[h.at',←hu.get CZ (by omega) (i:=t) (by omega)];rcases ht with ht|ht
  ·
   rw[if_pos (by omega)]
  rw[if_neg (by omega),if_neg (by omega),if_neg (by omega)]
 rw[e1,h.bg ha cg (by omega) hx];refine ac4 hs (nV ha cg) (fun y hy=>?_) fun y hy=>?_
 ·
  obtain⟨t,t1,t2,t3⟩:=wx (f:=f) hy;rw[←t3,←fx];exact h1 t t1 t2
 obtain⟨t,t1,t2,t3⟩:=wx (f:=f) hy;rw[←t3,←fx];rcases h2 with h2|h2
 ·
  omega
 exact arv (hsr t (j -1) t1 (by omega) (by omega)) h2
theorem adb(h:a<xs.length):eI f xs a (a+1) xs:=eI.refl (Nat.le_succ a) h ((sV (by omega)).2 fun s t h1 h2 h3=>by obtain rfl:s=t:=(by omega);exact apm _)
theorem ade(h:a<=xs.length):eI f xs a a xs:=eI.refl (apm a) h (by rw[CY (apm a)];exact List.Pairwise.nil)
structure l6(xs ys:List α)(a b n:Nat):Prop where
 len:ys.length=xs.length
 at': ∀t,ys[t]? =if a<=t/\t<a+n then xs[t -a+b]?else if b<=t/\t<b+n then xs[t -b+a]?else xs[t]?
theorem l6.zero:l6 xs xs a b 0:=⟨rfl,fun t=>by rw[if_neg (by omega),if_neg (by omega)]⟩
theorem l6.step(h:l6 xs ys a b n)(h1:a+n<b)(h2:b+n<xs.length):l6 xs (swp ys (a+n) (b+n)) a b (n+1):=by
 have hl:=h.len;obtain⟨x,hx⟩:=get_some (xs:=ys) (i:=a+n) (by omega);obtain⟨y,hy⟩:=get_some (xs:=ys) (i:=b+n) (by omega);have ex:xs[a+n]? =some x:=by rw[←hx,h.at',if_neg (by omega),if_neg (by omega)]
 have ey:xs[b+n]? =some y:=by rw[←hy,h.at',if_neg (by omega),if_neg (by omega)]
 refine⟨by rw[KE,hl],fun t=>?_⟩;rw[KF hx hy]
 by_cases e1:t=b+n
 ·
  rw[if_pos e1,if_neg (by omega),if_pos (by omega),show t -b+a=a+n by omega,ex]
 rw[if_neg e1]
 by_cases e2:t=a+n
 ·
  rw[if_pos e2,if_pos (by omega),show t -a+b=b+n by omega,ey]
 rw[if_neg e2]
 by_cases e3:a<=t/\t<a+n
 ·
  have el:ys[t]? =xs[t -a+b]? :=by rw[h.at',if_pos e3]
  rw[el,if_pos (by omega)]
 by_cases e4:b<=t/\t<b+n
 ·
  have el:ys[t]? =xs[t -b+a]? :=by rw[h.at',if_neg e3,if_pos e4]
  rw[el,if_neg (by omega),if_pos (by omega)]
 have el:ys[t]? =xs[t]? :=by rw[h.at',if_neg e3,if_neg e4]
 rw[el,if_neg (by omega),if_neg (by omega)]
theorem four{P U W V S:List α}(t:Nat):(P++(U++(W++(V++S))))[t]? =if t<P.length then P[t]?else if t<P.length+U.length then U[t -P.length]?else if t<P.length+U.length+W.length then W[t -P.length -U.length]?else if t<P.length+U.length+W.length+V.length then V[t -P.length -U.length -W.length]?else S[t -P.length -U.length -W.length -V.length]? :=by
 simp only[aqF]
 by_cases c1:t<P.length
 ·
  rw[if_pos c1,if_pos c1]
 rw[if_neg c1,if_neg c1]
 by_cases c2:t<P.length+U.length
 ·
  rw[if_pos c2,if_pos (show t -P.length<U.length by omega)]
 rw[if_neg c2,if_neg (show ¬t -P.length<U.length by omega)]
 by_cases c3:t<P.length+U.length+W.length
 ·
  rw[if_pos c3,if_pos (show t -P.length -U.length<W.length by omega)]
 rw[if_neg c3,if_neg (show ¬t -P.length -U.length<W.length by omega)]
 by_cases c4:t<P.length+U.length+W.length+V.length
 ·
  rw[if_pos c4,if_pos (show t -P.length -U.length -W.length<V.length by omega)]
 rw[if_neg c4,if_neg (show ¬t -P.length -U.length -W.length<V.length by omega)]
theorem l6.app{P U W V S:List α}(h:l6 (P++(U++(W++(V++S)))) ys P.length (P.length+U.length+W.length) U.length)(he:V.length=U.length):ys=P++(V++(W++(U++S))):=by
 refine ap2 fun t=>?_
 by_cases c2:P.length<=t/\t<P.length+U.length
 ·
  have e1:ys[t]? =V[t -P.length]? :=by
   rw[h.at',if_pos c2,four,if_neg (by omega),if_neg (by omega),if_neg (by omega),if_pos (by omega)];congr 1;omega
  rw[e1,four,if_neg (by omega),if_pos (by omega)]
 by_cases c4:P.length+U.length+W.length<=t/\t<P.length+U.length+W.length+U.length
 ·
  have e1:ys[t]? =U[t -(P.length+U.length+W.length)]? :=by
   rw[h.at',if_neg c2,if_pos c4,four,if_neg (by omega),if_pos (by omega)];congr 1;omega
  rw[e1,four,if_neg (by omega),if_neg (by omega),if_neg (by omega),if_pos (by omega)];congr 1;omega
 rw[h.at',if_neg c2,if_neg c4,four,four]
 by_cases d1:t<P.length
 ·
  rw[if_pos d1,if_pos d1]
 rw[if_neg d1,if_neg d1,if_neg (show ¬t<P.length+U.length by omega),if_neg (show ¬t<P.length+V.length by omega)]
 by_cases d3:t<P.length+U.length+W.length
 ·
  rw[if_pos d3,if_pos (show t<P.length+V.length+W.length by omega),he]
 rw[if_neg d3,if_neg (show ¬t<P.length+V.length+W.length by omega),if_neg (show ¬t<P.length+U.length+W.length+V.length by omega),if_neg (show ¬t<P.length+V.length+W.length+U.length by omega),he]
def mS(cur fin:List α)(m i j:Nat):Prop:= ∃P U V S:List α,cur=P++(U++(V++S))/\fin=P++(V++(U++S))/\P.length=m -i/\U.length=i/\V.length=j/\i<=m
theorem mS.start(h1:a<=m)(h2:m<=b)(h3:b<=xs.length):mS xs (fK xs a m b) m (m -a) (b -m):=by
 refine⟨xs.take a,bg xs a m,bg xs m b,xs.drop b,?_,by rw[fK];simp only[apq],by rw[apk];omega,ia (by omega),ia h3,by omega⟩;have:=parts (xs:=xs) (show a<=b by omega) h3;rw[nV h1 h2]at this;simpa only[apq]using this
theorem mS.left{cur fin:List α}(h:mS cur fin m i j)(jr:j<=i)(hs:l6 cur ys (m -i) m j):mS ys fin m (i -j) j:=by
 obtain⟨P,U,V,S,rfl,rfl,h1,h2,h3,h4⟩:=h;obtain⟨U1,U2,rfl,hu⟩: ∃U1 U2,U=U1++U2/\U1.length=j:=⟨U.take j,U.drop j,(apH j U).symm,by rw[apk];omega⟩;have zX:U2.length=i -j:=by rw[af0]at h2;omega
 have e:=l6.app (P:=P) (U:=U1) (W:=U2) (V:=V) (S:=S) (ys:=ys) (by
  rw[show P.length=m -i from h1,hu,zX,show m -i+j+(i -j)=m by omega];simpa only[apq]using hs) (by omega)
 exact⟨P++V,U2,U1,S,by rw[e];simp only[apq],by simp only[apq],by rw[af0];omega,zX,hu,by omega⟩
theorem mS.right{cur fin:List α}(h:mS cur fin m i j)(jr:i<=j)(hs:l6 cur ys (m -i) (m+j -i) i):mS ys fin m i (j -i):=by
 obtain⟨P,U,V,S,rfl,rfl,h1,h2,h3,h4⟩:=h;obtain⟨V1,V2,rfl,hv⟩: ∃V1 V2,V=V1++V2/\V2.length=i:=⟨V.take (j -i),V.drop (j -i),(apH _ V).symm,by rw[apr];omega⟩;have D9:V1.length=j -i:=by rw[af0]at h3;omega
 have e:=l6.app (P:=P) (U:=U) (W:=V1) (V:=V2) (S:=S) (ys:=ys) (by
  rw[show P.length=m -i from h1,h2,D9,show m -i+i+(j -i)=m+j -i by omega];simpa only[apq]using hs) (by omega)
 exact⟨P,V2,V1,U++S,by rw[e],by simp only[apq],h1,hv,D9,h4⟩
theorem mS.done{cur fin:List α}(h:mS cur fin m i i)(hs:l6 cur ys (m -i) m i):ys=fin:=by
 obtain⟨P,U,V,S,rfl,rfl,h1,h2,h3,h4⟩:=h;have e:=l6.app (P:=P) (U:=U) (W:=[]) (V:=V) (S:=S) (ys:=ys) (by
  rw[h1,h2,show m -i+i+([]:List α).length=m by simp;omega];simpa using hs) (by omega)
 rw[e];simp
end
end Go.ay
namespace Go.Kb
variable {t:List Rt} {k:Key} {bits:Int}
theorem Ord.at{t:List Rt}(h:Ord t){i j:Nat}{a b:Rt}(ha:t[i]? =some a)(hb:t[j]? =some b)(jr:i<j):cC a.p b.p=true:=by
 obtain⟨hi,rfl⟩:=ad2.1 ha;obtain⟨hj,rfl⟩:=ad2.1 hb;exact(ap7.1 h.less) i j hi hj jr
variable {t u:List Rt} {r:Rt} {k:Key} {bits:Int}
theorem AP{c:Ch}(he:eE t c=0):aZ c.r.p=true:=by
 apply aql;intro hn;rw[eE,if_neg hn]at he;omega
theorem adf(hr:bl t=true)(he:eE t ⟨r,false⟩=0)(x:Rt):x∈gy t ⟨r,false⟩↔x=r\/(x∈t/\x.p≠r.p):=by
 have hm:aZ r.p=true:=AP he;have ho:=dM hr;rw[gy,if_pos he,if_neg (by simp)]
 by_cases hb:gw t r.p=true
 ·
  rw[if_pos hb];obtain⟨r0,_,h1,h2⟩:=sH hb;have hn:=(ad2.1 h1).1;have cr: ∀j y,t[j]? =some y->j≠bW t r.p->y.p≠r.p:=fun j y hy hj e=>by
   rcases arP hj with g|g
   ·
    have:=ho.at hy h1 g;rw[e,h2,kX hm]at this;cases this
   have:=ho.at h1 hy g;rw[e,h2,kX hm]at this;cases this
  constructor
  ·
   intro hx;obtain⟨j,hj⟩:=ap4.1 hx
   by_cases e:bW t r.p=j
   ·
    subst e;rw[apJ hn]at hj;exact .inl (api hj).symm
   rw[aqG e]at hj;exact .inr ⟨List.mem_of_getElem? hj,cr j x hj fun h=>e h.symm⟩
  rintro(rfl|⟨hx,hp⟩)
  ·
   exact alM (apJ hn)
  obtain⟨j,hj⟩:=ap4.1 hx;have e:bW t r.p≠j:=fun e=>by
   subst e;rw[h1]at hj;cases hj;exact hp h2
  exact alM ((aqG e).trans hj)
 rw[if_neg hb];have kz: ∀y∈t,y.p≠r.p:=fun y hy e=>hb (Ck hr hm hy e).2;have e:x∈t↔x∈t.take (bW t r.p)\/x∈t.drop (bW t r.p):=by
  rw[←apv,apH]
 simp only[apv,apn];constructor
 ·
  rintro(h|h|h)
  ·
   exact .inr ⟨e.2 (.inl h),kz x (e.2 (.inl h))⟩
  ·
   exact .inl h
  exact .inr ⟨e.2 (.inr h),kz x (e.2 (.inr h))⟩
 rintro(h|⟨h,_⟩)
 ·
  exact .inr (.inl h)
 rcases e.1 h with h|h
 ·
  exact .inl h
 exact .inr (.inr h)
variable {t u:List Rt} {r:Rt} {q p:ba}
theorem wy(hp:aZ p=true)(hq:aZ q=true)(h:cC p q=false)(hn:p≠q):cC q p=true:=by
 rw[nm hq hp];have h1: ¬cC p q=true:=by rw[h];simp
 rw[nm hp hq]at h1;have h2: ¬(p.bits=q.bits/\p.key.toNat=q.key.toNat/\p.len=q.len):=fun e=>hn (UX.2 e);omega
theorem yD(hp:aZ p=true)(hq:aZ q=true)(h:cC p q=true):cC q p=false:=by
 cases hx:cC q p with
 |false=>rfl
 |true=>rw[nm hq hp]at hx;rw[nm hp hq]at h;omega
theorem wz(hp:aZ p=true)(h:cC p q=true):p≠q:=fun e=>by subst e;rw[kX hp]at h;cases h
theorem wA{a b c:ba}(ha:aZ a=true)(hb:aZ b=true)(hc:aZ c=true)(h1:cC a b=true)(h2:cC b c=true):cC a c=true:=by
 rw[nm ha hb]at h1;rw[nm hb hc]at h2;rw[nm ha hc];omega
def px(t:List Rt)(q:ba):List Rt:=t.filter fun x=>cC x.p q
def l8(t:List Rt)(q:ba):List Rt:=t.filter fun x=>cC q x.p
theorem filter_all{α:Type}{f:α->Bool}{l:List α}(h: ∀x∈l,f x=true):l.filter f=l:=arz.2 h
theorem filter_none{α:Type}{f:α->Bool}{l:List α}(h: ∀x∈l,f x=false):l.filter f=[]:=aqJ.2 fun x hx=>by rw[h x hx];simp
theorem Ord.ext: ∀{s t:List Rt},Ord s->Ord t->(∀x,x∈s↔x∈t)->s=t
 |[],[],_,_,_=>rfl
 |[],b::t,_,_,h=>by have:=(h b).2 (apu);cases this
 |a::s,[],_,_,h=>by have:=(h a).1 (apu);cases this
 |a::s,b::t,hs,ht,h=>by
  have ha:=(apA.1 hs.less);have hb:=(apA.1 ht.less);have ma:=hs.may a apu;have mb:=ht.may b apu;have e:a=b:=by
   apply aql;intro hn;rcases apn.1 ((h a).1 apu)with h1|h1
   ·
    exact hn h1
   rcases apn.1 ((h b).2 apu)with h2|h2
   ·
    exact hn h2.symm
   have h3:=hb.1 a h1;have h4:=ha.1 b h2;rw[yD mb ma h3]at h4;cases h4
  subst e;have cr: ∀x,(∀y∈s,cC a.p y.p=true)->x∈s->x≠a:=fun x hy hx e=>by
   subst e;have:=hy x hx;rw[kX ma]at this;cases this
  rw[Ord.ext (hs.sub (apX _ _)) (ht.sub (apX _ _)) fun x=>⟨fun hx=>?_,fun hx=>?_⟩]
  ·
   rcases apn.1 ((h x).1 (apL _ hx))with h1|h1
   ·
    exact absurd h1 (cr x ha.1 hx)
   exact h1
  rcases apn.1 ((h x).2 (apL _ hx))with h1|h1
  ·
   subst h1;have:=hb.1 x hx;rw[kX ma]at this;cases this
  exact h1
theorem adg(h:bl t=true)(hq:aZ q=true):(∀x∈t.take (bW t q),cC x.p q=true)/\ ∀x∈t.drop (bW t q),cC x.p q=false:=by
 obtain⟨h1,h2,h3⟩:=P1 (p:=behind t q) (n:=t.length) fun a b=>P3 h hq a b;constructor
 ·
  intro x hx;obtain⟨i,hi⟩:=ap4.1 hx;have dF:=(ad2.1 hi).1;rw[apk]at dF;rw[aqy,if_pos (by omega)]at hi;have:=h2 i (by have:bW t q=bs (behind t q) t.length:=rfl;omega);simpa[behind,hi]using this
 intro x hx;obtain⟨i,hi⟩:=ap4.1 hx;rw[apU]at hi;have dF:=(ad2.1 hi).1;have:=h3 (bW t q+i) (Nat.le_add_right _ _) dF;simpa[behind,hi]using this
theorem Sa(h:bl t=true)(hq:aZ q=true):t.take (bW t q)=px t q/\(gw t q=true->t.drop (bW t q+1)=l8 t q)/\(gw t q=false->t.drop (bW t q)=l8 t q):=by
 obtain⟨h1,h2⟩:=adg h hq;have ho:=dM h;have e:t=t.take (bW t q)++t.drop (bW t q):=(apH _ _).symm;have hm: ∀x∈t,aZ x.p=true:=ho.may;have mt: ∀x∈t.take (bW t q),x∈t:=fun x hx=>art hx;have md: ∀x∈t.drop (bW t q),x∈t:=fun x hx=>List.mem_of_mem_drop hx;have k1:t.take (bW t q)=px t q:=by
  unfold px
  conv=>rhs;rw[e]
  rw[apN,filter_all h1,filter_none h2,apZ]
 have k2:l8 t q=l8 (t.drop (bW t q)) q:=by
  unfold l8
  conv=>lhs;rw[e]
  rw[apN,filter_none (l:=t.take (bW t q)) fun x hx=>yD (hm x (mt x hx)) hq (h1 x hx),apV]
 refine⟨k1,fun hb=>?_,fun hb=>?_⟩
 ·
  obtain⟨x,hx,hi,hp⟩:=sH hb;obtain⟨dF,nZ⟩:=ad2.1 hi;have e2:t.drop (bW t q)=x::t.drop (bW t q+1):=by rw[←nZ,arX]
  rw[k2,e2,l8,apS,hp,kX hq];simp only[aqp,if_false];refine(filter_all fun y hy=>?_).symm;obtain⟨j,hj⟩:=ap4.1 hy;rw[apU]at hj;have:=Fj h (bW t q) (bW t q+1+j) x y (by omega) hi hj;rw[hp]at this;exact this
 rw[k2];refine(filter_all fun y hy=>?_).symm;refine wy (hm y (md y hy)) hq (h2 y hy) fun ep=>?_;have:=(Ck h hq (md y hy) ep).2;rw[hb]at this;cases this
theorem adh(h:bl t=true)(he:eE t ⟨r,false⟩=0):gy t ⟨r,false⟩=px t r.p++r::l8 t r.p:=by
 obtain⟨k1,k2,k3⟩:=Sa h (AP he);rw[gy,if_pos he,if_neg (by simp)]
 by_cases hb:gw t r.p=true
 ·
  obtain⟨x,hx,hi,hp⟩:=sH hb;have dF:=(ad2.1 hi).1;rw[if_pos hb,List.set_eq_take_append_cons_drop,if_pos dF,k1,k2 hb]
 rw[if_neg hb];show t.take (bW t r.p)++r::t.drop (bW t r.p)=_;rw[k1,k3 (by simpa using hb)]
theorem Sb(h:bl t=true)(he:eE t ⟨r,true⟩=0):gy t ⟨r,true⟩=px t r.p++l8 t r.p:=by
 have hm:=AP he;obtain⟨k1,k2,k3⟩:=Sa h hm;have hb:gw t r.p=true:=by
  apply aql;intro hn;rw[eE,if_pos hm,if_neg hn,if_pos rfl]at he;omega
 rw[gy,if_pos he,if_pos rfl];show t.take (bW t r.p)++t.drop (bW t r.p+1)=_;rw[k1,k2 hb]
theorem Sc(h:Ord t)(hq:aZ q=true):t.filter (fun x=>decide (x.p≠q))=px t q++l8 t q:=by
 refine Ord.ext (h.sub aqZ) ⟨fun x hx=>?_,?_⟩ fun x=>?_
 ·
  rcases apv.1 hx with h1|h1<;>exact h.may x (apD.1 h1).1
 ·
  refine aqU.2 ⟨h.less.sublist aqZ,h.less.sublist aqZ,fun a ha b hb=>?_⟩;have ha:=apD.1 ha;have hb:=apD.1 hb;exact wA (h.may a ha.1) hq (h.may b hb.1) ha.2 hb.2
 rw[apv,apD,px,l8,apD,apD];constructor
 ·
  rintro⟨h1,h2⟩
  cases h3:cC x.p q with
  |true=>exact .inl ⟨h1,rfl⟩
  |false=>exact .inr ⟨h1,wy (h.may x h1) hq h3 (by simpa using h2)⟩
 rintro(⟨h1,h2⟩|⟨h1,h2⟩)
 ·
  exact⟨h1,by simpa using wz (h.may x h1) h2⟩
 exact⟨h1,by simpa using(wz hq h2).symm⟩
theorem adi(h:Ord t)(hr:aZ r.p=true):Ord (px t r.p++r::l8 t r.p):=by
 refine⟨fun x hx=>?_,?_⟩
 ·
  rcases apv.1 hx with h1|h1
  ·
   exact h.may x (apD.1 h1).1
  rcases apn.1 h1 with rfl|h1
  ·
   exact hr
  exact h.may x (apD.1 h1).1
 refine aqU.2 ⟨h.less.sublist aqZ,apA.2 ⟨fun y hy=>(apD.1 hy).2,h.less.sublist aqZ⟩,fun a ha b hb=>?_⟩;have ha:=apD.1 ha;rcases apn.1 hb with rfl|hb
 ·
  exact ha.2
 have hb:=apD.1 hb;exact wA (h.may a ha.1) hr (h.may b hb.1) ha.2 hb.2
theorem KH(h:bl t=true)(c:Ch):bl (gy t c)=true:=by
 by_cases he:eE t c=0
 ·
  refine P5 ?_ (P8 (pV h) c);obtain⟨r,g⟩:=c
  cases g with
  |false=>rw[adh h he];exact adi (dM h) (AP he)
  |true=>rw[Sb h he,←Sc (dM h) (AP he)];exact(dM h).sub aqZ
 rw[gy,if_neg he];exact h
def uM(r:Rt):List Rt->Bool->List Rt
 |[],d=>if d=true then[]else[r]
 |x::l,d=>(if(!d&& !cC x.p r.p)=true then[r]else[])++((if x.p≠r.p then[x]else[])++uM r l (d|| !cC x.p r.p))
theorem Sd(r:Rt): ∀l,uM r l true=l.filter fun x=>decide (x.p≠r.p)
 |[]=>rfl
 |x::l=>by
  rw[uM,Bool.true_or,Sd r l,apS]
  by_cases h:x.p=r.p<;>simp[h]
theorem KI(hr:aZ r.p=true): ∀{t:List Rt},Ord t->uM r t false=px t r.p++r::l8 t r.p
 |[],_=>rfl
 |x::l,h=>by
  have hl:=h.sub (apX x l);have mx:=h.may x apu;rw[uM]
  cases hx:cC x.p r.p with
  |true=>
   have hn:=wz mx hx;rw[show(false|| !true)=false from rfl,KI hr hl];simp[hn,px,l8,apS,hx,yD mx hr hx]
  |false=>
   rw[show(false|| !false)=true from rfl,Sd];have hp:=(apA.1 h.less).1;have hg: ∀y∈l,cC r.p y.p=true:=fun y hy=>by
    by_cases e:x.p=r.p
    ·
     rw[←e];exact hp y hy
    exact wA hr mx (hl.may y hy) (wy mx hr hx e) (hp y hy)
   have e1:px (x::l) r.p=[]:=filter_none fun y hy=>by
    rcases apn.1 hy with rfl|hy
    ·
     exact hx
    exact yD hr (hl.may y hy) (hg y hy)
   have e2:l.filter (fun y=>decide (y.p≠r.p))=l:=filter_all fun y hy=>by simpa using(wz hr (hg y hy)).symm
   have e3:l8 l r.p=l:=filter_all hg;rw[e1,e2,l8,apS,show l.filter (fun y=>cC r.p y.p)=l from e3]
   by_cases e:x.p=r.p
   ·
    rw[e,kX hr];simp
   rw[wy mx hr hx e];simp[e]
def qq(t:List Rt)(q:ba):Int:=if aZ q=true then(if(t.any fun x=>decide (x.p=q))=true then 0 else 6)else 1
def yE(t:List Rt)(q:ba):UInt16:=if aZ q=true then((t.find? fun x=>decide (x.p=q)).map Rt.bN).getD 0 else 0
theorem adj(h:bl t=true)(hq:aZ q=true):(t.any fun x=>decide (x.p=q))=gw t q:=by
 cases hb:gw t q with
 |true=>
  obtain⟨x,hx,_,hp⟩:=sH hb;exact List.any_eq_true.2 ⟨x,hx,by simp[hp]⟩
 |false=>
  refine List.any_eq_false.2 fun x hx=>?_;have hn:x.p≠q:=fun e=>by have:=(Ck h hq hx e).2;rw[hb]at this;cases this
  simp[hn]
theorem adk(h:bl t=true)(c:Ch):eE t c=if qq t c.r.p=1\/(qq t c.r.p=6/\c.gone=true)then qq t c.r.p else if qq t c.r.p=6/\256<=t.length then 5 else 0:=by
 unfold eE qq
 by_cases hm:aZ c.r.p=true
 ·
  rw[if_pos hm,if_pos hm,adj h hm]
  cases gw t c.r.p<;>cases c.gone<;>simp
 rw[if_neg hm,if_neg hm];simp
theorem adl(h:aZ q=false):qq t q=1/\yE t q=0:=by simp[qq,yE,h]
theorem KJ(hm:aZ q=true)(h: ∀x∈t,x.p≠q):qq t q=6/\yE t q=0:=by
 have h1:(t.any fun x=>decide (x.p=q))=false:=List.any_eq_false.2 fun x hx=>by simp[h x hx]
 have h2:(t.find? fun x=>decide (x.p=q))=none:=arV.2 fun x hx=>by simp[h x hx]
 simp[qq,yE,hm,h1,h2]
theorem adm{i:Nat}{e:Rt}(hm:aZ q=true)(kz: ∀x∈t.take i,x.p≠q)(he:t[i]? =some e)(hp:e.p=q):qq t q=0/\yE t q=e.bN:=by
 obtain⟨hi,oJ⟩:=ad2.1 he;have ht:t=t.take i++e::t.drop (i+1):=by rw[←oJ,arX,apH]
 have h1:(t.any fun x=>decide (x.p=q))=true:=List.any_eq_true.2 ⟨e,alM he,by simp[hp]⟩;have h2:(t.find? fun x=>decide (x.p=q))=some e:=by
  rw[ht,List.find?_append,arV.2 fun x hx=>by simp[kz x hx]];simp[hp]
 rw[qq,yE,if_pos hm,if_pos hm,if_pos h1,h2];exact⟨rfl,rfl⟩
theorem adn{α:Type}{f:α->Bool}{l:List α}{i:Nat}{e:α}(he:l[i]? =some e):(l.take (i+1)).filter f=(l.take i).filter f++(if f e=true then[e]else[]):=by
 rw[aps,he,apN]
 cases h:f e<;>simp[h]
theorem ado(h:bl t=true)(he:eE t ⟨r,true⟩=0):gy t ⟨r,true⟩=t.filter fun x=>decide (x.p≠r.p):=by rw[Sb h he,Sc (dM h) (AP he)]
end Go.Kb
namespace Go.ay
open Go.Kb
def wB(p:ba):Nat:=(p.bits.toNat*2^128+p.key.toNat)*256+p.len.toNat
def bO(r:Rt):Nat:=wB r.p
def fL(xs:List Rt):Prop:= ∀x∈xs,aZ x.p=true
theorem Se{p q:ba}(hp:aZ p=true)(hq:aZ q=true):cC p q=decide (wB p<wB q):=by
 rw[Bool.eq_iff_iff,decide_eq_true_iff,nm hp hq];obtain⟨a1,a2,a3,_⟩:=(pM p).1 hp;obtain⟨b1,b2,b3,_⟩:=(pM q).1 hq;have:=p.key.isLt;have:=q.key.isLt;unfold wB;omega
theorem KK{p q:ba}(hp:aZ p=true)(hq:aZ q=true)(h:wB p=wB q):p=q:=by
 obtain⟨a1,a2,a3,_⟩:=(pM p).1 hp;obtain⟨b1,b2,b3,_⟩:=(pM q).1 hq;have h1:=p.key.isLt;have h2:=q.key.isLt;unfold wB at h
 cases p;cases q
 simp only[ba.mk.injEq]at*;refine⟨by omega,by omega,arB (by omega)⟩
def C0(xs:List Rt)(i j:Int):Bool:=cC (xs.getD i.toNat cP).p (xs.getD j.toNat cP).p
theorem wC{xs:List Rt}(h:fL xs){i j:Int}{s t:Nat}(ei:i.toNat=s)(ej:j.toNat=t)(hi:s<xs.length)(hj:t<xs.length):C0 xs i j=decide (rk bO xs s<rk bO xs t):=by
 obtain⟨x,hx⟩:=get_some (xs:=xs) (i:=s) hi;obtain⟨y,hy⟩:=get_some (xs:=xs) (i:=t) hj;have e1:xs.getD s cP=x:=by simp[List.getD,hx]
 have e2:xs.getD t cP=y:=by simp[List.getD,hy]
 unfold C0;rw[ei,ej,e1,e2,Se (h x (alM hx)) (h y (alM hy)),AM hx,AM hy];rfl
section
variable {α:Type} {f:α->Nat} {xs ys zs ts:List α} {a b c m i j k n s e:Nat}
theorem adp(h1:s<=m)(h2:m<=e)(h3:e<=xs.length){x:α}(h:x∈fK xs s m e):x∈xs:=by
 obtain⟨t,ht⟩:=ap4.1 h;rw[KD h1 h2 h3]at ht;split at ht
 ·
  exact alM ht
 split at ht
 ·
  exact alM ht
 split at ht<;>exact alM ht
theorem Sf(h:mR zs ts i j):rk f ts j=rk f zs i:=by
 unfold Go.Kb.rk;rw[h.at',if_neg (Nat.lt_irrefl _),if_pos rfl]
theorem Sg(h:mR zs ts i j)(hj:0<j):rk f ts (j -1)=rk f zs (j -1):=by
 unfold Go.Kb.rk;rw[h.at',if_pos (by omega)]
structure sW(zs ts:List α)(a k:Nat):Prop where
 len:ts.length=zs.length
 at': ∀t,ts[t]? =if t<a then zs[t]?else if t<k then zs[t+1]?else if t=k then zs[a]?else zs[t]?
theorem sW.refl:sW zs zs a a:=⟨rfl,fun t=>by
 by_cases h1:t<a
 ·
  rw[if_pos h1]
 rw[if_neg h1,if_neg h1];split
 ·
  rename_i h;rw[h]
 rfl⟩
theorem sW.step(h:sW zs ts a k)(hak:a<=k)(hk:k+1<zs.length):sW zs (swp ts k (k+1)) a (k+1):=by
 have hl:=h.len;obtain⟨x,hx⟩:=get_some (xs:=ts) (i:=k) (by omega);obtain⟨y,hy⟩:=get_some (xs:=ts) (i:=k+1) (by omega);have ex:zs[a]? =some x:=by rw[←hx,h.at',if_neg (by omega),if_neg (by omega),if_pos rfl]
 have ey:zs[k+1]? =some y:=by rw[←hy,h.at',if_neg (by omega),if_neg (by omega),if_neg (by omega)]
 refine⟨by rw[KE,hl],fun t=>?_⟩;rw[KF hx hy]
 by_cases e1:t=k+1
 ·
  rw[if_pos e1,if_neg (by omega),if_neg (by omega),if_pos e1,ex]
 rw[if_neg e1]
 by_cases e2:t=k
 ·
  rw[if_pos e2,if_neg (by omega),if_pos (by omega),e2,ey]
 rw[if_neg e2]
 by_cases e3:t<a
 ·
  have el:ts[t]? =zs[t]? :=by rw[h.at',if_pos e3]
  rw[el,if_pos e3]
 by_cases e4:t<k
 ·
  have el:ts[t]? =zs[t+1]? :=by rw[h.at',if_neg e3,if_pos e4]
  rw[el,if_neg e3,if_pos (by omega)]
 have el:ts[t]? =zs[t]? :=by rw[h.at',if_neg e3,if_neg e4,if_neg e2]
 rw[el,if_neg e3,if_neg (by omega),if_neg e1]
theorem sW.mem(h:sW zs ts a k){x:α}(hx:x∈ts):x∈zs:=by
 obtain⟨t,ht⟩:=ap4.1 hx;rw[h.at']at ht;split at ht
 ·
  exact alM ht
 split at ht
 ·
  exact alM ht
 split at ht<;>exact alM ht
theorem adq{x:α}(h:xs[i]? =some x):bg xs i (i+1)=[x]:=by
 unfold Go.Kb.bg;obtain⟨hh,hv⟩:=ad2.1 h;rw[show i+1 -i=1 by omega,aqE hh,aqg,apK,hv]
theorem AQ(h:dW f (bg xs i j))(hj:j<=xs.length)(h1:i<=s)(h2:e<=j):dW f (bg xs s e):=
 (sV (by omega)).2 fun p q hp hq he=>(sV hj).1 h p q (by omega) hq (by omega)
theorem adr(h:sW xs ts a (i -1))(h1:a+1<=i)(h2:i<=b)(h3:b<=xs.length)(hs:dW f (bg xs (a+1) b))(k1: ∀t,a+1<=t->t<i->rk f xs t<rk f xs a)(k2: ∀t,i<=t->t<b->rk f xs a<=rk f xs t):eI f xs a b ts:=by
 have hl:=h.len;obtain⟨x,hx⟩:=get_some (xs:=xs) (i:=a) (by omega);have fx:rk f xs a=f x:=AM hx;have e1:bg xs a b=([]++[x])++(bg xs (a+1) i++bg xs i b):=by
  rw[nV (show a<=a+1 by omega) (show a+1<=b by omega),adq hx,nV h1 h2];rfl
 have e2:bg ts a b=bg xs (a+1) i++([x]++bg xs i b):=by
  refine yC (by omega) (by simp only[af0,apj,apl];rw[ia (by omega),ia (by omega)];omega) fun t t1 t2=>?_;rw[aqF,ia (by omega),h.at',if_neg (show ¬t<a by omega)]
  by_cases c1:t<i -1
  ·
   rw[if_pos (by omega),if_pos c1,lH (by omega)];congr 1;omega
  rw[if_neg (by omega),if_neg c1]
  by_cases c2:t=i -1
  ·
   rw[if_pos c2,show t -a -(i -(a+1))=0 by omega,hx];rfl
  rw[if_neg c2,show t -a -(i -(a+1))=(t -i)+1 by omega];show(bg xs i b)[t -i]? =_;rw[lH (by omega)];congr 1;omega
 refine Ga (by omega) h3 (by omega) (fun t ht=>?_) ?_
 ·
  rw[h.at'];rcases ht with ht|ht
  ·
   rw[if_pos ht]
  rw[if_neg (by omega),if_neg (by omega),if_neg (by omega)]
 have hb: ∀y∈bg xs i b,f x<=f y:=fun y hy=>by
  obtain⟨t,t1,t2,t3⟩:=wx (f:=f) hy;rw[←t3,←fx];exact k2 t t1 t2
 rw[e1,e2];refine R0 (List.pairwise_singleton _ _) (by rw[←nV h1 h2];exact hs) (fun z hz y hy=>?_) (fun z hz=>by cases hz) (fg.refl ?_) (fg.refl ?_)
 ·
  obtain rfl:z=x:=by simpa using hz
  obtain⟨t,t1,t2,t3⟩:=wx (f:=f) hy;rw[←t3,←fx];exact k1 t t1 t2
 ·
  exact AQ hs h3 (apm _) h2
 exact apA.2 ⟨hb,AQ hs h3 h1 (apm _)⟩
theorem ads(h1:s<=m)(h2:m<=e)(h3:e<=xs.length)(h: ¬(s<m/\m<e)):fK xs s m e=xs:=by
 have:=parts (xs:=xs) (show s<=e by omega) h3;unfold fK;rw[nV h1 h2]at this;rcases apo s m with h4|h4
 ·
  have h5:e<=m:=Nat.le_of_not_lt fun h5=>h ⟨h4,h5⟩;rw[CY h5]at this⊢;simpa using this.symm
 rw[CY h4]at this⊢;simpa using this.symm
theorem adt(h1:a<=s)(h2:s<=m)(h3:m<=e)(h4:e<=b)(h5:b<=xs.length):bg (fK xs s m e) a s=bg xs a s/\bg (fK xs s m e) s (s+(e -m))=bg xs m e/\bg (fK xs s m e) (s+(e -m)) e=bg xs s m/\bg (fK xs s m e) e b=bg xs e b:=by
 have lr:=Gd h2 h3 (show e<=xs.length by omega);have gr: ∀i,(fK xs s m e)[i]? =_:=fun i=>KD (i:=i) h2 h3 (show e<=xs.length by omega);refine⟨?_,?_,?_,?_⟩
 ·
  exact uK lr.symm (by omega) fun t t1 t2=>by rw[gr,if_pos t2]
 ·
  refine yC (by omega) (by rw[ia (by omega)];omega) fun t t1 t2=>?_;rw[gr,if_neg (by omega),if_pos t2,lH (by omega)]
 ·
  refine yC (by omega) (by rw[ia (by omega)];omega) fun t t1 t2=>?_;rw[gr,if_neg (by omega),if_neg (by omega),if_pos t2,lH (by omega)];congr 1;omega
 exact uK lr.symm (by omega) fun t t1 t2=>by rw[gr,if_neg (by omega),if_neg (by omega),if_neg (by omega)]
theorem Sh(h1:a<=s)(h2:s<=c)(h3:c<=xs.length)(h: ¬(a<s/\s<c))(hA:dW f (bg xs a s))(hB:dW f (bg xs s c)):eI f xs a c xs:=by
 refine eI.refl (by omega) h3 ?_;rcases apo a s with h4|h4
 ·
  obtain rfl:s=c:=by omega
  exact hA
 obtain rfl:a=s:=by omega
 exact hB
theorem Si(hu:eI f xs a c ys)(h1:a<=c)(h2:c<=i)(h3:i<=j)(h4:j<=xs.length):bg ys i j=bg xs i j:=
 uK (hu.length h1 (by omega)).symm h4 fun t t1 t2=>hu.get h1 (by omega) (.inr (by omega))
theorem adu(hL:dW f (bg xs a m))(hR:dW f (bg xs m b))(h1:a<=s)(h2:s<=m)(h3:m<=e)(h4:e<=b)(h5:b<=xs.length)(h:s=m\/e=m\/rk f xs (e -1)<rk f xs s): ∀x∈bg xs s m,∀y∈bg xs m e,f y<f x:=fun x hx y hy=>by
 obtain⟨t,t1,t2,t3⟩:=wx (f:=f) hx;obtain⟨u,u1,u2,u3⟩:=wx (f:=f) hy;have:=(sV (by omega)).1 hL s t h1 t1 t2;have:=(sV h5).1 hR u (e -1) u1 (by omega) (by omega);omega
theorem adv(hL:dW f (bg xs a m))(hR:dW f (bg xs m b))(h1:a<=s)(h2:s<=m)(h3:m<=e)(h4:e<=b)(h5:b<=xs.length)(h:s=a\/e=b\/rk f xs (s -1)<=rk f xs e): ∀x∈bg xs a s,∀y∈bg xs e b,f x<=f y:=fun x hx y hy=>by
 obtain⟨t,t1,t2,t3⟩:=wx (f:=f) hx;obtain⟨u,u1,u2,u3⟩:=wx (f:=f) hy;have:=(sV (by omega)).1 hL t (s -1) t1 (by omega) (by omega);have:=(sV h5).1 hR e u h3 u1 u2;omega
def Bk(f:α->Nat)(xs ys:List α)(c lo hi:Nat):Prop:= ∀s,lo<=s->s<hi->s%c=0->fg f (bg xs s (min (s+c) xs.length)) (bg ys s (min (s+c) xs.length))
theorem Gj(hs:s%c=0)(ha:a%c=0)(h:s<a):s+c<=a:=by
 obtain⟨p,rfl⟩:=arY hs;obtain⟨q,rfl⟩:=arY ha;have:p<q:=Nat.lt_of_mul_lt_mul_left h
 calc c*p+c=c*(p+1):=by rw[Nat.mul_succ]
  _<=c*q:=Nat.mul_le_mul_left c this
theorem Sj(hl:ys.length=xs.length)(hb:Bk f xs ys c 0 a)(ha:a%c=0)(mU:a<=b)(eb:b=min (a+c) xs.length)(kb: ∀t,a<=t->ys[t]? =xs[t]?)(hu:eI f ys a b zs):zs.length=xs.length/\Bk f xs zs c 0 b/\ ∀t,b<=t->zs[t]? =xs[t]? :=by
 have lz:=hu.length mU (by omega);refine⟨by omega,fun s _ hs h0=>?_,fun t ht=>by rw[hu.get mU (by omega) (.inr ht),kb t (by omega)]⟩;rcases apo s a with h1|h1
 ·
  have hg:=Gj h0 ha h1;have:=hb s (apE _) h1 h0;rwa [show bg zs s (min (s+c) xs.length)=bg ys s (min (s+c) xs.length)from uK lz.symm (by omega) fun t t1 t2=>hu.get mU (by omega) (.inl (by omega))]
 obtain rfl:s=a:=by
  rcases aq2 h1 with h2|h2
  ·
   exact h2.symm
  have:=Gj ha h0 h2;omega
 rw[←eb];have h2:=hu.AN mU (by omega);rwa [show bg ys s b=bg xs s b from uK hl.symm (by omega) fun t t1 _=>kb t t1]at h2
theorem Sk(hl:ys.length=xs.length)(hb:Bk f xs ys (2*c) 0 a)(hc:Bk f xs ys c a xs.length)(ha:a%(2*c)=0)(Q8:0<c)(KL:a+c<xs.length)(eb:b=min (a+2*c) xs.length)(hu:eI f ys a b zs):zs.length=xs.length/\Bk f xs zs (2*c) 0 b/\Bk f xs zs c b xs.length:=by
 have lz:=hu.length (by omega) (by omega);have xZ:a%c=0:=by
  obtain⟨p,rfl⟩:=arY ha;rw[aqt 2 c,Nat.mul_assoc,Nat.mul_mod_right]
 refine⟨by omega,fun s _ hs h0=>?_,fun s h1 h2 h0=>?_⟩
 ·
  rcases apo s a with h1|h1
  ·
   have hg:=Gj h0 ha h1;have:=hb s (apE _) h1 h0;rwa [show bg zs s (min (s+2*c) xs.length)=bg ys s (min (s+2*c) xs.length)from uK lz.symm (by omega) fun t t1 t2=>hu.get (by omega) (by omega) (.inl (by omega))]
  obtain rfl:s=a:=by
   rcases aq2 h1 with h2|h2
   ·
    exact h2.symm
   have:=Gj ha h0 h2;omega
  rw[←eb];have b1:=hc s (apm _) (by omega) xZ;have b2:=hc (s+c) (by omega) KL (by rw[Nat.add_mod_right];exact xZ);rw[show min (s+c) xs.length=s+c by omega]at b1;rw[show min (s+c+c) xs.length=b by omega]at b2;refine fg.trans (fun k=>?_) (hu.AN (by omega) (by omega));rw[nV (xs:=ys) (show s<=s+c by omega) (show s+c<=b by omega),nV (xs:=xs) (show s<=s+c by omega) (show s+c<=b by omega),apN,apN,b1.same k,b2.same k]
 have:=hc s (by omega) h2 h0;rwa [show bg zs s (min (s+c) xs.length)=bg ys s (min (s+c) xs.length)from uK lz.symm (by omega) fun t t1 t2=>hu.get (by omega) (by omega) (.inr (by omega))]
theorem Gl(hl:ys.length=xs.length)(hc:Bk f xs ys c a xs.length)(xZ:a%c=0)(KL:a+c<xs.length)(eb:b=min (a+c+c) xs.length):dW f (bg ys a (a+c))/\dW f (bg ys (a+c) b):=by
 have b1:=hc a (apm _) (by omega) xZ;have b2:=hc (a+c) (by omega) KL (by rw[Nat.add_mod_right];exact xZ);rw[show min (a+c) xs.length=a+c by omega]at b1;rw[←eb]at b2;exact⟨b1.iw,b2.iw⟩
theorem C1(h:a%(2*c)=0):a%c=0:=by
 obtain⟨p,rfl⟩:=arY h;rw[aqt 2 c,Nat.mul_assoc,Nat.mul_mod_right]
theorem adw(hb:Bk f xs ys (2*c) 0 a)(hc:Bk f xs ys c a xs.length)(ha:a%(2*c)=0)(jw:xs.length<=a+c):Bk f xs ys (2*c) 0 xs.length:=fun s _ hs h0=>by
 rcases apo s a with h1|h1
 ·
  exact hb s (apE _) h1 h0
 have:=hc s h1 hs (C1 h0);rwa [show min (s+2*c) xs.length=min (s+c) xs.length by omega]
theorem adx(hl:ys.length=xs.length)(hb:Bk f xs ys c 0 xs.length)(hc:xs.length<=c):eI f xs 0 xs.length ys:=by
 refine Ga (apE _) (apm _) hl (fun t ht=>?_) ?_
 ·
  rw[apt (by omega),apt (by omega)]
 rcases aqq xs.length with h0|h0
 ·
  rw[h0,CY (apm 0),CY (apm 0)];exact fg.refl List.Pairwise.nil
 have:=hb 0 (apm _) h0 (Nat.zero_mod c);rwa [show min (0+c) xs.length=xs.length by omega]at this
theorem ady(h:eI f xs 0 xs.length ys):fg f xs ys:=by
 have:=h.AN (apE _) (apm _);have hl:=h.length (apE _) (apm _);have e: ∀l:List α,bg l 0 l.length=l:=fun l=>by unfold Go.Kb.bg;simp
 rw[e xs,←hl,e ys]at this;exact this
theorem mS.len{cur fin:List α}(h:mS cur fin m i j):m+j<=cur.length/\i<=m:=by
 obtain⟨P,U,V,S,rfl,_,h1,h2,h3,h4⟩:=h;refine⟨?_,h4⟩;simp only[af0];omega
theorem mS.same{cur fin:List α}(h:mS cur fin m i j){x:α}:x∈cur↔x∈fin:=by
 obtain⟨P,U,V,S,rfl,rfl,_,_,_,_⟩:=h;simp only[apv];constructor
 ·
  rintro(h|h|h|h)
  ·
   exact .inl h
  ·
   exact .inr (.inr (.inl h))
  ·
   exact .inr (.inl h)
  exact .inr (.inr (.inr h))
 rintro(h|h|h|h)
 ·
  exact .inl h
 ·
  exact .inr (.inr (.inl h))
 ·
  exact .inr (.inl h)
 exact .inr (.inr (.inr h))
end
open Go.RowKit
section
variable {P:Program} {N:cc} {w0:World} {env:Env} {L:List aj} {l:List Oper} {Q:Exit->Act->World->Prop} {rest:List Oper} {d:Option Tmp} {ty:TypeId} {ps:String} {af:Array Edge} {gd:Option (Nat×Bool)}
theorem adz{f:FuncId}(hf:aE P f){ρ:Operand->Value}{x:Operand}{eS:Array Value}{xs:List Operand}{ts:Array TypeId}(w:World)(GW:ρ x= .func (.func f) #[] eS):
  (execOp ρ ⟨d, .call {callee:= .value x,args:=xs.toArray,argTypes:=ts},ty,ps,af,gd⟩).run P w= .ok (.enter f (xs.map ρ++eS.toList).toArray) w:=by
 obtain⟨fn,h1,h2,h3⟩:=hf.fn;have Bc: ¬fn.body=none:=fun e=>by simp[e]at h2
 have uY: ¬fn.name= "runtime.NumGoroutine" :=by simpa using h3
 have e:((List.map ρ xs).toArray++eS)=(List.map ρ xs++eS.toList).toArray:=by apply arh;simp
 simp[execOp,resolve,GW,Deferred.ofValue,invoke,callFunc,h1,Bc,uY,Result.andThen,e]
theorem wD{f:FuncId}{x:Operand}{eS:Array Value}{xs:List Operand}{ts:Array TypeId}{vs sX:List Value}{v:Value}{pre:Prop}(hx:ev env x=some (.func (.func f) #[] eS))(ya:eJ env xs=some vs)(e:vs++eS.toList=sX)[hf:aE P f][hc:bY P f w0 L sX v pre](hp:pre):
  Yl P N w0 env L ⟨d, .call {callee:= .value x,args:=xs.toArray,argTypes:=ts},ty,ps,af,gd⟩ v:=fun a ha w hw=>by
 unfold Oper.quietAt;rw[adz hf w (ha.ev hx),ha.eJ ya,e];exact⟨rfl,hc.h hp w hw⟩
end
def ft(xs:List Rt):List Rt:=xs.filter fun r=>aZ r.p
def sY(xs:List Rt):Int:=match xs.findIdx? (fun r=> !aZ r.p)with
 |some i=>(i:Int)
 |none=> -1
theorem adA{xs:List Rt}{i:Nat}{x:Rt}(hx:xs[i]? =some x)(h:aZ x.p=false)(kF: ∀y∈xs.take i,aZ y.p=true):sY xs=(i:Int):=by
 have:xs.findIdx? (fun r=> !aZ r.p)=some i:=by
  obtain⟨hl,hv⟩:=ad2.1 hx;rw[List.findIdx?_eq_some_iff_getElem];refine⟨hl,by rw[hv,h];rfl,fun j hj=>?_⟩;have:=kF (xs[j]'(by omega)) (by rw[List.mem_take_iff_getElem];exact⟨j,by omega,rfl⟩);simp[this]
 rw[sY,this]
theorem adB{xs:List Rt}(kF: ∀y∈xs,aZ y.p=true):sY xs= -1:=by
 have:xs.findIdx? (fun r=> !aZ r.p)=none:=by
  rw[List.findIdx?_eq_none_iff];intro x hx;simp[kF x hx]
 rw[sY,this]
theorem adC{xs:List Rt}(h:sY xs≠ -1): ∃i:Nat,sY xs=(i:Int)/\i<xs.length/\ft (xs.take (i+1))=xs.take i:=by
 unfold sY at h⊢
 cases hf:xs.findIdx? (fun r=> !aZ r.p)with
 |none=>rw[hf]at h;exact absurd rfl h
 |some i=>
  obtain⟨hl,hv,hj⟩:=List.findIdx?_eq_some_iff_getElem.1 hf;refine⟨i,rfl,hl,?_⟩;have jN:aZ xs[i].p=false:=by simpa using hv
  rw[ft,aps,apF hl,apN];have e1:(xs.take i).filter (fun r=>aZ r.p)=xs.take i:=by
   rw[arz];intro y hy;obtain⟨j,hM,rfl⟩:=List.mem_take_iff_getElem.1 hy;have:=hj j (by omega);simpa using this
  rw[e1];simp[jN]
theorem adD{xs:List Rt}(h:sY xs= -1):ft xs=xs:=by
 unfold sY at h
 cases hf:xs.findIdx? (fun r=> !aZ r.p)with
 |some i=>rw[hf]at h;simp only at h;omega
 |none=>
  rw[List.findIdx?_eq_none_iff]at hf;rw[ft,arz];intro x hx;simpa using hf x hx
theorem Gm(xs:List Rt):fL (ft xs):=fun x hx=>by
 have:=(apD.1 hx).2;simpa using this
theorem Sm(xs:List Rt):(ft xs).length<=xs.length:=ard _ _
structure Dl(xs cur:List Rt)(i j:Nat):Prop where
 len:cur.length=xs.length
 lt:i<j
 le:j<=xs.length
 kept:cur.take i=ft (xs.take j)
 left:cur.drop j=xs.drop j
theorem Dl.start{xs:List Rt}{i:Nat}(h:i<xs.length)(hk:ft (xs.take (i+1))=xs.take i):Dl xs xs i (i+1):=⟨rfl,Nat.lt_succ_self _,h,hk.symm,rfl⟩
theorem Dl.at{xs cur:List Rt}{i j:Nat}{x:Rt}(h:Dl xs cur i j)(hx:cur[j]? =some x):xs[j]? =some x:=by
 have:=congrArg (·[0]?) h.left;simpa[hx]using this.symm
theorem Dl.adE{xs cur:List Rt}{i j:Nat}{x:Rt}(h:Dl xs cur i j)(hx:cur[j]? =some x)(hm:aZ x.p=true):Dl xs (cur.set i x) (i+1) (j+1):=by
 have hl:=(ad2.1 hx).1;have hlen:=h.len;have bc:=h.lt;refine⟨by rw[ap8,hlen],Nat.succ_lt_succ bc,by omega,?_,?_⟩
 ·
  rw[aps,apJ (by omega),arl (apm _),h.kept,aps (l:=xs),h.at hx];simp[ft,apN,hm]
 rw[List.drop_set_of_lt (by omega),←aq5,h.left,aq5]
theorem Dl.drop{xs cur:List Rt}{i j:Nat}{x:Rt}(h:Dl xs cur i j)(hx:cur[j]? =some x)(hm:aZ x.p=false):Dl xs cur i (j+1):=by
 have hl:=(ad2.1 hx).1;have hlen:=h.len;have bc:=h.lt;refine⟨hlen,by omega,by omega,?_,?_⟩
 ·
  rw[h.kept,aps,h.at hx];simp[ft,apN,hm]
 rw[←aq5,h.left,aq5]
theorem Dl.done{xs cur:List Rt}{i:Nat}(h:Dl xs cur i xs.length):cur.take i=ft xs:=by rw[h.kept,apI]
def KM(ys:List Rt)(i:Nat):Bool:=match ys[i]?,ys[i+1]?with
 |some x,some y=>decide (y.p=x.p)
 |_,_=>false
def mc(ys:List Rt):Nat->List Rt
 |0=>[]
 |i+1=>if KM ys i=true then mc ys i else mc ys i++(ys[i]?).toList
theorem KN(ys:List Rt): ∀i,(mc ys i).length<=i
 |0=>apm _
 |i+1=>by
  have:=KN ys i;unfold mc;split
  ·
   omega
  rw[af0];have:(ys[i]?).toList.length<=1:=by cases ys[i]? <;>simp
  omega
theorem Sn{ys:List Rt}{i:Nat}{x y:Rt}(hx:ys[i]? =some x)(hy:ys[i+1]? =some y)(h:y.p=x.p):mc ys (i+1)=mc ys i:=by
 rw[mc,if_pos (by unfold KM;rw[hx,hy];simp[h])]
theorem So{ys:List Rt}{i:Nat}{x:Rt}(hx:ys[i]? =some x)(h: ∀y,ys[i+1]? =some y->y.p≠x.p):mc ys (i+1)=mc ys i++[x]:=by
 rw[mc,if_neg (by
  unfold KM;rw[hx]
  cases hy:ys[i+1]?with
  |none=>simp
  |some y=>simp[h y hy]),hx];rfl
def gL(ts:List Rt):List Rt:=mc (iw bO (ft ts)) (iw bO (ft ts)).length
theorem adF{ts ys:List Rt}(h:fg bO (ft ts) ys):gL ts=mc ys ys.length:=by
 rw[gL,fg.uniq (F9 (ft ts)) h]
def kd(ts:List Rt):List Rt:=ts.foldl (fun t r=>if aZ r.p=true then uM r t false else t) []
theorem adG{ts:List Rt}{i:Nat}{x:Rt}(hx:ts[i]? =some x)(h:aZ x.p=true):kd (ts.take (i+1))=uM x (kd (ts.take i)) false:=by
 rw[kd,aps,hx,aq6];simp[h,kd]
theorem adH{ts:List Rt}{i:Nat}{x:Rt}(hx:ts[i]? =some x)(h:aZ x.p=false):kd (ts.take (i+1))=kd (ts.take i):=by
 rw[kd,aps,hx,aq6];simp[h,kd]
variable {t ts:List Rt} {k:Key} {bits:Int} {p:ba}
def nW(l:List Rt)(p:ba):Option Rt:=(l.filter fun r=>decide (r.p=p)).getLast?
theorem adI(l:List Rt)(r:Rt)(p:ba):nW (l++[r]) p=if r.p=p then some r else nW l p:=by
 unfold nW;rw[apN]
 by_cases h:r.p=p
 ·
  rw[if_pos h];simp[h]
 rw[if_neg h];simp[h]
theorem Gn{l:List Rt}{p:ba}{x:Rt}(h:nW l p=some x):x∈l/\x.p=p:=by
 have:=apD.1 (List.mem_of_getLast? h);exact⟨this.1,by simpa using this.2⟩
theorem adJ(hr:aZ p=true){r x:Rt}(hp:r.p=p)(ho:Ord t):x∈uM r t false↔x=r\/(x∈t/\x.p≠r.p):=by
 subst hp;rw[KI hr ho];simp only[apv,apn,px,l8,apD];constructor
 ·
  rintro(⟨h1,h2⟩|h|⟨h1,h2⟩)
  ·
   exact .inr ⟨h1,wz (ho.may x h1) h2⟩
  ·
   exact .inl h
  exact .inr ⟨h1,fun e=>wz hr h2 e.symm⟩
 rintro(h|⟨h1,h2⟩)
 ·
  exact .inr (.inl h)
 cases h3:cC x.p r.p with
 |true=>exact .inl ⟨h1,rfl⟩
 |false=>exact .inr (.inr ⟨h1,wy (ho.may x h1) hr h3 h2⟩)
theorem adK{r:Rt}(hr:aZ r.p=true)(ho:Ord t):Ord (uM r t false):=by
 rw[KI hr ho];refine⟨fun x hx=>?_,?_⟩
 ·
  simp only[apv,apn,px,l8,apD]at hx;rcases hx with h|rfl|h
  ·
   exact ho.may x h.1
  ·
   exact hr
  exact ho.may x h.1
 refine aqU.2 ⟨ho.less.sublist aqZ,apA.2 ⟨fun y hy=>(apD.1 hy).2,ho.less.sublist aqZ⟩,fun a ha b hb=>?_⟩;have h1:=apD.1 ha;rcases apn.1 hb with rfl|hb
 ·
  exact h1.2
 have h2:=apD.1 hb;exact wA (ho.may a h1.1) hr (ho.may b h2.1) h1.2 h2.2
theorem Sp(l:List Rt)(r:Rt):ft (l++[r])=ft l++(if aZ r.p=true then[r]else[]):=by
 unfold ft;rw[apN]
 cases h:aZ r.p<;>simp[h]
theorem KO(l:List Rt):Ord (kd l)/\ ∀x,x∈kd l↔nW (ft l) x.p=some x:=by
 have key: ∀n,n<=l.length->Ord (kd (l.take n))/\ ∀x,x∈kd (l.take n)↔nW (ft (l.take n)) x.p=some x:=by
  intro n
  induction n with
  |zero=>
   intro _;simp only[apK];exact⟨⟨fun _ h=>(by simp[kd]at h),by simp[kd]⟩,fun x=>by simp[kd,ft,nW]⟩
  |succ n ih=>
   intro hn;obtain⟨h1,h2⟩:=ih (by omega);obtain⟨r,hr⟩:=get_some (xs:=l) (i:=n) (by omega);have e:l.take (n+1)=l.take n++[r]:=by rw[aps,hr];rfl
   cases hm:aZ r.p with
   |false=>
    rw[adH hr hm,e,Sp,hm];simpa using⟨h1,h2⟩
   |true=>
    rw[adG hr hm];refine⟨adK hm h1,fun x=>?_⟩;rw[adJ hm rfl h1,e,Sp,hm,if_pos rfl,adI,h2]
    by_cases hp:r.p=x.p
    ·
     rw[if_pos hp];constructor
     ·
      rintro(h|⟨_,h⟩)
      ·
       rw[h]
      exact absurd hp.symm h
     intro h;exact .inl (api h).symm
    rw[if_neg hp];constructor
    ·
     rintro(h|⟨h,_⟩)
     ·
      exact absurd (by rw[h]) hp
     exact h
    intro h;exact .inr ⟨h,fun h'=>hp h'.symm⟩
 have:=key l.length (apm _);rwa [apI]at this
theorem KP{ys:List Rt}{x:Rt}: ∀i,i<=ys.length->(x∈mc ys i↔ ∃j,j<i/\ys[j]? =some x/\ ∀y,ys[j+1]? =some y->y.p≠x.p)
 |0,_=>by simp[mc]
 |i+1,hi=>by
  obtain⟨e,he⟩:=get_some (xs:=ys) (i:=i) (by omega);have ih:=KP (ys:=ys) (x:=x) i (by omega)
  by_cases hs: ∀y,ys[i+1]? =some y->y.p≠e.p
  ·
   rw[So he hs,apv,ih];constructor
   ·
    rintro(⟨j,h1,h2,h3⟩|h)
    ·
     exact⟨j,by omega,h2,h3⟩
    obtain rfl:x=e:=by simpa using h
    exact⟨i,by omega,he,hs⟩
   rintro⟨j,h1,h2,h3⟩;rcases aq2 (ar1 h1)with rfl|h4
   ·
    right;rw[he]at h2;simp[(api h2).symm]
   exact .inl ⟨j,h4,h2,h3⟩
  obtain⟨y,hy,hyp⟩: ∃y,ys[i+1]? =some y/\y.p=e.p:=by
   apply aql;intro hc;exact hs fun y hy h=>hc ⟨y,hy,h⟩
  rw[Sn he hy hyp,ih];constructor
  ·
   rintro⟨j,h1,h2,h3⟩;exact⟨j,by omega,h2,h3⟩
  rintro⟨j,h1,h2,h3⟩;rcases aq2 (ar1 h1)with rfl|h4
  ·
   rw[he]at h2;obtain rfl:=api h2;exact absurd hyp (h3 y hy)
  exact⟨j,h4,h2,h3⟩
variable {t ts:List Rt} {k:Key} {bits:Int} {p:ba}
theorem Sr{l:List Rt}(hm:fL l)(hp:aZ p=true):(l.filter fun r=>decide (r.p=p))=l.filter fun r=>decide (bO r=wB p):=by
 refine List.filter_congr fun r hr=>?_;rw[decide_eq_decide];exact⟨fun e=>by rw[bO,e],fun e=>KK (hm r hr) hp e⟩
theorem adL{l ys:List Rt}(h:fg bO l ys)(hm:fL l)(hp:aZ p=true):nW ys p=nW l p:=by
 unfold nW;rw[Sr (fun x hx=>hm x (h.mem.1 hx)) hp,Sr hm hp,h.same]
theorem adM{ys:List Rt}(hs:dW bO ys)(hm:fL ys){x:Rt}:(∃j,j<ys.length/\ys[j]? =some x/\ ∀y,ys[j+1]? =some y->y.p≠x.p)↔nW ys x.p=some x:=by
 constructor
 ·
  rintro⟨j,hj,hx,hn⟩;obtain⟨_,hv⟩:=ad2.1 hx;have e:ys=ys.take j++x::ys.drop (j+1):=by rw[←hv,arX,apH]
  have hz:(ys.drop (j+1)).filter (fun r=>decide (r.p=x.p))=[]:=by
   rw[aqJ];intro y hy;obtain⟨i,hi⟩:=ap4.1 hy;rw[apU]at hi;obtain⟨z,hz⟩:=get_some (xs:=ys) (i:=j+1) (by have:=(ad2.1 hi).1;omega);have hle: ∀s t a b,s<=t->ys[s]? =some a->ys[t]? =some b->bO a<=bO b:=fun s t a b bu ha hb=>by
    obtain⟨h1,rfl⟩:=ad2.1 ha;obtain⟨h2,rfl⟩:=ad2.1 hb;rcases aq2 bu with rfl|h3
    ·
     exact apm _
    exact(ap7.1 hs) s t h1 h2 h3
   have h1:=hle j (j+1) x z (by omega) hx hz;have h2:=hle (j+1) (j+1+i) z y (by omega) hz hi;have h3:=hn z hz;simp only[decide_eq_true_eq];intro h4;have h5:bO y=bO x:=by rw[bO,h4];rfl
   exact h3 (KK (hm z (alM hz)) (hm x (alM hx)) (by show bO z=bO x;omega))
  unfold nW;rw[e,apN,apS,if_pos (by simp),hz];simp
 intro h;obtain⟨A,hA⟩:=List.getLast?_eq_some_iff.1 h;obtain⟨l1,l2,e1,_,e2⟩:=List.filter_eq_append_iff.1 hA;obtain⟨m1,m2,e3,_,_,e4⟩:=List.filter_eq_cons_iff.1 e2;subst e3;have ey:ys=(l1++m1)++x::m2:=by rw[e1,apq]
 refine⟨(l1++m1).length,by rw[ey];simp,by rw[ey];simp,fun y hy=>?_⟩;rw[ey,apx (by omega)]at hy;rw[show(l1++m1).length+1 -(l1++m1).length=0+1 by omega,arM]at hy;have:=aqJ.1 e4 y (alM hy);simpa using this
theorem uN(l:List Rt):Ord (gL l)/\ ∀x,x∈gL l↔nW (ft l) x.p=some x:=by
 have bu:=F9 (f:=bO) (ft l);have sZ:fL (iw bO (ft l)):=fun x hx=>Gm l x (bu.mem.1 hx);have xq: ∀x,x∈gL l↔nW (iw bO (ft l)) x.p=some x:=fun x=>by
  rw[gL,KP _ (apm _)];exact adM bu.iw sZ
 have jc: ∀x,x∈gL l->x∈iw bO (ft l):=fun x hx=>(Gn ((xq x).1 hx)).1;have hpw: ∀i,i<=(iw bO (ft l)).length->(mc (iw bO (ft l)) i).Pairwise fun a b=>cC a.p b.p=true:=by
  generalize hys:iw bO (ft l)=ys at*;have hle: ∀s t a b,s<=t->ys[s]? =some a->ys[t]? =some b->bO a<=bO b:=fun s t a b w5 ha hb=>by
   obtain⟨h1,rfl⟩:=ad2.1 ha;obtain⟨h2,rfl⟩:=ad2.1 hb;rcases aq2 w5 with rfl|h3
   ·
    exact apm _
   exact(ap7.1 bu.iw) s t h1 h2 h3
  intro i
  induction i with
  |zero=>intro _;exact List.Pairwise.nil
  |succ i ih=>
   intro hi;obtain⟨e,he⟩:=get_some (xs:=ys) (i:=i) (by omega);rw[mc];split
   ·
    exact ih (by omega)
   rw[he];refine aqU.2 ⟨ih (by omega),by simp,fun a ha b hb=>?_⟩;obtain rfl:b=e:=by simpa using hb
   obtain⟨j,h1,h2,h3⟩:=(KP i (by omega)).1 ha;obtain⟨z,hz⟩:=get_some (xs:=ys) (i:=j+1) (by omega);have g1:=hle j (j+1) a z (by omega) h2 hz;have g2:=hle (j+1) i z b (by omega) hz he;have ma:=sZ a (alM h2);have mz:=sZ z (alM hz);have g3:bO a≠bO z:=fun e=>h3 z hz (KK mz ma e.symm);rw[Se ma (sZ b (alM he)),decide_eq_true_eq];show bO a<bO b;omega
 refine⟨⟨fun x hx=>sZ x (jc x hx),hpw _ (apm _)⟩,fun x=>?_⟩;rw[xq]
 cases hx:aZ x.p with
 |true=>rw[adL bu (Gm l) hx]
 |false=>
  constructor
  ·
   intro h;have:=sZ x (Gn h).1;rw[hx]at this;cases this
  intro h;have:=Gm l x (Gn h).1;rw[hx]at this;cases this
theorem Ss(l:List Rt):gL l=kd l:=
 Go.Kb.Ord.ext (uN l).1 (KO l).1 fun x=>((uN l).2 x).trans ((KO l).2 x).symm
theorem KQ(h:bl t=true):hG t p=qq t p/\iQ t p=yE t p:=by
 have ho:=dM h
 cases hp:aZ p with
 |false=>
  obtain⟨e1,e2⟩:=adl (t:=t) hp;have bI:qd t p=false:=by rw[qd,hp,Bool.and_false]
  rw[e1,e2,hG,iQ,if_neg (by rw[bI];simp),if_neg (by rw[bI];simp)];exact⟨rfl,rfl⟩
 |true=>
  have bI:qd t p=true:=by rw[qd,h,hp];rfl
  by_cases hx: ∃r∈t,r.p=p
  ·
   obtain⟨r,hr,rfl⟩:=hx;obtain⟨i,hi⟩:=ap4.1 hr;obtain⟨e1,e2⟩:=adm (t:=t) hp (i:=i) (e:=r) (fun x hx=>by
    obtain⟨j,hj,hv⟩:=List.mem_take_iff_getElem.1 hx;have mV:t[j]? =some x:=by rw[apF (by omega),hv]
    exact wz (ho.may x (alM mV)) (ho.at mV hi (by omega))) hi rfl
   obtain⟨e3,e4⟩:=Jm h hr;rw[e1,e2,e3,e4];exact⟨rfl,rfl⟩
  obtain⟨e1,e2⟩:=KJ (t:=t) hp fun x oh e=>hx ⟨x,oh,e⟩;rw[e1,e2]
  cases hf:qY t p with
  |some r=>
   have:hG t p=0:=by rw[hG,if_pos bI,hf];rfl
   obtain⟨r',h1,h2,_⟩:=Zs h this;exact absurd ⟨r',h1,h2⟩ hx
  |none=>rw[hG,iQ,if_pos bI,if_pos bI,hf];exact⟨rfl,rfl⟩
theorem St(l:List Rt):(gL l).length<=l.length:=by
 have h1:=KN (iw bO (ft l)) (iw bO (ft l)).length;have h2:=(F9 (f:=bO) (ft l)).length;have h3:=Sm l;unfold gL;omega
theorem adN{t:List Rt}(h:bl t=true): ∀l:List Ch,bl (kx t l).1=true:=by
 intro l
 induction l generalizing t with
 |nil=>exact h
 |cons c l ih=>
  rw[kx];split
  ·
   exact ih (KH h c)
  exact h
theorem Su{t:List Rt}(h:bl t=true)(l:List Ch):bl (dH t l)=true:=by
 unfold dH;split
 ·
  exact adN h l
 exact h
variable {t ts:List Rt} {k:Key} {bits:Int} {p:ba} {r:Rt}
theorem adO(h:bl t=true){c:Ch}(he:eE t c=0):gR t [c]=0/\dH t [c]=gy t c:=by
 have e:gR t [c]=0:=by rw[gR,if_pos h,kx,if_pos he];rfl
 exact⟨e,by rw[dH,if_pos e,kx,if_pos he];rfl⟩
end Go.ay
