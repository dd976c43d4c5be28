/- Part of a proof. -/
import Derived.Test.YtkggjjnhnjjokaaGreatDoorC5
import Derived.Test.YtkggjjnhnjjokaaGreatDoorC3
import Derived.Test.YtkggjjnhnjjokaaGreatDoorC4
import Derived.Test.YtkggjjnhnjjokaaGreatDoorC2
import Derived.Test.YtkggjjnhnjjokaaGreatDoorC1
import Derived.Lib.Bytealg
set_option maxRecDepth 20000
set_option linter.unusedSimpArgs false
set_option linter.unusedVariables false
namespace Go.Proofs.YtkggjjnhnjjokaaGreatDoor
open Go.aA Go.Kb
instance (i:Int)(s:Sv):nj Tryz.prog 269 [(0, .int .i64 i),(1,s.val)] (.agg #[.int .i64 i,s.val]):=⟨fun w=>by
 obtain⟨n,b,o,l,c⟩:=s
 cases n<;>kernel_rfl⟩
theorem Zz(w:World)(s:Sl (Sl UInt8))(i:Nat)(hs:Deep.aU (hp w) s):Calls Tryz.prog 171 #[s.sv.val, .int .i64 (i:Nat)] w fun e w'=>e= .returned (((oV s i).sv).val)/\Mem w [] w':=by
 have r8:bQ w s:=⟨hs⟩;refine cl Tryz.func171 rfl Tryz.ntmps171 rfl ?_;refine dr ?_;refine Gb (fun h0=>?_) fun h0=>?_
 ·
  refine ak ?_;refine Gr fun w1 hw=>?_;exact⟨by rw[A4 oM];rfl,ai.mem hw⟩
 refine ak ?_;obtain⟨u,hu⟩:=get_some (xs:=s.xs) (i:=i) oM;refine ag (aR rfl rfl i rfl oM) ?_;refine ag (bw (j:=0) rfl i hu rfl (by decide)) ?_;have akm:Mb u _:=⟨List.mem_of_getElem? hu⟩;refine au ?_;refine Gr fun w1 hw=>?_;exact⟨by rw[A3 hu],ai.mem hw⟩
variable {w0:World}{L:List ah}
instance akn{s:Sl (Sl UInt8)}{i:Nat}[hs:aO w0 L s]:bO Tryz.prog 171 w0 L [s.sv.val, .int .i64 (i:Nat)] (((oV s i).sv).val) (True):=⟨fun hp w hw=>Zz w s i (hs.h w hw)⟩
theorem ZA(w:World)(x:Sv)(xs:List UInt8)(y:Sv)(ys:List UInt8)(hx:bI aJ 1 (hp w) x xs)(hy:bI aJ 1 (hp w) y ys):Calls Tryz.prog 172 #[x.val,y.val] w fun e w'=>e= .returned (.bool (decide (xs=ys)))/\Mem w [] w':=by
 have xI:Gv w x aJ 1 xs:=⟨hx⟩;have Nn:Gv w y aJ 1 ys:=⟨hy⟩;refine cl Tryz.func172 rfl Tryz.ntmps172 rfl ?_;refine aq ?_;refine ag (IS Tryz.underlying53 Tryz.underlying5 Tryz.underlying9 rfl) ?_;refine Gs ?_;refine ag (IS Tryz.underlying53 Tryz.underlying5 Tryz.underlying9 rfl) ?_;refine ag (IU rfl rfl) ?_;refine au ?_;refine Gr fun w1 hw=>?_;exact⟨rfl,ai.mem hw⟩
instance ako{x:Sv}{xs:List UInt8}{y:Sv}{ys:List UInt8}[hx:cz w0 L aJ 1 x xs][hy:cz w0 L aJ 1 y ys]:bO Tryz.prog 172 w0 L [x.val,y.val] (.bool (decide (xs=ys))) (True):=⟨fun hp w hw=>ZA w x xs y ys (hx.h w hw) (hy.h w hw)⟩
theorem ZB(w:World)(x:Sv)(xs:List UInt8)(hx:bI aJ 1 (hp w) x xs)(aP:xs.length<=140737488355328):Calls Tryz.prog 110 #[x.val] w fun e w'=> ∃U:Sv,e= .returned (U.val)/\(True)/\Mem w [own aJ 1 U xs] w':=by
 have xI:Gv w x aJ 1 xs:=⟨hx⟩;refine bS Tryz.func110 rfl Tryz.ntmps110 rfl ?_;refine aq ?_;refine ag (oU Tryz.underlying53 rfl) ?_;refine Gc ?_;refine Gb (fun h0=>?_) fun h0=>?_
 ·
  have e0:xs=[]:=List.length_eq_zero_iff.1 (by have:=hx.ok.nil h0;have:=hx.len;omega);refine ak ?_;refine Gr fun w1 hw=>?_;exact⟨Sv.none,rfl,trivial,by rw[e0];exact(ai.mem hw:Mem w [] _).cR aJ 1⟩
 refine Gc ?_;refine qe aJ fun b5=>?_;refine Gs ?_;refine iS (s:=⟨false,b5,0,0,0,none⟩) (ys:=xs) rfl rfl (by decide) (fun w hw=>gM (s:=x) Tryz.underlying53 (by decide) ((inferInstance:Hd _ _ x aJ 1 xs).h w hw)) (by simp only[List.length_append,List.length_cons,List.length_nil];omega) (by simp only[List.length_append,List.length_cons,List.length_nil];omega) fun s7 r9 qJ=>?_;refine au ?_;refine Gr fun w1 hw=>?_;exact⟨s7,rfl,trivial,by simpa using hw⟩
instance akp{x:Sv}{xs:List UInt8}[hx:cz w0 L aJ 1 x xs]:bJ Tryz.prog 110 w0 L [x.val] (Sv) (fun U=>U.val) (fun U=>own aJ 1 U xs::L) (fun U=>True) (xs.length<=140737488355328):=⟨fun hp w hw=>(ZB w x xs (hx.h w hw) hp).mono fun e w' ⟨x,h1,h2,h3⟩=>⟨x,h1,h2,hw.call h3⟩⟩
theorem ZC(w:World)(a:Sl (Sl UInt8))(b:Sl (Sl UInt8))(ha:Deep.aU (hp w) a)(hb:Deep.aU (hp w) b)(aP:a.xs.length<=1000000/\b.xs.length<=1000000/\ ∀x∈b.xs,x.xs.length<=140737488355328):Calls Tryz.prog 102 #[a.sv.val,b.sv.val] w fun e w'=> ∃U:Sl It,e= .returned (U.sv.val)/\(uS U=jx (lx a) (lx b))/\Mem w [Deep.bE U] w':=by
 have GH:bQ w a:=⟨ha⟩;have vC:bQ w b:=⟨hb⟩;obtain⟨pF,mO,F0⟩:=aP;refine cl Tryz.func102 rfl Tryz.ntmps102 rfl ?_;refine fc ?_;refine ag (sO rfl rfl) ?_;refine au ?_;refine bA (X:=Nat×Sl It) (fun U=>[(13, .int .i64 (U.1:Nat)),(5,U.2.sv.val),(0,a.sv.val),(1,b.sv.val),(12, .int .i64 (max (a.xs.length:Int) (b.xs.length:Int)))]) (fun U=>[Deep.bE U.2]) (fun U=>U.1<=max a.xs.length b.xs.length/\uS U.2=qD (lx a) (lx b) U.1) (fun U=>max a.xs.length b.xs.length -U.1) (0,⟨Sv.none,[]⟩) ⟨oF,rfl⟩ sb (fun w hw=>Mem.wz (enc:=mH) (c:=2) hw) ?_;rintro⟨i,l⟩ ⟨aT,az⟩;dsimp only;refine ak ?_;refine Gb (fun h0=>?_) fun h0=>?_
 ·
  refine EL ?_;refine Gb (fun h1=>?_) fun h1=>?_
  ·
   refine Gi ?_;refine ak ?_;refine bf rfl (by rcases Nat.lt_or_ge i b.xs.length with h|h;exact F0 _ (by rw[A3 (List.getElem?_eq_getElem h)];exact List.getElem_mem h);rw[A4 h];exact Nat.zero_le _) fun cT lI=>?_
   refine ag (fo rfl) ?_;refine kx (enc:=mH) (vals:=[_]) [(⟨((i:Nat):Int),⟨cT,((oV b i).xs)⟩⟩:It)] rfl rfl rfl (by decide) (by decide) fun eN=>?_;refine P2 (s:=⟨false,eN,0,1,1,none⟩) l [(⟨((i:Nat):Int),⟨cT,((oV b i).xs)⟩⟩:It)] rfl rfl (by decide) (by have:=congrArg List.length az;have h9:=F9 (lx a) (lx b) i;simp only[uS,List.length_map]at this;simp only[List.length_cons,List.length_nil];omega) (by have:=congrArg List.length az;have h9:=F9 (lx a) (lx b) i;simp only[uS,List.length_map]at this;simp only[List.length_cons,List.length_nil];omega) fun j7 ZD=>?_;refine aq ?_;refine Gi ?_;exact aV (x:=(i,l)) (i+1,j7) ⟨oF,by rw[uS,ZD,List.map_append,UK (by rw[←yL,←yL];exact h1),←az,←yL];rfl⟩ (by simp only;omega) sb (fun w hw=>ai.mem hw)
  refine ak ?_;refine Gi ?_;exact aV (x:=(i,l)) (i+1,l) ⟨oF,by rw[UJ (by rw[←yL,←yL];exact h1)];exact az⟩ (by simp only;omega) sb (fun w hw=>ai.mem hw)
 refine aq ?_;refine Gr fun w1 hw=>?_;exact⟨l,rfl,(by rw[az,jx,uM,uM,show i=max a.xs.length b.xs.length by omega]),ai.mem hw⟩
instance akq{a:Sl (Sl UInt8)}{b:Sl (Sl UInt8)}[ha:aO w0 L a][hb:aO w0 L b]:bJ Tryz.prog 102 w0 L [a.sv.val,b.sv.val] (Sl It) (fun U=>U.sv.val) (fun U=>Deep.bE U::L) (fun U=>uS U=jx (lx a) (lx b)) (a.xs.length<=1000000/\b.xs.length<=1000000/\ ∀x∈b.xs,x.xs.length<=140737488355328):=⟨fun hp w hw=>(ZC w a b (ha.h w hw) (hb.h w hw) hp).mono fun e w' ⟨x,h1,h2,h3⟩=>⟨x,h1,h2,hw.call h3⟩⟩
theorem ZE(w:World)(b:Sv)(bs:List UInt8)(hb:bI aJ 1 (hp w) b bs)(aP:bs.length=20):Calls Tryz.prog 228 #[b.val] w fun e w'=>e= .returned (.tuple #[.agg (av (rdv bs)), .bool (ov bs)])/\Mem w [] w':=by
 have vC:Gv w b aJ 1 bs:=⟨hb⟩;have eg: ∀(i:Nat) e,bs[i]? =some e->bs.getD i 0=e:=fun i e h=>by simp[List.getD,h]
 obtain⟨e6,NZ⟩:=get_some (xs:=bs) (i:=0) oM;have Ai:=eg 0 e6 NZ;refine bS Tryz.func228 rfl Tryz.ntmps228 rfl ?_;refine Gc ?_;refine bj fun b2=>?_;refine au ?_;refine bj fun b4=>?_;refine iV ?_;refine AT (X:=Unit) (fun U=>[(0,b.val),(2, .pointer (some ⟨b2,0,none⟩)),(4, .pointer (some ⟨b4,0,none⟩))]) (fun U=>[an b4 ((av fu).setIfInBounds 0 (.int .i64 (if e6=1 then 128 else 32))) 34,an b2 (av fu) 34]) (fun U=>e6<=1) ?_ ?_
 ·
  refine au ?_;refine ag (aR rfl rfl 0 rfl oM) ?_;refine ag (bw (j:=0) rfl 0 NZ rfl (by decide)) ?_;refine aq ?_;refine Gb (fun h0=>?_) fun h0=>?_
  ·
   obtain rfl:e6=0:=UInt8.toNat_inj.1 (by simp;omega);refine Gi ?_;refine au ?_;refine dw rfl rfl (by simp[jm]) rfl rfl ?_;refine iV ?_;exact sS () (by decide) sb (fun w hw=>hw)
  refine aq ?_;refine Gb (fun h1=>?_) fun h1=>?_
  ·
   obtain rfl:e6=1:=UInt8.toNat_inj.1 (by simp;omega);refine Gi ?_;refine au ?_;refine dw rfl rfl (by simp[jm]) rfl rfl ?_;refine iV ?_;exact sS () (by decide) sb (fun w hw=>hw)
  have N1: ¬e6<=1:=fun h=>by rw[UInt8.le_iff_toNat_le]at h;simp at h;omega
  refine Gc ?_;refine ag (fo rfl) ?_;refine ak ?_;refine Gr fun w1 hw=>?_;exact⟨by rw[show ov bs=false from by rw[ov,Ai];exact decide_eq_false N1,show rdv bs=fu from if_neg (by rw[ov,Ai];simpa using N1)],ai.mem hw⟩
 rintro⟨⟩ hJ;refine au ?_;obtain⟨ZF,N2⟩:=get_some (xs:=bs) (i:=1) oM;refine ag (aR rfl rfl 1 rfl oM) ?_;refine ag (bw (j:=0) rfl 1 N2 rfl (by decide)) ?_;have ZG:=eg 1 ZF N2;refine ag (uL rfl) ?_;refine au ?_;refine dw rfl rfl (by simp[jm]) rfl rfl ?_;refine Gc ?_;refine gF [5] [[],[],[],[],[],[]] [0,1,2,3,4,5] [] (fun _ hw=>ai.mem hw) oK oK ?_;refine al rfl (aN (o':=0) rfl rfl) ?_;refine al rfl (aN (o':=2) rfl rfl) ?_;refine al rfl (uA rfl) ?_;refine al rfl (aZ rfl) ?_;have CL:Rg 2 18 bs.length:=⟨by omega⟩;refine al rfl (A0 rfl rfl rfl 2 18 rfl rfl CL.h.1 CL.h.2) ?_;refine cY rfl (Ro (ys:=(bs.drop 2).take 16) rfl rfl (by simp;omega) (by simp;omega) (by simp[jm];omega) rfl ⟨fun _ hw=>ai.mem hw,?_⟩);refine Gc ?_;refine gF [11] [[],[],[],[],[],[],[],[],[],[],[],[]] [0,1,2,3,4,5,6,7,8,9,10,11] [] (fun _ hw=>ai.mem hw) oK oK ?_;refine al rfl (aZ rfl) ?_;obtain⟨ZH,N3⟩:=get_some (xs:=bs) (i:=18) oM;refine al rfl (aR rfl rfl 18 rfl oM) ?_;refine al rfl (bw (j:=0) rfl 18 N3 rfl (by decide)) ?_;have ZI:=eg 18 ZH N3;refine al rfl (uL rfl) ?_;refine al rfl (IM rfl rfl) ?_;refine al rfl (aZ rfl) ?_;obtain⟨ZJ,N4⟩:=get_some (xs:=bs) (i:=19) oM;refine al rfl (aR rfl rfl 19 rfl oM) ?_;refine al rfl (bw (j:=0) rfl 19 N4 rfl (by decide)) ?_;have ZK:=eg 19 ZJ N4;refine al rfl (uL rfl) ?_;refine al rfl (IN rfl rfl) ?_;refine al rfl (aN (o':=18) rfl rfl) ?_;refine cY rfl (wN rfl rfl (by rw[lQ (by rw[List.size_toArray,fM];simp[jm];omega)];simp[jm]) rfl rfl ⟨fun _ hw=>ai.mem hw,?_⟩);refine iW ?_;refine qd [an b4 (av (nH bs)) 34,an b2 (av fu) 34] (fun w hw=>?_) ?_
 ·
  rw[←UN (b:=bs) aP (if e6=1 then 128 else 32) (by rw[Ai]),ZG,ZI,ZK];exact hw
 refine Gi ?_;refine aq ?_;refine Gr fun w1 hw=>?_;exact⟨by rw[show rdv bs=nH bs from if_pos (by rw[ov,Ai];exact decide_eq_true hJ),show ov bs=true from by rw[ov,Ai];exact decide_eq_true hJ],ai.mem hw⟩
instance akr{b:Sv}{bs:List UInt8}[hb:cz w0 L aJ 1 b bs]:bO Tryz.prog 228 w0 L [b.val] (.tuple #[.agg (av (rdv bs)), .bool (ov bs)]) (bs.length=20):=⟨fun hp w hw=>ZE w b bs (hb.h w hw) hp⟩
instance aks{s:Sv}{xs:List UInt8}{r:Rt}{i:Nat}{L':Sv->List ah}[q:dN L s aJ 1 xs i][u: ∀s',dX L i (own aJ 1 s' (xs++gg r)) (L' s')]:bJ Tryz.prog 170 w0 L [s.val, .agg (av r)] Sv (fun s=>s.val) L' (fun _=>True) (xs.length<=1000000):=⟨fun hp w hw=>
 (Zh w0 w (L.eraseIdx i) s xs r (hw.perm (mD q.h)) hp).mono fun e w' ⟨s',h1,h2,h3,h4⟩=>⟨s',h1,trivial,by
  rw[←(u s').h];exact h4.perm (set_perm _ L i (At.lt q.h))⟩⟩
theorem ZL(w:World)(a:Sl (Sl UInt8))(ha:Deep.aU (hp w) a)(aP:a.xs.length<=1000/\ ∀x∈a.xs,x.xs.length<=100000):Calls Tryz.prog 182 #[a.sv.val] w fun e w'=> ∃U:Sv,e= .returned (.tuple #[U.val, .int .i64 (mU (lx a))])/\(True)/\Mem w [own av 19 U (ly (lx a))] w':=by
 have GH:bQ w a:=⟨ha⟩;obtain⟨pF,mO⟩:=aP;have hl:=uM a;refine bS Tryz.func182 rfl Tryz.ntmps182 rfl ?_;refine pe ?_;refine bA (X:=Nat×Sv×List Rt) (fun U=>[(11, .int .i64 (U.1:Nat)),(4,U.2.1.val),(9,a.sv.val),(10, .int .i64 (a.xs.length:Nat))]) (fun U=>[own av 19 U.2.1 U.2.2]) (fun U=>U.1<=a.xs.length/\gI ((lx a).take U.1)=some U.2.2/\U.2.2.length<=U.1*100000) (fun U=>a.xs.length -U.1) (0,Sv.none,[]) ⟨oF,rfl,by simp⟩ sb (fun w hw=>Mem.cR av 19 hw) ?_;rintro⟨i,t,q⟩ ⟨aT,az,ba⟩;dsimp only;simp only at aT az ba;refine ak ?_;refine Gb (fun h0=>?_) fun h0=>?_
 ·
  refine k8 ?_;obtain⟨x,hx⟩:=get_some (xs:=a.xs) (i:=i) oM;refine ag (aR rfl rfl i rfl oM) ?_;refine ag (bw (j:=0) rfl i hx rfl (by decide)) ?_;have CN:Mb x _:=⟨List.mem_of_getElem? hx⟩;have ex:(lx a)[i]? =some x.xs:=by simp[lx,hx]
  have CJ:Mb x _:=⟨List.mem_of_getElem? hx⟩;refine aq ?_;refine ag (D2 (p:=x.xs.length) (q:=20) rfl rfl rfl rfl oM) ?_;refine au ?_;refine Gb (fun h1=>?_) fun h1=>?_
  ·
   have fU:gI (lx a)=none:=Mo (i:=i+1) (by rw[F8 ex,az,Mn _ x.xs (Nat.le_refl _) oM];rfl);refine aq ?_;refine Gr fun w1 hw=>?_;exact⟨Sv.none,by rw[(Cu fU).2];rfl,trivial,by rw[(Cu fU).1];exact(ai.mem hw:Mem w [] _).cR av 19⟩
  refine Gc ?_;refine bA (X:=Sv×List UInt8×Sv×List Rt) (fun U=>[(6,U.1.val),(4,U.2.2.1.val),(9,a.sv.val),(10, .int .i64 (a.xs.length:Nat)),(11, .int .i64 (i:Nat))]) (fun U=>[own av 19 U.2.2.1 U.2.2.2]) (fun U=> ∃pre,U.2.2.2=q++pre/\kL x.xs=(kL U.2.1).map (pre++ ·)/\bI aJ 1 (hp w) U.1 U.2.1/\U.2.1.length%20=0/\U.2.2.2.length+U.2.1.length<=(i+1)*100000) (fun U=>U.2.1.length) (x.sv,x.xs,t,q) ⟨[],by simp,by cases kL x.xs<;>rfl,(ha.2 x (List.mem_of_getElem? hx)).1,oF,by have:=mO x (List.mem_of_getElem? hx);simp only;omega⟩ sb (fun w hw=>ai.mem hw) ?_;rintro⟨cu,cs,t2,q2⟩ ⟨pre,lC,dz,gL,kt,xX⟩;dsimp only;simp only at lC dz gL kt xX;have gcu:Gv w cu aJ 1 cs:=⟨gL⟩;refine aK ?_;refine Gb (fun h2=>?_) fun h2=>?_
  ·
   have ZM:20<=cs.length:=by omega
   have Hr:(cs.drop 0).take (20 -0)=cs.take 20:=by simp
   have ec:=Mm ZM;rw[UL]at ec;refine au ?_;have ZN:Rg 0 20 cs.length:=⟨by omega⟩;refine ag (IQ rfl rfl 20 rfl ZN.h.2) ?_;refine dm (bV rfl (by simp;omega)) ?_;refine Gs ?_;refine ag (aL (v:= .agg (av (rdv ((cs.drop 0).take (20 -0))))) rfl rfl) ?_;refine ag (aL (v:= .bool (ov ((cs.drop 0).take (20 -0)))) rfl rfl) ?_;refine bj fun b7=>?_;refine aS ?_;refine Gb (fun h3=>?_) fun h3=>?_
   ·
    rw[Hr]at h3;have fU:gI (lx a)=none:=Mo (i:=i+1) (by rw[F8 ex,az,dz,ec,h3];rfl);refine aq ?_;refine Gr fun w1 hw=>?_;exact⟨Sv.none,by rw[(Cu fU).2];rfl,trivial,by rw[(Cu fU).1];exact(ai.mem hw:Mem w [] _).cR av 19⟩
   rw[Hr]at h3;rw[h3]at ec;simp only[if_true,Option.bind_some]at ec;have ZO:rdv ((cs.drop 0).take (20 -0))=nH (cs.take 20):=by rw[Hr,rdv,if_pos h3]
   refine ak ?_;refine kx (enc:=av) (vals:=[_]) [(rdv ((cs.drop 0).take (20 -0)))] rfl rfl rfl (by decide) (by decide) fun Af=>?_;refine iS (s:=t2) (ys:=[(rdv ((cs.drop 0).take (20 -0)))]) rfl rfl (by decide) (fun w hw=>gM (s:=⟨false,Af,0,1,1,none⟩) Tryz.underlying22 (by decide) ((inferInstance:Hd _ _ ⟨false,Af,0,1,1,none⟩ av 19 [(rdv ((cs.drop 0).take (20 -0)))]).h w hw)) (by simp only[List.length_cons,List.length_nil];omega) (by simp only[List.length_cons,List.length_nil];omega) fun ZP akt aku=>?_;refine ak ?_;have ZQ:Rg 20 cs.length cs.length:=⟨by omega⟩;refine ag (A1 rfl rfl 20 rfl ZQ.h.1) ?_;refine Gs ?_;refine Gi ?_;exact aV (x:=(cu,cs,t2,q2)) (_,cs.drop 20,ZP,q2++[nH (cs.take 20)]) ⟨pre++[nH (cs.take 20)],by simp[lC],by rw[dz,ec];cases kL (cs.drop 20)<;>simp,by have:=gL.sub (lo:=20) (hi:=cs.length) oF (Nat.le_refl _);rwa [List.take_of_length_le (by rw[List.length_drop];omega)]at this,by simp only[List.length_drop];omega,by simp only[List.length_append,List.length_drop,List.length_cons,List.length_nil];omega⟩ (by simp only[List.length_drop];omega) sb (fun w hw=>by rw[ZO]at hw;exact ai.mem hw)
  refine ak ?_;refine Gi ?_;exact aV (x:=(i,t,q)) (i+1,t2,q2) ⟨oF,by rw[F8 ex,az,Option.bind_some,dz,show cs=[]from List.length_eq_zero_iff.1 oF,UI];simp[lC],by simp only;omega⟩ (by simp only;omega) sb (fun w hw=>ai.mem hw)
 refine RI ?_;have iT:gI (lx a)=some q:=by rw[←az,List.take_of_length_le oM]
 refine Gi ?_;refine aq ?_;refine Gb (fun h4=>?_) fun h4=>?_
 ·
  refine aq ?_;refine Gr fun w1 hw=>?_;exact⟨Sv.none,by rw[(Mp iT h4).2];rfl,trivial,by rw[(Mp iT h4).1];exact(ai.mem hw:Mem w [] _).cR av 19⟩
 refine aK ?_;refine Gr fun w1 hw=>?_;exact⟨t,by rw[(Mq iT h4).2],trivial,by rw[(Mq iT h4).1];exact hw⟩
instance ZR{a:Sl (Sl UInt8)}[ha:aO w0 L a]:bJ Tryz.prog 182 w0 L [a.sv.val] (Sv) (fun U=> .tuple #[U.val, .int .i64 (mU (lx a))]) (fun U=>own av 19 U (ly (lx a))::L) (fun U=>True) (a.xs.length<=1000/\ ∀x∈a.xs,x.xs.length<=100000):=⟨fun hp w hw=>(ZL w a (ha.h w hw) hp).mono fun e w' ⟨x,h1,h2,h3⟩=>⟨x,h1,h2,hw.call h3⟩⟩
theorem ZS(w:World)(t:Sv)(ts:List Rt)(ids:Int)(room:Int)(ht:bI av 19 (hp w) t ts):Calls Tryz.prog 101 #[t.val, .int .i64 ids, .int .i64 room] w fun e w'=> ∃U:Sl (Sl UInt8),e= .returned (.tuple #[U.sv.val, .int .i64 (jd ts ids room)])/\(lx U=jZ ts ids room)/\Mem w [Deep.bE U] w':=by
 have qM:Gv w t av 19 ts:=⟨ht⟩;refine pf Tryz.func101 rfl Tryz.ntmps101 rfl ?_;refine y7 ?_;refine bp rfl rfl rfl (fun hg=>bV (di (ay hg rfl) fF) trivial) ?_;refine bp rfl rfl rfl (fun hg=>(Ry.yl (jJ (ay hg rfl)))) ?_;refine au ?_;refine Gb (fun h0=>?_) fun h0=>?_
 ·
  refine aq ?_;refine Gr fun w1 hw=>?_;exact⟨⟨Sv.none,[]⟩,by rw[(Ms h0).1];rfl,(Ms h0).2.symm,Mem.wz (enc:=bP) (c:=1) (ai.mem hw)⟩
 obtain⟨C9,Hs⟩:=h0;have hm:=F6 C9;obtain⟨k,hk⟩: ∃k:Nat,ids=k:=⟨ids.toNat,by omega⟩;obtain⟨n,hn⟩: ∃n:Nat,room/20=n:=⟨(room/20).toNat,by omega⟩;have oB:ids*(room/20)=((k*n:Nat):Int):=by rw[hk,hn,Int.natCast_mul]
 have ek:ids.toNat=k:=by omega
 have en:(room/20).toNat=n:=by omega
 refine aS ?_;refine Gb (fun h1=>?_) fun h1=>?_
 ·
  refine aq ?_;refine Gr fun w1 hw=>?_;exact⟨⟨Sv.none,[]⟩,by rw[(Mt C9 Hs h1).1];rfl,(Mt C9 Hs h1).2.symm,Mem.wz (enc:=bP) (c:=1) (ai.mem hw)⟩
 have hE:=Mu C9 Hs h1;rw[ek,en]at hE;have xG:ts.length<=k*n:=by omega
 have hl:=ht.bd;refine au ?_;refine P4 (τ:=UInt8) (n:=k) (cap:=k) rfl rfl oM oM oM oM oM fun cT ZT=>?_;refine aS ?_;refine bA (X:=Nat×Sl (Sl UInt8)) (fun U=>[(31, .int .i64 (U.1:Nat)),(9,U.2.sv.val),(2, .int .i64 room),(29,t.val),(30, .int .i64 (ts.length:Nat))]) (fun U=>[Deep.bE U.2]) (fun U=>U.1<=ts.length/\lx U.2=nG (ts.take U.1) k n) (fun U=>ts.length -U.1) (0,cT) ⟨oF,by rw[UH];show List.map _ _=_;rw[ZT];simp⟩ sb (fun w hw=>ai.mem hw) ?_;rintro⟨i,a⟩ ⟨aT,az⟩;dsimp only;simp only at aT az;refine ak ?_;refine Gb (fun h2=>?_) fun h2=>?_
 ·
  refine au ?_;obtain⟨sA,Ht⟩:=get_some (xs:=ts) (i:=i) oM;refine ag (aR rfl rfl i rfl oM) ?_;refine ag (dO rfl i Ht rfl) ?_;refine bj fun mv=>?_;refine aK ?_;refine ag (kb rfl rfl oM oM) ?_;refine ag (kb rfl rfl oM oM) ?_;refine Gs ?_;refine iV ?_;have aW:i/n<k:=Nat.div_lt_of_lt_mul (by rw[Nat.mul_comm];omega);have Hu:i/n<a.xs.length:=by rw[←uM,az,tJ];exact aW
  obtain⟨x,hx⟩:=get_some (xs:=a.xs) (i:=i/n) Hu;have ex:(lx a)[i/n]? =some x.xs:=by simp[lx,hx]
  have N5:((i:Nat):Int)/(room/20)=((i/n:Nat):Int):=by rw[hn];exact(Int.natCast_ediv i n).symm
  have Ff:x.xs.length<=240:=by
   rw[az,nG,List.getElem?_map]at ex;obtain⟨j,_,hj⟩:=Option.map_eq_some_iff.1 ex;have:=Ml (ts.take i) n j;rw[hj]at this;omega
  refine qd (own bP 1 a.sv a.xs::own aJ 1 x.sv x.xs::an mv (av sA) 34::(a.xs.eraseIdx (i/n)).map Deep.bE) (fun w hw=>(Tr.P5 (B:=[an mv (av sA) 34]) hx).mem hw) ?_;refine Iu 9 [7] [own bP 1 a.sv a.xs,an mv (av sA) 34] (fun w hw=>ai.mem hw) oK oK ?_;simp only[List.take_succ_cons,List.take_zero];refine aq ?_;refine bu (aR rfl rfl (i/n) N5 Hu) ?_;refine bu (bw (j:=0) rfl (i/n) hx rfl (by decide)) ?_;have akv:Mb x _:=⟨List.mem_of_getElem? hx⟩;refine Gq ?_;refine Pp ?_;refine bu (aR rfl rfl (i/n) N5 Hu) ?_;refine sP ?_ (fun _ hw=>ai.mem hw);refine PU rfl rfl oM (fun _ w hw=>ai.mem hw) fun jF tZ=>?_;refine sQ ?_;simp only[List.drop_succ_cons,List.drop_zero];refine A5 (k:=i/n) ⟨jF,x.xs++gg sA⟩ oK rfl rfl rfl hx ?_;refine ak ?_;refine Gi ?_;exact aV (x:=(i,a)) (i+1,⟨a.sv,a.xs.set (i/n) ⟨jF,x.xs++gg sA⟩⟩) ⟨oF,by rw[UO,UG oF Ht (by rw[←az];exact ex),←az];rfl⟩ oF sb (fun w hw=>ai.mem ((Tr.P6 (B:=[an mv (av sA) 34]) (enc:=aJ) (c:=1) (by rw[←uM,az,tJ];exact aW)).mem hw))
 refine aK ?_;refine Gr fun w1 hw=>?_;exact⟨a,by rw[hE.1],by rw[az,hE.2,List.take_of_length_le oM],hw⟩
instance akw{t:Sv}{ts:List Rt}{ids:Int}{room:Int}[ht:cz w0 L av 19 t ts]:bJ Tryz.prog 101 w0 L [t.val, .int .i64 ids, .int .i64 room] (Sl (Sl UInt8)) (fun U=> .tuple #[U.sv.val, .int .i64 (jd ts ids room)]) (fun U=>Deep.bE U::L) (fun U=>lx U=jZ ts ids room) (True):=⟨fun hp w hw=>(ZS w t ts ids room (ht.h w hw)).mono fun e w' ⟨x,h1,h2,h3⟩=>⟨x,h1,h2,hw.call h3⟩⟩
open Go.RowKit
instance:dj Tryz.prog 65 (.agg (cM lA)):=⟨by kernel_rfl⟩
theorem Hv(v:bG)(t:Sl Rt)(w:World):(Instr.build 65 #[(0, .agg (bH v)),(1,t.sv.val)]).run Tryz.prog w= .ok (.agg (cM ⟨v,t⟩)) w:=by
 obtain⟨s,xs⟩:=t;obtain⟨⟨a1,a2,⟨a3,a4⟩,a5,a6,⟨a7,a8⟩⟩,⟨a9,ZU⟩,ZV,a12⟩:=v;unfold cM;obtain⟨e,b,o,l,c,p⟩:=s;obtain⟨e3,b3,o3,l3,c3,p3⟩:=a3;obtain⟨e7,b7,o7,l7,c7,p7⟩:=a7;obtain⟨e9,b9,o9,l9,c9,p9⟩:=a9
 cases e<;>cases e3<;>cases e7<;>cases e9<;>kernel_rfl
theorem ZW(w:World)(b:Int)(p:Int)(s:Int):Calls Tryz.prog 75 #[.int .i64 b, .int .i64 p, .int .i64 s] w fun e w'=>e= .returned (.int .i64 (xC b p s))/\Mem w [] w':=by
 have Hq:=Vz b p;have CG:=M0 s;refine pf Tryz.func75 rfl Tryz.ntmps75 rfl ?_;refine aS ?_;refine ag (kb rfl rfl oM oM) ?_;refine au ?_;refine ag (DH rfl rfl) ?_;refine au ?_;refine Gr fun w1 hw=>?_;exact Gf ((by rw[xC])) hw
instance akx{b:Int}{p:Int}{s:Int}:bO Tryz.prog 75 w0 L [.int .i64 b, .int .i64 p, .int .i64 s] (.int .i64 (xC b p s)) (True):=⟨fun hp w hw=>ZW w b p s⟩
theorem ZX(w:World)(b:Int)(p:Int)(s:Int):Calls Tryz.prog 25 #[.int .i64 b, .int .i64 p, .int .i64 s] w fun e w'=>e= .returned (.int .i64 (CC b p s))/\Mem w [] w':=by
 refine pf Tryz.func25 rfl Tryz.ntmps25 rfl ?_;refine wP ?_;refine Gr fun w1 hw=>?_;exact Gf ((by rw[CC])) hw
instance aky{b:Int}{p:Int}{s:Int}:bO Tryz.prog 25 w0 L [.int .i64 b, .int .i64 p, .int .i64 s] (.int .i64 (CC b p s)) (True):=⟨fun hp w hw=>ZX w b p s⟩
theorem ZY(w:World)(c:Cp)(hc:Deep.aU (hp w) c):Calls Tryz.prog 98 #[.agg (aE c)] w fun e w'=>e= .returned (.int .i64 (fS (cv c)))/\Mem w [] w':=by
 have jg:bQ w c:=⟨hc⟩;refine bS Tryz.func98 rfl Tryz.ntmps98 rfl ?_;refine Gc ?_;refine bM rfl fun b1=>?_;refine wP ?_;refine Gr fun w1 hw=>?_;exact Gf ((by simp only[fS,cv,fw])) hw
instance akz{c:Cp}[hc:aO w0 L c]:bO Tryz.prog 98 w0 L [.agg (aE c)] (.int .i64 (fS (cv c))) (True):=⟨fun hp w hw=>ZY w c (hc.h w hw)⟩
theorem ZZ(w:World)(c:Cp)(hc:Deep.aU (hp w) c):Calls Tryz.prog 95 #[.agg (aE c)] w fun e w'=>e= .returned (.int .i64 (ox (cv c)))/\Mem w [] w':=by
 have jg:bQ w c:=⟨hc⟩;refine bS Tryz.func95 rfl Tryz.ntmps95 rfl ?_;refine Gc ?_;refine bM rfl fun b1=>?_;refine wP ?_;refine Gr fun w1 hw=>?_;exact Gf ((by simp only[ox,cv,fw])) hw
instance akA{c:Cp}[hc:aO w0 L c]:bO Tryz.prog 95 w0 L [.agg (aE c)] (.int .i64 (ox (cv c))) (True):=⟨fun hp w hw=>ZZ w c (hc.h w hw)⟩
theorem aaa(w:World)(v:bG)(id:Nat)(hv:Deep.aU (hp w) v)(aP:aX (cv v.aj)=true/\id<v.at_.xs.length/\ ∀y∈v.at_.xs,0<=y/\y<=65535/\(y≠0->rJ (cv v.aj) (y -1)=true)):Calls Tryz.prog 181 #[.agg (bH v), .int .i64 (id:Nat)] w fun e w'=> ∃U:Sv,e= .returned (U.val)/\(True)/\Mem w [own aJ 1 U (jy (cv v.aj) (v.at_.xs.getD id 0))] w':=by
 have zM:bQ w v:=⟨hv⟩;obtain⟨hk,hid,ku⟩:=aP;obtain⟨y,hy⟩:=get_some (xs:=v.at_.xs) (i:=id) hid;have mu:v.at_.xs.getD id 0=y:=vj hy;obtain⟨uI,Gy,gq⟩:=ku y (List.mem_of_getElem? hy);refine cl Tryz.func181 rfl Tryz.ntmps181 rfl ?_;refine Gc ?_;refine bM rfl fun b2=>?_;refine aK ?_;refine ag (aR rfl rfl id rfl oM) ?_;refine ag (bw (j:=0) rfl id hy rfl (by decide)) ?_;refine aS ?_;refine Gb (fun h0=>?_) fun h0=>?_
 ·
  have hE:(jy (cv v.aj) (v.at_.xs.getD id 0))=[]:=by rw[mu,jy,if_pos oM]
  refine ak ?_;refine Gr fun w1 hw=>?_;exact⟨Sv.none,rfl,trivial,by rw[hE];exact Mem.cR aJ 1 (ai.mem hw:Mem w [] _)⟩
 have h1y:1<=y:=by omega
 obtain⟨g1,g2,g3⟩:=Cb.1 (gq oM);have dS:=fw v.aj.blocks.xs;have gk:=jT.1 (dZ.1 hk).1;simp only[cv,dS]at gk;have zO:0<=((y -1)/v.aj.ae):=Int.ediv_nonneg oM oM;have qK:0<=((y -1)%v.aj.ae):=Int.emod_nonneg _ oM;have zP:((y -1)%v.aj.ae)<v.aj.ae:=Int.emod_lt_of_pos _ oM;have nN:=vf (c:=v.aj) (b:=((y -1)/v.aj.ae));change 2<=((y -1)/v.aj.ae)at g1;change((y -1)/v.aj.ae)<((gx v.aj.blocks.xs).length:Int)at g2;rw[dS]at g2;obtain⟨B,hB⟩:=get_some (xs:=v.aj.blocks.xs) (i:=((y -1)/v.aj.ae).toNat) oM;have pL:Mb B v.aj.blocks:=⟨List.mem_of_getElem? hB⟩;have dE:bv B=aI (cv v.aj) ((y -1)/v.aj.ae):=by rw[←nN];simp[List.getD,hB]
 have eS:=fO.1 ((dZ.1 hk).2.2.2.2 (bv B) (List.mem_of_getElem? (kC hB)));have gK:=l4 B.ae.xs;have Ni:(B.ae.xs.length:Int)=v.aj.ae:=by have:=eS.1;simp only[bv,cv,gK]at this;exact this
 obtain⟨z,hz⟩:=get_some (xs:=B.ae.xs) (i:=((y -1)%v.aj.ae).toNat) oM;have sa:Mb z B.ae:=⟨List.mem_of_getElem? hz⟩;have pF:xh (cv v.aj) (y -1)=z.xs:=by
  show(aI (cv v.aj) ((y -1)/v.aj.ae)).ae.getD ((y -1)%v.aj.ae).toNat []=z.xs;rw[←dE];simp[bv,List.getD,nu hz]
 have hI:(jy (cv v.aj) (v.at_.xs.getD id 0))=kg (cv v.aj) y:=by rw[mu,jy,if_neg oM]
 refine Gc ?_;refine rn [18,22,23,2022,4018] [[],[],[],[],[],[],[],[],[],[],[],[],[],[],[],[],[],[],[],[18],[18],[18],[],[18,22],[18,22,23]] [0,1,2,3,4,5,6,7,8,9,10,11,12,13,14,15,16,17,18,19,20,21,22,23,24] [an b2 (bH v) 63] [(22,lW Tryz.prog 324)] oK (fun _ hw=>ai.mem hw) oK oK ?_;refine al rfl (aN (o':=0) rfl rfl) ?_;refine al rfl (aN (o':=2) rfl rfl) ?_;refine al rfl (bN rfl) ?_;refine al rfl (aZ rfl) ?_;refine al rfl (aN (o':=0) rfl rfl) ?_;refine al rfl (aN (o':=0) rfl rfl) ?_;refine al rfl (bN rfl) ?_;refine al rfl (kb rfl rfl oM oM) ?_;refine al rfl (aR rfl rfl (((y -1)/v.aj.ae).toNat) oM oM) ?_;refine al rfl (aN rfl rfl) ?_;refine al rfl (bw (j:=0) rfl (((y -1)/v.aj.ae).toNat) hB rfl (by decide)) ?_;refine al rfl (aZ rfl) ?_;refine al rfl (aN (o':=0) rfl rfl) ?_;refine al rfl (aN (o':=0) rfl rfl) ?_;refine al rfl (bN rfl) ?_;refine al rfl (we rfl rfl oM oM) ?_;refine al rfl (aR rfl rfl (((y -1)%v.aj.ae).toNat) oM oM) ?_;refine al rfl (bw (j:=0) rfl (((y -1)%v.aj.ae).toNat) hz rfl (by decide)) ?_;refine u4 rfl rfl trivial (fun e x w hw=>ai.mem hw) (Cert.one (i:=22) rfl rfl rfl k6 (Cert.none rfl)) fun Aa NL=>⟨fun _ hw=>ai.mem hw,?_⟩;have e1:Aa.body.xs=(cS z.xs).1.body:=congrArg PV.body NL;refine al rfl (aZ rfl) ?_;refine al rfl (aL (v:= .agg (cm Aa)) rfl rfl) ?_;refine al rfl (aL (v:= .int .i64 ((cS z.xs).2)) rfl rfl) ?_;refine qk (m:=lW Tryz.prog 324) rfl rfl k6 (Cert.none rfl) fun b6=>?_;change Ln _ _ _ _ _ _ _ _ (cd _ _ (.pointer (some ⟨b6,0,none⟩))) (an b6 (cm ma) 324::_) _;refine cY rfl (oc rfl rfl ⟨fun _ hw=>ai.mem hw,?_⟩);refine al rfl (fL rfl) ?_;refine aq ?_;refine Gb (fun h1=>?_) fun h1=>?_
 ·
  have hE:(jy (cv v.aj) (v.at_.xs.getD id 0))=[]:=by rw[hI,kg,pF,if_neg h1]
  refine ak ?_;refine Gr fun w1 hw=>?_;exact⟨Sv.none,rfl,trivial,by rw[hE];exact Mem.cR aJ 1 (ai.mem hw:Mem w [] _)⟩
 have xY:(cS z.xs).2=0:=h1;have hE:(jy (cv v.aj) (v.at_.xs.getD id 0))=Aa.body.xs:=by rw[hI,kg,pF,if_pos xY,e1]
 refine aK ?_;refine Gr fun w1 hw=>?_;exact⟨Aa.body.sv,rfl,trivial,by rw[hE];exact ai.mem hw⟩
instance akB{v:bG}{id:Nat}[hv:aO w0 L v]:bJ Tryz.prog 181 w0 L [.agg (bH v), .int .i64 (id:Nat)] (Sv) (fun U=>U.val) (fun U=>own aJ 1 U (jy (cv v.aj) (v.at_.xs.getD id 0))::L) (fun U=>True) (aX (cv v.aj)=true/\id<v.at_.xs.length/\ ∀y∈v.at_.xs,0<=y/\y<=65535/\(y≠0->rJ (cv v.aj) (y -1)=true)):=⟨fun hp w hw=>(aaa w v id (hv.h w hw) hp).mono fun e w' ⟨x,h1,h2,h3⟩=>⟨x,h1,h2,hw.call h3⟩⟩
theorem aab(w:World)(s:Sl (Sl UInt8))(hs:Deep.aU (hp w) s)(aP:s.xs.length<=1000000):Calls Tryz.prog 163 #[s.sv.val] w fun e w'=> ∃U:Sv,e= .returned (U.val)/\(True)/\Mem w [own (bP (τ:=UInt8)) 1 U s.xs] w':=by
 have r8:bQ w s:=⟨hs⟩;refine bS Tryz.func163 rfl Tryz.ntmps163 rfl ?_;refine aq ?_;refine ag (oU Tryz.underlying178 rfl) ?_;refine Gc ?_;refine Gb (fun h0=>?_) fun h0=>?_
 ·
  have e0:s.xs=[]:=List.length_eq_zero_iff.1 (by have:=hs.1.ok.nil h0;have:=hs.1.len;omega);refine ak ?_;refine Gr fun w1 hw=>?_;exact⟨Sv.none,rfl,trivial,by rw[e0];exact(ai.mem hw:Mem w [] _).cR (bP (τ:=UInt8)) 1⟩
 refine Gc ?_;refine qe (bP (τ:=UInt8)) fun b5=>?_;refine Gs ?_;refine iS (s:=⟨false,b5,0,0,0,none⟩) (enc:=(bP (τ:=UInt8))) (ys:=s.xs) rfl rfl (by decide) (fun w hw=>gM (s:=s.sv) Tryz.underlying178 (by decide) ((inferInstance:cz _ _ (bP (τ:=UInt8)) 1 s.sv s.xs).h w hw)) (by simp only[List.length_nil];omega) (by simp only[List.length_nil];omega) fun s7 r9 qJ=>?_;refine au ?_;refine Gr fun w1 hw=>?_;exact⟨s7,rfl,trivial,by rw[List.nil_append]at hw;exact ai.mem hw⟩
instance akC{s:Sl (Sl UInt8)}[hs:aO w0 L s]:bJ Tryz.prog 163 w0 L [s.sv.val] (Sv) (fun U=>U.val) (fun U=>own (bP (τ:=UInt8)) 1 U s.xs::L) (fun U=>True) (s.xs.length<=1000000):=⟨fun hp w hw=>(aab w s (hs.h w hw) hp).mono fun e w' ⟨x,h1,h2,h3⟩=>⟨x,h1,h2,hw.call h3⟩⟩
theorem aac(w:World)(c:Cp)(hc:Deep.aU (hp w) c)(aP:du c):Calls Tryz.prog 96 #[.agg (aE c)] w fun e w'=> ∃U:Cp,e= .returned (.agg (aE U))/\(cv U=cv c)/\Mem w [fz U] w':=by
 have jg:bQ w c:=⟨hc⟩;obtain⟨fh,fQ,jC⟩:=aP;refine bS Tryz.func96 rfl Tryz.ntmps96 rfl ?_;refine Gc ?_;refine bM rfl fun b1=>?_;refine bj fun b2=>?_;refine ak ?_;refine bf rfl oM fun x9 zL=>?_;refine Gs ?_;refine dw (cs':=aE (⟨c.ae,c.size,⟨x9,c.blocks.xs⟩,c.ops,c.off,c.bb⟩:Cp)) rfl rfl (by show 2<6;decide) (by first|rfl|exact Sv.one _) rfl ?_;refine aS ?_;refine bA (X:=Nat×List Bk) (fun U=>[(14, .int .i64 (U.1:Nat)),(1, .pointer (some ⟨b1,0,none⟩)),(2, .pointer (some ⟨b2,0,none⟩)),(12,x9.val),(13, .int .i64 (c.blocks.xs.length:Nat))]) (fun U=>[own bK 4 x9 U.2,ah.all ((U.2.take U.1).map fun b:Bk=>fz b.ae),an b2 (aE fe) 59,an b1 (aE (⟨c.ae,c.size,⟨x9,U.2⟩,c.ops,c.off,c.bb⟩:Cp)) 59]) (fun U=>U.1<=c.blocks.xs.length/\U.2.length=c.blocks.xs.length/\gx U.2=gx c.blocks.xs/\ ∀j,U.1<=j->U.2[j]? =c.blocks.xs[j]?) (fun U=>c.blocks.xs.length -U.1) (0,c.blocks.xs) ⟨Nat.zero_le _,rfl,rfl,fun _ _=>rfl⟩ sb (fun w hw=>by
  simp only[List.take_zero,List.map_nil];exact ai.mem (Mem.rr hw)) ?_
 rintro⟨i,zs⟩ ⟨aT,az,ba,ck⟩;dsimp only;simp only at aT az ba ck;refine ak ?_;refine Gb (fun h0=>?_) fun h0=>?_
 ·
  obtain⟨z,hz⟩:=get_some (xs:=zs) (i:=i) oM;have sa:Mb z c.blocks:=⟨List.mem_of_getElem? (by rw[←ck i (Nat.le_refl _)];exact hz)⟩;have dW:=jC z sa.h;obtain⟨aad,akD⟩:=dW;rw[l4]at aad;refine au ?_;refine ag (aR rfl rfl i rfl oM) ?_;refine ag (dO rfl i hz rfl) ?_;refine bj fun b4=>?_;refine aK ?_;refine bf rfl oM fun fC zX=>?_;refine aS ?_;refine bA (X:=Nat×List (Sl UInt8)) (fun U=>[(24, .int .i64 (U.1:Nat)),(5,fC.val),(1, .pointer (some ⟨b1,0,none⟩)),(2, .pointer (some ⟨b2,0,none⟩)),(3, .int .i64 (i:Nat)),(12,x9.val),(13, .int .i64 (c.blocks.xs.length:Nat)),(14, .int .i64 (i:Nat)),(23, .int .i64 (z.ae.xs.length:Nat))]) (fun U=>[own (bP (τ:=UInt8)) 1 fC U.2,ah.all ((U.2.take U.1).map fun b:Sl UInt8=>fz b),an b4 (bK z) 180,own bK 4 x9 zs,ah.all ((zs.take i).map fun b:Bk=>fz b.ae),an b2 (aE fe) 59,an b1 (aE (⟨c.ae,c.size,⟨x9,zs⟩,c.ops,c.off,c.bb⟩:Cp)) 59]) (fun U=>U.1<=z.ae.xs.length/\U.2.length=z.ae.xs.length/\aG U.2=aG z.ae.xs/\ ∀k,U.1<=k->U.2[k]? =z.ae.xs[k]?) (fun U=>z.ae.xs.length -U.1) (0,z.ae.xs) ⟨Nat.zero_le _,rfl,rfl,fun _ _=>rfl⟩ sb (fun w hw=>by
   simp only[List.take_zero,List.map_nil];exact ai.mem (Mem.rr hw)) ?_
  rintro⟨j,qs⟩ ⟨lC,dz,gL,kt⟩;dsimp only;simp only at lC dz gL kt;refine ak ?_;refine Gb (fun h1=>?_) fun h1=>?_
  ·
   obtain⟨y,hy⟩:=get_some (xs:=qs) (i:=j) oM;have Hw:z.ae.xs[j]? =some y:=by rw[←kt j (Nat.le_refl _)];exact hy
   have GO:Mb y z.ae:=⟨List.mem_of_getElem? Hw⟩;have xG:=zk (nu Hw);have gK:=zl (aG z.ae.xs) (j+1);have N6:y.xs.length<=140737488355328:=by rw[xG]at gK;omega
   refine ak ?_;refine iV ?_;refine Bw (s:=fC) (enc:=bP (τ:=UInt8)) (c:=1) (xs:=qs) inferInstance oM fun akE akF aae akG=>?_;refine Gi ?_;refine aq ?_;refine ag (aR rfl rfl j rfl oM) ?_;refine ag (bw (j:=0) rfl j hy rfl (by decide)) ?_;refine bf rfl N6 fun iM tY=>?_;obtain⟨sA,Ht⟩:=get_some (xs:=qs) (i:=j) oM;refine ag (kT (s:=fC) (i:=j) rfl rfl rfl aae oM) ?_;refine A5 (s:=fC) (xs:=qs) (k:=j) (a:=y) (⟨iM,y.xs⟩:Sl UInt8) oK rfl rfl rfl hy ?_;refine ak ?_;refine Gi ?_;exact aV (x:=(j,qs)) (j+1,qs.set j (⟨iM,y.xs⟩:Sl UInt8)) ⟨oF,by rw[List.length_set];exact dz,by rw[aG,List.map_set,←aG,gL];exact w5 (z:=y.xs) (nu Hw),fun k hk=>by rw[List.getElem?_set_ne oF];exact kt k oF⟩ (by simp only;omega) sb (fun w hw=>by
    have h1:=Fe (a:=(⟨iM,y.xs⟩:Sl UInt8)) (ai.mem hw:Mem _ (own aJ 1 iM y.xs::[own (bP (τ:=UInt8)) 1 fC (qs.set j (⟨iM,y.xs⟩:Sl UInt8)),ah.all ((qs.take j).map fun b:Sl UInt8=>fz b),an b4 (bK z) 180,own bK 4 x9 zs,ah.all ((zs.take i).map fun b:Bk=>fz b.ae),an b2 (aE fe) 59,an b1 (aE (⟨c.ae,c.size,⟨x9,zs⟩,c.ops,c.off,c.bb⟩:Cp)) 59]) _);have h3:=Mem.w4 (ai.mem h1:Mem _ (fz (⟨iM,y.xs⟩:Sl UInt8)::ah.all ((qs.take j).map fun b:Sl UInt8=>fz b)::[own (bP (τ:=UInt8)) 1 fC (qs.set j (⟨iM,y.xs⟩:Sl UInt8)),an b4 (bK z) 180,own bK 4 x9 zs,ah.all ((zs.take i).map fun b:Bk=>fz b.ae),an b2 (aE fe) 59,an b1 (aE (⟨c.ae,c.size,⟨x9,zs⟩,c.ops,c.off,c.bb⟩:Cp)) 59]) _);rw[Fq (z':=(⟨iM,y.xs⟩:Sl UInt8)) hy]at h3;exact ai.mem h3)
  obtain rfl:j=qs.length:=by omega
  rw[List.take_of_length_le (Nat.le_refl _)]at*;refine RH ?_;refine Bw (s:=x9) (enc:=bK) (c:=4) (xs:=zs) inferInstance oM fun hn9 hs9 ho9 hl9=>?_;refine Gi ?_;refine aq ?_;obtain⟨e40,aaf⟩:=get_some (xs:=zs) (i:=i) oM;refine ag (kT (s:=x9) (i:=i) rfl rfl rfl ho9 oM) ?_;refine ag (aN rfl rfl) ?_;refine iz (n:=1) (k:=i) (j:=0) (a:=z) (a':=({z with ae:=⟨fC,qs⟩}:Bk)) (xs:=zs) (enc:=bK) (c:=4) (v:=fC.val) oK rfl rfl rfl hz (by rw[Sv.fY];simp[Sv.one]) (by rw[Sv.fY];rfl) (by decide) (by rw[Sv.fY];rfl) ?_
  refine ak ?_;refine Gi ?_;exact aV (x:=(i,zs)) (i+1,zs.set i ({z with ae:=⟨fC,qs⟩}:Bk)) ⟨oF,by rw[List.length_set];exact az,by rw[ve,←ba,show bv ({z with ae:=⟨fC,qs⟩}:Bk)=bv z from by rw[bv,bv,gL],←ve,w5 hz],fun j hj=>by rw[List.getElem?_set_ne oF];exact ck j oF⟩ (by simp only;omega) sb (fun w hw=>by
   have h1:=Fp (ai.mem hw:Mem _ (own (bP (τ:=UInt8)) 1 fC qs::ah.all (qs.map fun b:Sl UInt8=>fz b)::[own bK 4 x9 (zs.set i ({z with ae:=⟨fC,qs⟩}:Bk)),ah.all ((zs.take i).map fun b:Bk=>fz b.ae),an b2 (aE fe) 59,an b1 (aE (⟨c.ae,c.size,⟨x9,zs⟩,c.ops,c.off,c.bb⟩:Cp)) 59]) _)
   have h3:=Mem.w4 (ai.mem h1:Mem _ (fz (⟨fC,qs⟩:Sl (Sl UInt8))::ah.all ((zs.take i).map fun b:Bk=>fz b.ae)::[own bK 4 x9 (zs.set i ({z with ae:=⟨fC,qs⟩}:Bk)),an b2 (aE fe) 59,an b1 (aE (⟨c.ae,c.size,⟨x9,zs⟩,c.ops,c.off,c.bb⟩:Cp)) 59]) _)
   rw[K1 (z':=({z with ae:=⟨fC,qs⟩}:Bk)) hz]at h3
   exact(ai.mem h3:Mem _ [own bK 4 x9 (zs.set i ({z with ae:=⟨fC,qs⟩}:Bk)),ah.all (((zs.set i ({z with ae:=⟨fC,qs⟩}:Bk)).take (i+1)).map fun b:Bk=>fz b.ae),an b2 (aE fe) 59,an b1 (aE (⟨c.ae,c.size,⟨x9,zs⟩,c.ops,c.off,c.bb⟩:Cp)) 59] _))
 obtain rfl:i=zs.length:=by omega
 rw[List.take_of_length_le (Nat.le_refl _)]at*;refine au ?_;refine ag (Ry.to (v':=c.bb.sv.val) (bN rfl) rfl) ?_;refine bf rfl oM fun pQ N7=>?_;refine Gs ?_;refine dw (cs':=aE (⟨c.ae,c.size,⟨x9,zs⟩,c.ops,c.off,⟨pQ,c.bb.xs⟩⟩:Cp)) rfl rfl (by show 5<6;decide) (by first|rfl|exact Sv.one _) rfl ?_;refine aq ?_;refine Gr fun w1 hw=>?_;exact⟨(⟨c.ae,c.size,⟨x9,zs⟩,c.ops,c.off,⟨pQ,c.bb.xs⟩⟩:Cp),rfl,by simp only[cv,ba],BW (d:=(⟨c.ae,c.size,⟨x9,zs⟩,c.ops,c.off,⟨pQ,c.bb.xs⟩⟩:Cp)) ((KI (a:=(⟨pQ,c.bb.xs⟩:Sl Ft)) ((KY (ai.mem hw:Mem w (own bK 4 x9 zs::ah.all (zs.map fun b:Bk=>fz b.ae)::[own cZ 4 pQ c.bb.xs]) _)).perm (List.Perm.swap _ _ _))).perm (List.Perm.swap _ _ _))⟩
instance akH{c:Cp}[hc:aO w0 L c]:bJ Tryz.prog 96 w0 L [.agg (aE c)] (Cp) (fun U=> .agg (aE U)) (fun U=>fz U::L) (fun U=>cv U=cv c) (du c):=⟨fun hp w hw=>(aac w c (hc.h w hw) hp).mono fun e w' ⟨x,h1,h2,h3⟩=>⟨x,h1,h2,hw.call h3⟩⟩
theorem aag(w:World)(c:Cp)(hc:Deep.aU (hp w) c):Calls Tryz.prog 108 #[.agg (aE c)] w fun e w'=> ∃U:cB×Sl (Sl UInt8),e= .returned (.tuple #[.agg (cM U.1),U.2.sv.val, .int .i64 ((df (cv c)).2)])/\(bU U.1=(df (cv c)).1/\lx U.2=jf (cv c))/\Mem w [fz U.1,fz U.2] w':=by
 have jg:bQ w c:=⟨hc⟩;refine bS Tryz.func108 rfl Tryz.ntmps108 rfl ?_;refine Gc ?_;refine bM rfl fun b1=>?_;refine bj fun b2=>?_;refine cw ?_;refine Gb (fun h0=>?_) fun h0=>?_
 ·
  have hE:=MU h0;refine Gc ?_;refine ag (cy (v:= .agg (cM lA)) rfl (fun w=>by kernel_rfl)) ?_;refine aq ?_;refine Gr fun w1 hw=>?_;exact⟨(lA,⟨Sv.none,[]⟩),by rw[hE.1];rfl,⟨by rw[hE.1];rfl,by rw[hE.2];rfl⟩,CE (xD (ai.mem hw:Mem w [] _))⟩
 refine au ?_;refine bf rfl trivial fun ax ji=>?_;have aah:=Lm (cv c);rw[UC]at ji;have Da:ax.at_.xs=(bq (cv c)).1.at_:=congrArg VV.at_ ji;rw[←Da]at aah;have akI: ∀(L:List ah) [Hd w L ax.at_.sv bl 1 ax.at_.xs],aO w L ax.at_:=fun L q=>⟨fun w h=>⟨q.h w h,fun _ _=>trivial⟩⟩;have akJ: ∀(L:List ah) [aO w L ax.aj] [aO w L ax.at_],aO w L ax:=fun L p q=>⟨fun w h=>⟨p.h w h,q.h w h⟩⟩;refine Gs ?_;refine ag (aL (v:= .agg (bH ax)) rfl rfl) ?_;refine ag (aL (v:= .int .i64 ((bq (cv c)).2)) rfl rfl) ?_;refine bj fun b5=>?_;refine aS ?_;refine Gb (fun h1=>?_) fun h1=>?_
 ·
  have hE:=MW h0 h1;refine Gc ?_;refine ag (cy (v:= .agg (cM lA)) rfl (fun w=>by kernel_rfl)) ?_;refine aK ?_;refine Gr fun w1 hw=>?_;exact⟨(lA,⟨Sv.none,[]⟩),by rw[hE.1];rfl,⟨by rw[hE.1];rfl,by rw[hE.2];rfl⟩,CE (xD (ai.mem hw:Mem w [] _))⟩
 have xY:(bq (cv c)).2=0:=h1;have Hx:nz (vv ax)=true:=by rw[ji];exact VC xY
 have yo:cv ax.aj=(vv ax).aj:=rfl;have N8:aX (cv ax.aj)=true:=(Cd Hx).1;have hby: ∀y∈ax.at_.xs,0<=y/\y<=65535/\(y≠0->rJ (cv ax.aj) (y -1)=true):=fun y hy=>by
  obtain⟨g1,g2⟩:=(Cd Hx).2.2 y hy;obtain⟨j,hj⟩:=List.getElem?_of_mem hy;exact⟨g1,g2,fun g=>(Lp Hx hj g).2.2⟩
 refine Gc ?_;refine fH oK oK ?_;refine aq ?_;refine nm (bV rfl trivial) ?_;refine au ?_;refine Gb (fun h2=>?_) fun h2=>?_
 ·
  have Aj:(((bq (cv c)).1.at_.length:Nat):Int)≠fS (cv c):=by rw[←Da];exact h2
  have hE:=MX h0 xY Aj;refine Gc ?_;refine ag (cy (v:= .agg (cM lA)) rfl (fun w=>by kernel_rfl)) ?_;refine aq ?_;refine Gr fun w1 hw=>?_;exact⟨(lA,⟨Sv.none,[]⟩),by rw[hE.1];rfl,⟨by rw[hE.1];rfl,by rw[hE.2];rfl⟩,CE (xD (ai.mem hw:Mem w [] _))⟩
 have Aj:(((bq (cv c)).1.at_.length:Nat):Int)=fS (cv c):=by rw[←Da];exact h2
 have akK:ax.at_.xs.length<=64:=by have:=M1 (cv c);rw[←Da]at Aj;omega
 refine aq ?_;refine qb (enc:=bP (τ:=UInt8)) (n:=ax.at_.xs.length) (cap:=ax.at_.xs.length) (⟨Sv.none,[]⟩:Sl UInt8) rfl rfl rfl rfl rfl oM oM oM fun gV=>?_;refine aS ?_;refine bA (X:=Nat×List (Sl UInt8)) (fun U=>[(36, .int .i64 (U.1:Nat)),(7,(⟨false,gV,0,ax.at_.xs.length,ax.at_.xs.length,none⟩:Sv).val),(2, .pointer (some ⟨b2,0,none⟩)),(5, .pointer (some ⟨b5,0,none⟩)),(35, .int .i64 ((List.replicate ax.at_.xs.length (⟨Sv.none,[]⟩:Sl UInt8)).length:Nat))]) (fun U=>[own (bP (τ:=UInt8)) 1 ⟨false,gV,0,ax.at_.xs.length,ax.at_.xs.length,none⟩ U.2,ah.all ((U.2.take U.1).map fun b:Sl UInt8=>fz b),an b5 (bH ax) 63,fz ax.aj,own bl 1 ax.at_.sv ax.at_.xs,an b2 (cM lA) 65,an b1 (aE c) 59]) (fun U=>U.1<=ax.at_.xs.length/\U.2.length=ax.at_.xs.length/\aG (U.2.take U.1)=(ax.at_.xs.take U.1).map (jy (cv ax.aj))) (fun U=>ax.at_.xs.length -U.1) (0,List.replicate ax.at_.xs.length (⟨Sv.none,[]⟩:Sl UInt8)) ⟨Nat.zero_le _,by simp,by simp[aG]⟩ sb (fun w hw=>by
  simp only[List.take_zero,List.map_nil];exact ai.mem (Mem.rr hw)) ?_
 rintro⟨i,qs⟩ ⟨aT,az,ba⟩;dsimp only;simp only at aT az ba;refine ak ?_;refine Gb (fun h3=>?_) fun h3=>?_
 ·
  rw[List.length_replicate]at h3;obtain⟨q,hq⟩:=get_some (xs:=qs) (i:=i) oM;obtain⟨y,hy⟩:=get_some (xs:=ax.at_.xs) (i:=i) oM;have mu:ax.at_.xs.getD i 0=y:=vj hy;refine ak ?_;refine iV ?_;have aai:=B8 (b:=gV) (n:=ax.at_.xs.length) oM;refine Gi ?_;refine aq ?_;refine bf rfl ⟨N8,by omega,hby⟩ fun iq oG=>?_;obtain⟨e44,akL⟩:=get_some (xs:=qs) (i:=i) oM;refine ag (kT (s:=⟨false,gV,0,ax.at_.xs.length,ax.at_.xs.length,none⟩) (i:=i) rfl rfl rfl aai (by simp only;omega)) ?_;refine A5 (s:=⟨false,gV,0,ax.at_.xs.length,ax.at_.xs.length,none⟩) (xs:=qs) (k:=i) (a:=q) (⟨iq,jy (cv ax.aj) (ax.at_.xs.getD i 0)⟩:Sl UInt8) oK rfl rfl oM hq ?_;refine ak ?_;refine Gi ?_;exact aV (x:=(i,qs)) (i+1,qs.set i (⟨iq,jy (cv ax.aj) (ax.at_.xs.getD i 0)⟩:Sl UInt8)) ⟨oF,by rw[List.length_set];exact az,by rw[aG,B7 hq,←aG,ba,List.take_add_one,hy,List.map_append,mu];rfl⟩ (by simp only;omega) sb (fun w hw=>by
   have h1:=Fe (a:=(⟨iq,jy (cv ax.aj) (ax.at_.xs.getD i 0)⟩:Sl UInt8)) (ai.mem hw:Mem _ (own aJ 1 iq (jy (cv ax.aj) (ax.at_.xs.getD i 0))::[own (bP (τ:=UInt8)) 1 ⟨false,gV,0,ax.at_.xs.length,ax.at_.xs.length,none⟩ (qs.set i (⟨iq,jy (cv ax.aj) (ax.at_.xs.getD i 0)⟩:Sl UInt8)),ah.all ((qs.take i).map fun b:Sl UInt8=>fz b),an b5 (bH ax) 63,fz ax.aj,own bl 1 ax.at_.sv ax.at_.xs,an b2 (cM lA) 65,an b1 (aE c) 59]) _);have h3:=Mem.w4 (ai.mem h1:Mem _ (fz (⟨iq,jy (cv ax.aj) (ax.at_.xs.getD i 0)⟩:Sl UInt8)::ah.all ((qs.take i).map fun b:Sl UInt8=>fz b)::[own (bP (τ:=UInt8)) 1 ⟨false,gV,0,ax.at_.xs.length,ax.at_.xs.length,none⟩ (qs.set i (⟨iq,jy (cv ax.aj) (ax.at_.xs.getD i 0)⟩:Sl UInt8)),an b5 (bH ax) 63,fz ax.aj,own bl 1 ax.at_.sv ax.at_.xs,an b2 (cM lA) 65,an b1 (aE c) 59]) _);rw[Fq (z':=(⟨iq,jy (cv ax.aj) (ax.at_.xs.getD i 0)⟩:Sl UInt8)) hq]at h3;exact ai.mem h3)
 rw[List.length_replicate]at h3;obtain rfl:i=qs.length:=by omega
 rw[List.take_of_length_le (Nat.le_refl _)]at*;rw[List.take_of_length_le oM]at ba;have rZ:lx (⟨⟨false,gV,0,ax.at_.xs.length,ax.at_.xs.length,none⟩,qs⟩:Sl (Sl UInt8))=nL (bq (cv c)).1:=by rw[←ji];exact ba
 have dS: ∀x∈qs,x.xs.length<=100000:=fun x hx=>by
  have hm:x.xs∈aG qs:=List.mem_map_of_mem (f:=fun x:Sl UInt8=>x.xs) hx;rw[ba]at hm;obtain⟨y,_,hye⟩:=List.mem_map.1 hm;rw[←hye];exact Nat.le_trans (VF _ _) (by decide)
 refine k8 ?_;refine qd [fz (⟨⟨false,gV,0,ax.at_.xs.length,ax.at_.xs.length,none⟩,qs⟩:Sl (Sl UInt8)),an b5 (bH ax) 63,fz ax.aj,own bl 1 ax.at_.sv ax.at_.xs,an b2 (cM lA) 65,an b1 (aE c) 59] (fun w hw=>ai.mem (Fp (ai.mem hw:Mem _ (own (bP (τ:=UInt8)) 1 ⟨false,gV,0,ax.at_.xs.length,ax.at_.xs.length,none⟩ qs::ah.all (qs.map fun b:Sl UInt8=>fz b)::[an b5 (bH ax) 63,fz ax.aj,own bl 1 ax.at_.sv ax.at_.xs,an b2 (cM lA) 65,an b1 (aE c) 59]) _))) ?_;refine Gi ?_;refine Gs ?_;refine bf (hc:=ZR (a:=(⟨⟨false,gV,0,ax.at_.xs.length,ax.at_.xs.length,none⟩,qs⟩:Sl (Sl UInt8)))) rfl ⟨by show qs.length<=1000;omega,dS⟩ fun ud NM=>?_;refine Gs ?_;refine ag (aL (v:=ud.val) rfl rfl) ?_;refine ag (aL (v:= .int .i64 (mU (lx (⟨⟨false,gV,0,ax.at_.xs.length,ax.at_.xs.length,none⟩,qs⟩:Sl (Sl UInt8))))) rfl rfl) ?_;refine aS ?_;refine Gb (fun h4=>?_) fun h4=>?_
 ·
  rw[rZ]at h4;have hE:=MY h0 xY Aj h4;refine Gc ?_;refine ag (cy (v:= .agg (cM lA)) rfl (fun w=>by kernel_rfl)) ?_;refine aq ?_;refine Gr fun w1 hw=>?_;exact⟨(lA,⟨Sv.none,[]⟩),by rw[hE.1];rfl,⟨by rw[hE.1];rfl,by rw[hE.2];rfl⟩,CE (xD (ai.mem hw:Mem w [] _))⟩
 have N9:=h4;rw[rZ]at N9;have hE:=Vw h0 xY Aj N9;refine ak ?_;refine ag (cy (v:= .agg (cM (⟨ax,⟨ud,ly (lx (⟨⟨false,gV,0,ax.at_.xs.length,ax.at_.xs.length,none⟩,qs⟩:Sl (Sl UInt8)))⟩⟩:cB))) rfl (Hv ax ⟨ud,ly (lx (⟨⟨false,gV,0,ax.at_.xs.length,ax.at_.xs.length,none⟩,qs⟩:Sl (Sl UInt8)))⟩)) ?_;refine aK ?_;refine Gr fun w1 hw=>?_;exact⟨((⟨ax,⟨ud,ly (lx (⟨⟨false,gV,0,ax.at_.xs.length,ax.at_.xs.length,none⟩,qs⟩:Sl (Sl UInt8)))⟩⟩:cB),(⟨⟨false,gV,0,ax.at_.xs.length,ax.at_.xs.length,none⟩,qs⟩:Sl (Sl UInt8))),by rw[hE.1],⟨by rw[hE.1];simp only[bU,rZ,ji],by rw[hE.2];exact rZ⟩,MZ (f:=(⟨ax,⟨ud,ly (lx (⟨⟨false,gV,0,ax.at_.xs.length,ax.at_.xs.length,none⟩,qs⟩:Sl (Sl UInt8)))⟩⟩:cB)) (ai.mem hw:Mem w [fz ax.aj,own bl 1 ax.at_.sv ax.at_.xs,own av 19 ud (ly (lx (⟨⟨false,gV,0,ax.at_.xs.length,ax.at_.xs.length,none⟩,qs⟩:Sl (Sl UInt8)))),fz (⟨⟨false,gV,0,ax.at_.xs.length,ax.at_.xs.length,none⟩,qs⟩:Sl (Sl UInt8))] _)⟩
instance akM{c:Cp}[hc:aO w0 L c]:bJ Tryz.prog 108 w0 L [.agg (aE c)] (cB×Sl (Sl UInt8)) (fun U=> .tuple #[.agg (cM U.1),U.2.sv.val, .int .i64 ((df (cv c)).2)]) (fun U=>fz U.1::fz U.2::L) (fun U=>bU U.1=(df (cv c)).1/\lx U.2=jf (cv c)) (True):=⟨fun hp w hw=>(aag w c (hc.h w hw)).mono fun e w' ⟨x,h1,h2,h3⟩=>⟨x,h1,h2,hw.call h3⟩⟩
theorem aaj(w:World)(x:Sv)(xs:List Rt)(y:Sv)(ys:List Rt)(hx:bI av 19 (hp w) x xs)(hy:bI av 19 (hp w) y ys):Calls Tryz.prog 168 #[x.val,y.val] w fun e w'=>e= .returned (.bool (decide (xs=ys)))/\Mem w [] w':=by
 have xI:Gv w x av 19 xs:=⟨hx⟩;have Nn:Gv w y av 19 ys:=⟨hy⟩;have Xn:=hx.bd;refine cl Tryz.func168 rfl Tryz.ntmps168 rfl ?_;refine fc ?_;refine Gb (fun h0=>?_) fun h0=>?_
 ·
  have hz:decide (xs=ys)=false:=decide_eq_false fun e=>h0 (by rw[e]);refine ak ?_;refine Gr fun w1 hw=>?_;exact Ge (hz.symm) hw
 have mR:xs.length=ys.length:=by omega
 refine aK ?_;refine bA (X:=Nat) (fun U=>[(13, .int .i64 (U:Nat)),(0,x.val),(1,y.val),(12, .int .i64 (xs.length:Nat))]) (fun U=>[]) (fun U=>U<=xs.length/\ ∀j,j<U->xs[j]? =ys[j]?) (fun U=>xs.length -U) 0 ⟨Nat.zero_le _,fun j hj=>by first|omega|(simp only[];omega)⟩ sb (fun w hw=>ai.mem hw) ?_;rintro i ⟨aT,az⟩;refine ak ?_;refine Gb (fun h1=>?_) fun h1=>?_
 ·
  obtain⟨p,iU⟩:=get_some (xs:=xs) (i:=i) oM;obtain⟨q,sf⟩:=get_some (xs:=ys) (i:=i) oM;refine aq ?_;refine fH oK oK ?_;refine au ?_;refine bu (aR rfl rfl i rfl oM) ?_;refine bu (dO rfl i iU rfl) ?_;refine au ?_;refine bu (aR rfl rfl i rfl oM) ?_;refine bu (dO rfl i sf rfl) ?_;refine bu (Ij rfl rfl) ?_;refine Gc ?_;refine Gb (fun h2=>?_) fun h2=>?_
  ·
   have hz:decide (xs=ys)=false:=decide_eq_false fun e=>h2 (by rw[e]at iU;rw[iU]at sf;cases sf;rfl);refine ak ?_;refine Gr fun w1 hw=>?_;exact Ge (hz.symm) hw
  refine ak ?_;refine Gi ?_;exact aV (x:=(i)) (i+1) ⟨oF,fun j hj=>if e:j=i then(by subst e;rw[iU,sf,h2])else az j oF⟩ oF sb (fun w hw=>ai.mem hw)
 obtain rfl:i=xs.length:=by omega
 have hz:decide (xs=ys)=true:=decide_eq_true (List.ext_getElem? fun j=>by
  rcases Nat.lt_or_ge j xs.length with hj|hj
  ·
   exact az j hj
  rw[List.getElem?_eq_none hj,List.getElem?_eq_none oM])
 refine ak ?_;refine Gr fun w1 hw=>?_;exact Ge (hz.symm) hw
instance akN{x:Sv}{xs:List Rt}{y:Sv}{ys:List Rt}[hx:cz w0 L av 19 x xs][hy:cz w0 L av 19 y ys]:bO Tryz.prog 168 w0 L [x.val,y.val] (.bool (decide (xs=ys))) (True):=⟨fun hp w hw=>aaj w x xs y ys (hx.h w hw) (hy.h w hw)⟩
theorem aak(w:World)(f:cB)(hf:Deep.aU (hp w) f):Calls Tryz.prog 99 #[.agg (cM f)] w fun e w'=> ∃U:Sl (Sl UInt8),e= .returned (.tuple #[U.sv.val, .bool (jz (bU f))])/\(jz (bU f)=true->lx U=jf {(bU f).aB.aj with off:=false})/\Mem w [fz U] w':=by
 have Oa:bQ w f:=⟨hf⟩;refine bS Tryz.func99 rfl Tryz.ntmps99 rfl ?_;refine Gc ?_;refine bM rfl fun b1=>?_;refine aK ?_;refine ag (gD rfl) ?_;refine bj fun b4=>?_;refine ak ?_;refine dw (cs':=aE (⟨f.aB.aj.ae,f.aB.aj.size,f.aB.aj.blocks,f.aB.aj.ops,false,f.aB.aj.bb⟩:Cp)) rfl rfl (by show 4<6;decide) (by first|rfl|exact Sv.one _) rfl ?_;refine au ?_;refine bf rfl trivial fun iN vJ=>?_;have Db:bU iN.1=(df {(bU f).aB.aj with off:=false}).1:=vJ.1
 have g1:iN.1.aB.gen.toNat=(df {(bU f).aB.aj with off:=false}).1.aB.gen:=congrArg (fun z:FV=>z.aB.gen) Db
 have g2:iN.1.aB.last=(df {(bU f).aB.aj with off:=false}).1.aB.last:=congrArg (fun z:FV=>z.aB.last) Db
 have g3:iN.1.aB.at_.xs=(df {(bU f).aB.aj with off:=false}).1.aB.at_:=congrArg (fun z:FV=>z.aB.at_) Db
 have g4:iN.1.table.xs=(df {(bU f).aB.aj with off:=false}).1.table:=congrArg FV.table Db
 have hS:jz (bU f)=true↔(df {(bU f).aB.aj with off:=false}).2=0/\f.aB.gen.toNat=iN.1.aB.gen.toNat/\f.aB.last=iN.1.aB.last/\f.aB.at_.xs=iN.1.aB.at_.xs/\f.table.xs=iN.1.table.xs:=by rw[Vy,g1,g2,g3,g4];rfl
 refine Gs ?_;refine ag (aL (v:= .agg (cM iN.1)) rfl rfl) ?_;refine ag (aL (v:=iN.2.sv.val) rfl rfl) ?_;refine ag (aL (v:= .int .i64 ((df (cv (⟨f.aB.aj.ae,f.aB.aj.size,f.aB.aj.blocks,f.aB.aj.ops,false,f.aB.aj.bb⟩:Cp))).2)) rfl rfl) ?_;refine bj fun b5=>?_;refine dr ?_;refine bp rfl rfl rfl (fun hg=>(Ry.yl (aN (o':=7) (ay hg rfl) rfl))) ?_;refine au ?_;refine bp rfl rfl rfl (fun hg=>(Ry.yl (aN (o':=7) (ay hg rfl) rfl))) ?_;refine aK ?_;refine bp rfl rfl rfl (fun hg=>(Ry.yl (aN (o':=8) (ay hg rfl) rfl))) ?_;refine au ?_;refine bp rfl rfl rfl (fun hg=>(Ry.yl (aN (o':=8) (ay hg rfl) rfl))) ?_;refine aq ?_;refine Gb (fun h0=>?_) fun h0=>?_
 ·
  have hE:jz (bU f)=false:=by
   cases hk:jz (bU f)with
   |false=>rfl
   |true=>
    obtain⟨q1,q2,q3,q4,q5⟩:=hS.1 hk;rcases h0 with(h|h)|h
    ·
     exact absurd q1 h
    ·
     omega
    exact absurd q3 h
  refine aq ?_;refine Gr fun w1 hw=>?_;exact⟨⟨Sv.none,[]⟩,by rw[hE];rfl,(fun h=>by rw[hE]at h;cases h),xD (ai.mem hw:Mem w [] _)⟩
 refine JU ?_;refine bp rfl rfl rfl (fun hg=>bV (di (ay hg rfl) (di (ay hg rfl) fF)) trivial) ?_;refine bp rfl rfl rfl (fun hg=>(Ry.yl (jJ (ay hg rfl)))) ?_;refine au ?_;refine Gb (fun h1=>?_) fun h1=>?_
 ·
  have hE:jz (bU f)=false:=by
   cases hk:jz (bU f)with
   |false=>rfl
   |true=>
    obtain⟨q1,q2,q3,q4,q5⟩:=hS.1 hk;rcases h1 with h|h
    ·
     exact absurd q4 h
    exact absurd q5 h
  refine aq ?_;refine Gr fun w1 hw=>?_;exact⟨⟨Sv.none,[]⟩,by rw[hE];rfl,(fun h=>by rw[hE]at h;cases h),xD (ai.mem hw:Mem w [] _)⟩
 have hE:jz (bU f)=true:=hS.2 ⟨h0.1.1,by have:=h0.1.2;omega,h0.2,h1.1,h1.2⟩;refine aK ?_;refine Gr fun w1 hw=>?_;exact⟨iN.2,by rw[hE],(fun _=>vJ.2),ai.mem hw⟩
instance akO{f:cB}[hf:aO w0 L f]:bJ Tryz.prog 99 w0 L [.agg (cM f)] (Sl (Sl UInt8)) (fun U=> .tuple #[U.sv.val, .bool (jz (bU f))]) (fun U=>fz U::L) (fun U=>jz (bU f)=true->lx U=jf {(bU f).aB.aj with off:=false}) (True):=⟨fun hp w hw=>(aak w f (hf.h w hw)).mono fun e w' ⟨x,h1,h2,h3⟩=>⟨x,h1,h2,hw.call h3⟩⟩
theorem aal(w:World)(c:Cp)(hc:Deep.aU (hp w) c):Calls Tryz.prog 43 #[.agg (aE c)] w fun e w'=> ∃U:cB,e= .returned (.tuple #[.agg (cM U), .int .i64 ((df (cv c)).2)])/\(bU U=(df (cv c)).1)/\Mem w [fz U] w':=by
 have jg:bQ w c:=⟨hc⟩;refine bS Tryz.func43 rfl Tryz.ntmps43 rfl ?_;refine Gc ?_;refine bM rfl fun b1=>?_;refine bj fun b2=>?_;refine ak ?_;refine bf rfl trivial fun x9 zL=>?_;refine Gs ?_;refine ag (aL (v:= .agg (cM x9.1)) rfl rfl) ?_;refine ag (aL (v:=x9.2.sv.val) rfl rfl) ?_;refine ag (aL (v:= .int .i64 ((df (cv c)).2)) rfl rfl) ?_;refine bj fun b4=>?_;refine fc ?_;refine Gr fun w1 hw=>?_;exact⟨x9.1,rfl,zL.1,ai.mem hw⟩
instance akP{c:Cp}[hc:aO w0 L c]:bJ Tryz.prog 43 w0 L [.agg (aE c)] (cB) (fun U=> .tuple #[.agg (cM U), .int .i64 ((df (cv c)).2)]) (fun U=>fz U::L) (fun U=>bU U=(df (cv c)).1) (True):=⟨fun hp w hw=>(aal w c (hc.h w hw)).mono fun e w' ⟨x,h1,h2,h3⟩=>⟨x,h1,h2,hw.call h3⟩⟩
theorem Ob(v:bG)(w:World):(Instr.build 65 #[(0, .agg (bH v))]).run Tryz.prog w= .ok (.agg (cM ⟨v,⟨Sv.none,[]⟩⟩)) w:=by
 obtain⟨⟨a1,a2,⟨a3,a4⟩,a5,a6,⟨a7,a8⟩⟩,⟨a9,ZU⟩,ZV,a12⟩:=v;unfold cM bH;obtain⟨e3,b3,o3,l3,c3,p3⟩:=a3;obtain⟨e7,b7,o7,l7,c7,p7⟩:=a7;obtain⟨e9,b9,o9,l9,c9,p9⟩:=a9
 cases e3<;>cases e7<;>cases e9<;>kernel_rfl
theorem Oc{w0 w:World}{L:List ah}{v:bG}(h:Mem w0 (fz v.aj::fz v.at_::L) w):Mem w0 (fz (⟨v,⟨Sv.none,[]⟩⟩:cB)::L) w:=
 CD (f:=⟨v,⟨Sv.none,[]⟩⟩) ((zD (a:=⟨Sv.none,[]⟩) (Mem.cR av 19 h)).perm ((List.Perm.swap _ _ _).trans (List.Perm.cons _ (List.Perm.swap _ _ _))))
theorem aam(w:World)(c:Cp)(hc:Deep.aU (hp w) c)(aP:du c):Calls Tryz.prog 38 #[.agg (aE c)] w fun e w'=> ∃U:cB,e= .returned (.tuple #[.agg (cM U), .int .i64 ((pI (cv c)).2)])/\(bU U=(pI (cv c)).1)/\Mem w [fz U] w':=by
 have jg:bQ w c:=⟨hc⟩;have ko:du c:=aP;refine bS Tryz.func38 rfl Tryz.ntmps38 rfl ?_;refine Gc ?_;refine bM rfl fun b1=>?_;refine bj fun b2=>?_;refine aS ?_;refine Gb (fun h0=>?_) fun h0=>?_
 ·
  have hE:pI (cv c)=(⟨⟨cv c,[],0,0⟩,[]⟩,1):=by rw[pI,if_pos h0]
  refine au ?_;refine bf rfl (by assumption) fun vQ aan=>?_;refine ag (cy (v:= .agg (bH (⟨vQ,⟨Sv.none,[]⟩,0,0⟩:bG))) rfl (Ad vQ)) ?_;refine ag (cy (v:= .agg (cM (⟨(⟨vQ,⟨Sv.none,[]⟩,0,0⟩:bG),⟨Sv.none,[]⟩⟩:cB))) rfl (Ob (⟨vQ,⟨Sv.none,[]⟩,0,0⟩:bG))) ?_;refine ak ?_;refine Gr fun w1 hw=>?_;exact⟨(⟨(⟨vQ,⟨Sv.none,[]⟩,0,0⟩:bG),⟨Sv.none,[]⟩⟩:cB),by rw[hE],by rw[hE];simp only[bU,vv,aan];rfl,Oc (v:=(⟨vQ,⟨Sv.none,[]⟩,0,0⟩:bG)) (ai.mem (Ae (ai.mem hw:Mem w [fz vQ] _)))⟩
 have hE:pI (cv c)=(⟨(kJ (cv c) (fS (cv c))).1,[]⟩,(kJ (cv c) (fS (cv c))).2):=by rw[pI,if_neg h0]
 refine Gc ?_;refine rn [3,7,8,2007,4003] [[],[],[],[],[3],[3],[3],[],[3,7],[3,7,8]] [0,1,2,3,4,5,6,7,8,9] [an b1 (aE c) 59] [(7,lW Tryz.prog 63)] oK (fun _ hw=>ai.mem hw) oK oK ?_;refine al rfl (iv rfl) ?_;refine al rfl (iv rfl) ?_;refine uZ rfl (bV rfl trivial) ?_;refine u4 rfl rfl (by assumption) (fun e x w hw=>ai.mem hw) (Cert.one (i:=7) rfl rfl rfl k6 (Cert.none rfl)) fun gl Hb=>⟨fun _ hw=>ai.mem hw,?_⟩;refine al rfl (aZ rfl) ?_;refine al rfl (aL (v:= .agg (bH (⟨gl.1,gl.2.1,gl.2.2.1,gl.2.2.2⟩:bG))) rfl rfl) ?_;refine al rfl (aL (v:= .int .i64 ((kJ (cv c) (fS (cv c))).2)) rfl rfl) ?_;refine qk (m:=lW Tryz.prog 63) rfl rfl k6 (Cert.none rfl) fun b4=>?_;change Ln _ _ _ _ _ _ _ _ (cd _ _ (.pointer (some ⟨b4,0,none⟩))) (an b4 (bH jV) 63::_) _;refine cY rfl (oc rfl rfl ⟨fun _ hw=>ai.mem hw,?_⟩);refine al rfl (fL rfl) ?_;refine au ?_;refine ag (cy (v:= .agg (cM (⟨(⟨gl.1,gl.2.1,gl.2.2.1,gl.2.2.2⟩:bG),⟨Sv.none,[]⟩⟩:cB))) rfl (Ob (⟨gl.1,gl.2.1,gl.2.2.1,gl.2.2.2⟩:bG))) ?_;refine aq ?_;refine Gr fun w1 hw=>?_;exact⟨(⟨(⟨gl.1,gl.2.1,gl.2.2.1,gl.2.2.2⟩:bG),⟨Sv.none,[]⟩⟩:cB),by rw[hE],by rw[hE];simp only[bU,vv,Hb],Oc (v:=(⟨gl.1,gl.2.1,gl.2.2.1,gl.2.2.2⟩:bG)) (ai.mem hw)⟩
instance akQ{c:Cp}[hc:aO w0 L c]:bJ Tryz.prog 38 w0 L [.agg (aE c)] (cB) (fun U=> .tuple #[.agg (cM U), .int .i64 ((pI (cv c)).2)]) (fun U=>fz U::L) (fun U=>bU U=(pI (cv c)).1) (du c):=⟨fun hp w hw=>(aam w c (hc.h w hw) hp).mono fun e w' ⟨x,h1,h2,h3⟩=>⟨x,h1,h2,hw.call h3⟩⟩
theorem aao{w0 w:World}{L:List ah}{f:cB}{a:Sl Rt}(h:Mem w0 (fz f::own av 19 a.sv a.xs::L) w):Mem w0 (fz (⟨f.aB,a⟩:cB)::L) w:=by
 have h2:=(zD (a:=a) (h.perm (List.Perm.swap _ _ _))).perm (List.Perm.swap _ _ _);refine Mem.freeze (es:=[fz f,fz a]) (⟨f.aB,a⟩:cB) ⟨(h2.sat (fz f) (by simp)).1,h2.sat (fz a) (by simp)⟩ (fun k hk=>?_) h2;rcases hk with hk|hk
 ·
  exact⟨fz f,by simp, .inl hk⟩
 exact⟨fz a,by simp,hk⟩
theorem aap(w:World)(f:cB)(hf:Deep.aU (hp w) f)(aP:du f.aB.aj/\f.aB.at_.xs.length<=1000000/\f.table.xs.length<=1000000):Calls Tryz.prog 100 #[.agg (cM f)] w fun e w'=> ∃U:cB,e= .returned (.agg (cM U))/\(bU U=bU f)/\Mem w [fz U] w':=by
 have Oa:bQ w f:=⟨hf⟩;obtain⟨fh,fQ,jC⟩:=aP;refine bS Tryz.func100 rfl Tryz.ntmps100 rfl ?_;refine Gc ?_;refine bM rfl fun b1=>?_;refine bj fun b2=>?_;refine ak ?_;refine ag (gD rfl) ?_;refine bf rfl fh fun x6 M8=>?_;refine au ?_;refine yA (cs':=cM ({f with aB:=({f.aB with aj:=x6}:bG)}:cB)) rfl rfl (by show 0+6<=10;decide) rfl ?_
 refine aq ?_;refine bf rfl fQ fun xW YL=>?_;refine au ?_;refine dw (cs':=cM ({f with aB:=({f.aB with aj:=x6,at_:=⟨xW,f.aB.at_.xs⟩}:bG)}:cB)) rfl rfl (by show 6<10;decide) (by first|rfl|exact Sv.one _) rfl ?_
 refine ak ?_;refine bf rfl jC fun gl Hb=>?_;refine Gs ?_;refine dw (cs':=cM (⟨({f.aB with aj:=x6,at_:=⟨xW,f.aB.at_.xs⟩}:bG),⟨gl,f.table.xs⟩⟩:cB)) rfl rfl (by show 9<10;decide) (by first|rfl|exact Sv.one _) rfl ?_
 refine aq ?_;refine Gr fun w1 hw=>?_;exact⟨(⟨({f.aB with aj:=x6,at_:=⟨xW,f.aB.at_.xs⟩}:bG),⟨gl,f.table.xs⟩⟩:cB),rfl,by simp only[bU,vv,M8],MZ (f:=(⟨({f.aB with aj:=x6,at_:=⟨xW,f.aB.at_.xs⟩}:bG),⟨gl,f.table.xs⟩⟩:cB)) (ai.mem hw)⟩
instance akR{f:cB}[hf:aO w0 L f]:bJ Tryz.prog 100 w0 L [.agg (cM f)] (cB) (fun U=> .agg (cM U)) (fun U=>fz U::L) (fun U=>bU U=bU f) (du f.aB.aj/\f.aB.at_.xs.length<=1000000/\f.table.xs.length<=1000000):=⟨fun hp w hw=>(aap w f (hf.h w hw) hp).mono fun e w' ⟨x,h1,h2,h3⟩=>⟨x,h1,h2,hw.call h3⟩⟩
end Go.Proofs.YtkggjjnhnjjokaaGreatDoor
namespace Go.Kb
open Go.aA
theorem Od{t:List Rt}{ids room:Int}(h:jd t ids room=0): ¬lv ids room=0/\fb t=true/\ ¬lv ids room<t.length/\jZ t ids room=nG t ids.toNat (room/20).toNat:=by
 unfold jd at h;split at h
 ·
  cases h
 rename_i hn;split at h
 ·
  cases h
 rename_i hm;have h1: ¬lv ids room=0:=fun e=>hn (.inr e);have h2:fb t=true:=by cases hr:fb t;exact absurd (.inl hr) hn;rfl
 exact⟨h1,h2,hm,(Mu h1 h2 hm).2⟩
theorem aaq{t:List Rt}{ids room:Int}(h: ¬jd t ids room=0):jZ t ids room=[]:=by rw[jZ,if_neg h]
theorem aar{t:List Rt}{ids room:Int}(h:jd t ids room=0):((jZ t ids room).length:Int)=ids/\1<=ids/\ids<=64:=by
 obtain⟨h1,_,_,hV⟩:=Od h;have:=F6 h1;rw[hV,tJ];omega
theorem aas{t:List Rt}{ids room:Int}:(jZ t ids room).length<=64/\ ∀x∈jZ t ids room,x.length<=240:=by
 by_cases h:jd t ids room=0
 ·
  have h2:=aar h;obtain⟨h1,_,_,hV⟩:=Od h;have hm:=F6 h1;refine⟨by omega,fun x hx=>?_⟩;rw[hV]at hx;obtain⟨j,_,rfl⟩:=List.mem_map.1 hx;have:=Ml t (room/20).toNat j;omega
 rw[aaq h];simp
end Go.Kb
namespace Go.Proofs.YtkggjjnhnjjokaaGreatDoor
open Go.aA Go.Kb Go.RowKit
theorem aat(w:World)(f:cB)(l:Sv)(ls:List Ch)(hf:Deep.aU (hp w) f)(hl:bI gJ 20 (hp w) l ls)(aP:du f.aB.aj/\f.aB.at_.xs.length<=1000000/\f.table.xs.length<=1000000):Calls Tryz.prog 39 #[.agg (cM f),l.val] w fun e w'=> ∃U:cB,e= .returned (.tuple #[.agg (cM U), .int .i64 ((jA (bU f) ls).2)])/\(bU U=(jA (bU f) ls).1)/\Mem w [fz U] w':=by
 have Oa:bQ w f:=⟨hf⟩;have jh:Gv w l gJ 20 ls:=⟨hl⟩;have vV:=aP;obtain⟨fh,fQ,jC⟩:=aP;refine cl Tryz.func39 rfl Tryz.ntmps39 rfl ?_;refine Gc ?_;refine bM rfl fun b2=>?_;refine bj fun b4=>?_;refine ak ?_;refine bf rfl trivial fun Ak Dc=>?_;refine Gs ?_;refine ag (aL (v:=Ak.sv.val) rfl rfl) ?_;refine ag (aL (v:= .bool (jz (bU f))) rfl rfl) ?_;refine aS ?_;refine Gb (fun h0=>?_) fun h0=>?_
 ·
  have hE:(jA (bU f) ls)=(bU f,1):=VH h0;refine au ?_;refine bf rfl vV fun fC zX=>?_;refine ak ?_;refine Gr fun w1 hw=>?_;exact⟨fC,by rw[hE],by rw[hE];exact zX,ai.mem hw⟩
 have mG:lx Ak=lB (bU f):=Dc h0;refine aq ?_;refine bf rfl jC fun gA nQ=>?_;refine Gs ?_;refine ag (aL (v:=gA.val) rfl rfl) ?_;refine ag (aL (v:= .int .i64 (j6 f.table.xs ls)) rfl rfl) ?_;refine aS ?_;refine Gb (fun h1=>?_) fun h1=>?_
 ·
  have hE:(jA (bU f) ls)=(bU f,j6 f.table.xs ls):=VI h0 h1;refine au ?_;refine bf rfl vV fun aw ub=>?_;refine aq ?_;refine Gr fun w1 hw=>?_;exact⟨aw,by rw[hE],by rw[hE];exact ub,ai.mem hw⟩
 refine Gc ?_;refine gF [10] [[],[],[],[],[],[],[],[],[],[],[],[10],[10],[10],[10],[10]] [0,1,2,3,4,5,6,7,8,9,10,11,12,13,14,15] _ (fun _ hw=>hw) oK oK ?_;refine al rfl (aZ rfl) ?_;refine al rfl (aN (o':=0) rfl rfl) ?_;refine al rfl (aN (o':=0) rfl rfl) ?_;refine al rfl (gD rfl) ?_;refine uZ rfl (bV rfl trivial) ?_;refine al rfl (aN (o':=0) rfl rfl) ?_;refine al rfl (aN (o':=0) rfl rfl) ?_;refine al rfl (aN (o':=1) rfl rfl) ?_;refine al rfl (bN rfl) ?_;refine uZ rfl (bV rfl trivial) ?_;refine cY rfl (mM rfl trivial fun pQ N7=>⟨fun _ hw=>ai.mem hw,?_⟩);refine al rfl (aZ rfl) ?_;refine al rfl (aL (v:=pQ.sv.val) rfl rfl) ?_;refine al rfl (aL (v:= .int .i64 (jd (eG f.table.xs ls) (fS (cv f.aB.aj)) (eL f.aB.aj.size))) rfl rfl) ?_;refine al rfl (fL rfl) ?_;refine al rfl (fL rfl) ?_;refine aq ?_;refine Gb (fun h2=>?_) fun h2=>?_
 ·
  have hE:(jA (bU f) ls)=(bU f,(jd (eG f.table.xs ls) (fS (cv f.aB.aj)) (eL f.aB.aj.size))):=VJ h0 h1 h2;refine au ?_;refine bf rfl vV fun x51 aau=>?_;refine aq ?_;refine Gr fun w1 hw=>?_;exact⟨x51,by rw[hE],by rw[hE];exact aau,ai.mem hw⟩
 have qz:lx pQ=kM (bU f) ls:=N7;have zH:(lB (bU f)).length<=64:=VG _;have Hq:Ak.xs.length<=1000000:=by rw[←mG,uM]at zH;omega
 have C6:(kM (bU f) ls).length<=64/\ ∀x∈kM (bU f) ls,x.length<=240:=aas;have aav:pQ.xs.length<=1000000:=by have:=C6.1;rw[←qz,uM]at this;omega
 have aaw: ∀x∈pQ.xs,x.xs.length<=140737488355328:=fun x hx=>by
  have hm:x.xs∈lx pQ:=List.mem_map_of_mem (f:=fun x:Sl UInt8=>x.xs) hx;rw[qz]at hm;have:=C6.2 _ hm;omega
 refine ak ?_;refine bf rfl ⟨Hq,aav,aaw⟩ fun oH Oe=>?_;refine aS ?_;refine Gb (fun h3=>?_) fun h3=>?_
 ·
  have Al:jx (lB (bU f)) (kM (bU f) ls)=[]:=by rw[←mG,←qz,←Oe,uS,List.length_eq_zero_iff.1 (by omega:oH.xs.length=0)];rfl
  have hE:(jA (bU f) ls)=(⟨(bU f).aB,(eG f.table.xs ls)⟩,0):=VK h0 h1 h2 Al;refine au ?_;refine bf rfl vV fun Dd aax=>?_;refine aq ?_;refine dw (cs':=cM (⟨Dd.aB,⟨gA,(eG f.table.xs ls)⟩⟩:cB)) rfl rfl (by show 9<10;decide) (by first|rfl|exact Sv.one _) rfl ?_;refine aK ?_;refine Gr fun w1 hw=>?_;exact⟨(⟨Dd.aB,⟨gA,(eG f.table.xs ls)⟩⟩:cB),by rw[hE],by rw[hE,←aax];rfl,aao (f:=Dd) (ai.mem hw:Mem w [fz Dd,own av 19 gA (eG f.table.xs ls)] _)⟩
 have Al:jx (lB (bU f)) (kM (bU f) ls)=oH.xs.map bh:=by rw[←mG,←qz,←Oe];rfl
 have h3n: ¬jx (lB (bU f)) (kM (bU f) ls)=[]:=by rw[Al];intro h;have:=congrArg List.length h;rw[List.length_map,List.length_nil]at this;omega
 have aay:oH.xs.length<=1000000:=by have:=congrArg List.length Al;have hq:=F9 (lB (bU f)) (kM (bU f) ls) (max (lB (bU f)).length (kM (bU f) ls).length);rw[List.length_map]at this;have h7:=C6.1;rw[jx]at this;omega
 have sr:=VL h0 h1 h2 h3n;rw[Al]at sr;refine au ?_;refine ag (gD rfl) ?_;refine Gs ?_;refine bf rfl ⟨fh,fQ,aay⟩ fun dF G3=>?_;refine Gs ?_;refine ag (aL (v:= .agg (bH (⟨dF.1,dF.2.1,dF.2.2.1,dF.2.2.2⟩:bG))) rfl rfl) ?_;refine ag (aL (v:= .int .i64 ((fR (vv f.aB) (oH.xs.map bh)).2)) rfl rfl) ?_;refine bj fun se=>?_;refine aS ?_;refine Gb (fun h4=>?_) fun h4=>?_
 ·
  have hE:(jA (bU f) ls)=(⟨(fR (vv f.aB) (oH.xs.map bh)).1,f.table.xs⟩,(fR (vv f.aB) (oH.xs.map bh)).2):=sr.trans (congrArg (fun z=>((⟨(fR (vv f.aB) (oH.xs.map bh)).1,z⟩:FV),(fR (vv f.aB) (oH.xs.map bh)).2)) (if_pos h4));refine Gi ?_;refine au ?_;refine bf rfl jC fun xZ akS=>?_;refine aq ?_;refine ag (cy (v:= .agg (cM (⟨(⟨dF.1,dF.2.1,dF.2.2.1,dF.2.2.2⟩:bG),⟨xZ,f.table.xs⟩⟩:cB))) rfl (Hv (⟨dF.1,dF.2.1,dF.2.2.1,dF.2.2.2⟩:bG) ⟨xZ,f.table.xs⟩)) ?_;refine aq ?_;refine Gr fun w1 hw=>?_;exact⟨(⟨(⟨dF.1,dF.2.1,dF.2.2.1,dF.2.2.2⟩:bG),⟨xZ,f.table.xs⟩⟩:cB),by rw[hE],by rw[hE];simp only[bU,vv,G3],CD (f:=(⟨(⟨dF.1,dF.2.1,dF.2.2.1,dF.2.2.2⟩:bG),⟨xZ,f.table.xs⟩⟩:cB)) (ai.mem (zD (a:=(⟨xZ,f.table.xs⟩:Sl Rt)) (ai.mem hw:Mem w [own av 19 xZ f.table.xs,fz dF.1,fz dF.2.1] _)))⟩
 have hE:(jA (bU f) ls)=(⟨(fR (vv f.aB) (oH.xs.map bh)).1,(eG f.table.xs ls)⟩,(fR (vv f.aB) (oH.xs.map bh)).2):=sr.trans (congrArg (fun z=>((⟨(fR (vv f.aB) (oH.xs.map bh)).1,z⟩:FV),(fR (vv f.aB) (oH.xs.map bh)).2)) (if_neg (fun h=>h h4)));refine ak ?_;refine ag (cy (v:= .agg (cM (⟨(⟨dF.1,dF.2.1,dF.2.2.1,dF.2.2.2⟩:bG),⟨gA,(eG f.table.xs ls)⟩⟩:cB))) rfl (Hv (⟨dF.1,dF.2.1,dF.2.2.1,dF.2.2.2⟩:bG) ⟨gA,(eG f.table.xs ls)⟩)) ?_;refine aq ?_;refine Gr fun w1 hw=>?_;exact⟨(⟨(⟨dF.1,dF.2.1,dF.2.2.1,dF.2.2.2⟩:bG),⟨gA,(eG f.table.xs ls)⟩⟩:cB),by rw[hE],by rw[hE];simp only[bU,vv,G3],CD (f:=(⟨(⟨dF.1,dF.2.1,dF.2.2.1,dF.2.2.2⟩:bG),⟨gA,(eG f.table.xs ls)⟩⟩:cB)) (ai.mem (zD (a:=(⟨gA,(eG f.table.xs ls)⟩:Sl Rt)) (ai.mem hw:Mem w [own av 19 gA (eG f.table.xs ls),fz dF.1,fz dF.2.1] _)))⟩
variable {w0:World}{L:List ah}
instance akT{f:cB}{l:Sv}{ls:List Ch}[hf:aO w0 L f][hl:cz w0 L gJ 20 l ls]:bJ Tryz.prog 39 w0 L [.agg (cM f),l.val] (cB) (fun U=> .tuple #[.agg (cM U), .int .i64 ((jA (bU f) ls).2)]) (fun U=>fz U::L) (fun U=>bU U=(jA (bU f) ls).1) (du f.aB.aj/\f.aB.at_.xs.length<=1000000/\f.table.xs.length<=1000000):=⟨fun hp w hw=>(aat w f l ls (hf.h w hw) (hl.h w hw) hp).mono fun e w' ⟨x,h1,h2,h3⟩=>⟨x,h1,h2,hw.call h3⟩⟩
theorem aaz(n s:Int)(b:Sv)(xs:List Bk)(w:World):(Instr.build 59 #[(0, .int .i64 n),(1, .int .i64 s),(2,b.val)]).run Tryz.prog w= .ok (.agg (aE ⟨n,s,⟨b,xs⟩,0,false,⟨Sv.none,[]⟩⟩)) w:=by
 unfold aE;obtain⟨e,b,o,l,c,p⟩:=b
 cases e<;>kernel_rfl
theorem aaA(w:World)(b:Int)(n:Int)(s:Int):Calls Tryz.prog 37 #[.int .i64 b, .int .i64 n, .int .i64 s] w fun e w'=> ∃U:Cp,e= .returned (.tuple #[.agg (aE U), .int .i64 ((po b n s).2)])/\(cv U=(po b n s).1)/\Mem w [fz U] w':=by
 refine pf Tryz.func37 rfl Tryz.ntmps37 rfl ?_;refine Gc ?_;refine bj fun b6=>?_;refine dr ?_;refine Gb (fun h0=>?_) fun h0=>?_
 ·
  have hN:po b n s=(⟨0,0,[],0,false,[]⟩,1):=by rw[po,if_neg (by rw[h0];simp)]
  refine Gc ?_;refine ag (cy (v:= .agg (aE fe)) rfl (fun w=>by kernel_rfl)) ?_;refine ak ?_;refine Gr fun w1 hw=>?_;exact⟨fe,by rw[hN],by rw[hN];rfl,K0 (d:=fe) rfl (show Mem w [own bK 4 Sv.none [],ah.all []] _ from ai.mem (Mem.rr (Mem.cR bK 4 (ai.mem hw:Mem w [] _))))⟩
 have gk:=jT.1 h0;have hN:po b n s=(⟨n,s,List.replicate b.toNat (⟨List.replicate n.toNat (fZ s),0,0,false⟩:BV),0,false,[]⟩,0):=by rw[po,if_pos h0]
 refine aq ?_;refine qb (enc:=bK) (n:=b.toNat) (cap:=b.toNat) nt rfl rfl rfl oM oM oM oM oM fun gm=>?_;refine ag (cy (v:= .agg (aE (⟨n,s,⟨⟨false,gm,0,b.toNat,b.toNat,none⟩,[]⟩,0,false,⟨Sv.none,[]⟩⟩:Cp))) rfl (aaz n s ⟨false,gm,0,b.toNat,b.toNat,none⟩ [])) ?_;refine bj fun b8=>?_;refine aK ?_;refine bA (X:=Nat×List Bk) (fun U=>[(23, .int .i64 (U.1:Nat)),(8, .pointer (some ⟨b8,0,none⟩)),(1, .int .i64 n),(2, .int .i64 s),(6, .pointer (some ⟨b6,0,none⟩)),(22, .int .i64 b)]) (fun U=>[own bK 4 ⟨false,gm,0,b.toNat,b.toNat,none⟩ U.2,ah.all ((U.2.take U.1).map fun b:Bk=>fz b.ae),an b8 (aE (⟨n,s,⟨⟨false,gm,0,b.toNat,b.toNat,none⟩,[]⟩,0,false,⟨Sv.none,[]⟩⟩:Cp)) 59,an b6 (aE fe) 59]) (fun U=>U.1<=b.toNat/\U.2.length=b.toNat/\(U.2.take U.1).map bv=List.replicate U.1 (⟨List.replicate n.toNat (fZ s),0,0,false⟩:BV)/\ ∀j,U.1<=j->j<b.toNat->U.2[j]? =Option.some nt) (fun U=>b.toNat -U.1) (0,List.replicate b.toNat nt) ⟨Nat.zero_le _,by simp,by simp,fun j _ hj=>by simp[hj]⟩ sb (fun w hw=>by
  simp only[List.take_zero,List.map_nil];exact ai.mem (Mem.rr hw)) ?_
 rintro⟨i,zs⟩ ⟨aT,az,ba,ck⟩;dsimp only;simp only at aT az ba ck;refine ak ?_;refine Gb (fun h1=>?_) fun h1=>?_
 ·
  obtain⟨z,hz⟩:=get_some (xs:=zs) (i:=i) oM;obtain rfl:z=nt:=Option.some.inj (hz.symm.trans (ck i (Nat.le_refl _) oM));have aaB:=B8 (b:=gm) (n:=b.toNat) oM;refine aq ?_;refine gF [4,7] [[],[],[],[],[],[4],[4],[4]] [0,1,2,3,4,5,6,7] [an b8 (aE (⟨n,s,⟨⟨false,gm,0,b.toNat,b.toNat,none⟩,[]⟩,0,false,⟨Sv.none,[]⟩⟩:Cp)) 59] (fun _ hw=>ai.mem hw) oK oK ?_;refine al rfl (aN (o':=2) rfl rfl) ?_;refine al rfl (bN rfl) ?_;refine al rfl (aZ rfl) ?_;refine al rfl (aZ rfl) ?_;refine cY rfl (JN (enc:=bP (τ:=UInt8)) (n:=n.toNat) (cap:=n.toNat) (⟨Sv.none,[]⟩:Sl UInt8) rfl rfl rfl oM oM oM oM oM fun eN=>⟨fun _ hw=>ai.mem hw,?_⟩);obtain⟨e31,akU⟩:=get_some (xs:=zs) (i:=i) oM;refine al rfl (kT (s:=⟨false,gm,0,b.toNat,b.toNat,none⟩) (i:=i) rfl rfl rfl aaB (by simp only;omega)) ?_;refine al rfl (aN rfl rfl) ?_;refine cY rfl (th (s:=⟨false,gm,0,b.toNat,b.toNat,none⟩) (n:=1) (k:=i) (j:=0) (a:=nt) (a':=⟨⟨⟨false,eN,0,n.toNat,n.toNat,none⟩,[]⟩,0,0,false⟩) (xs:=zs) (enc:=bK) (c:=4) (v:=(⟨false,eN,0,n.toNat,n.toNat,none⟩:Sv).val) oK rfl rfl rfl hz (by rw[Sv.fY];simp[Sv.one]) (by rw[Sv.fY];rfl) (by decide) (by rw[Sv.fY];rfl) ⟨fun _ hw=>ai.mem hw,?_⟩);refine iW ?_;have Hy:(zs.set i ⟨⟨⟨false,eN,0,n.toNat,n.toNat,none⟩,[]⟩,0,0,false⟩)[i]? =Option.some (⟨⟨⟨false,eN,0,n.toNat,n.toNat,none⟩,[]⟩,0,0,false⟩:Bk):=List.getElem?_set_self oM;have qI:(zs.set i ⟨⟨⟨false,eN,0,n.toNat,n.toNat,none⟩,[]⟩,0,0,false⟩).length=b.toNat:=by rw[List.length_set];exact az
  refine Gi ?_;refine ak ?_;refine bA (X:=Nat×List (Sl UInt8)) (fun U=>[(34, .int .i64 (U.1:Nat)),(8, .pointer (some ⟨b8,0,none⟩)),(1, .int .i64 n),(2, .int .i64 s),(6, .pointer (some ⟨b6,0,none⟩)),(9, .int .i64 (i:Nat)),(22, .int .i64 b),(23, .int .i64 (i:Nat)),(33, .int .i64 n)]) (fun U=>[own (bP (τ:=UInt8)) 1 ⟨false,eN,0,n.toNat,n.toNat,none⟩ U.2,ah.all ((U.2.take U.1).map fun b:Sl UInt8=>fz b),own bK 4 ⟨false,gm,0,b.toNat,b.toNat,none⟩ (zs.set i ⟨⟨⟨false,eN,0,n.toNat,n.toNat,none⟩,[]⟩,0,0,false⟩),ah.all ((zs.take i).map fun b:Bk=>fz b.ae),an b8 (aE (⟨n,s,⟨⟨false,gm,0,b.toNat,b.toNat,none⟩,[]⟩,0,false,⟨Sv.none,[]⟩⟩:Cp)) 59,an b6 (aE fe) 59]) (fun U=>U.1<=n.toNat/\U.2.length=n.toNat/\aG (U.2.take U.1)=List.replicate U.1 (fZ s)) (fun U=>n.toNat -U.1) (0,List.replicate n.toNat ⟨Sv.none,[]⟩) ⟨Nat.zero_le _,by simp,by simp[aG]⟩ sb (fun w hw=>by
   simp only[List.take_zero,List.map_nil];exact ai.mem (Mem.rr hw)) ?_
  rintro⟨j,qs⟩ ⟨lC,dz,gL⟩;dsimp only;simp only at lC dz gL;refine ak ?_;refine Gb (fun h2=>?_) fun h2=>?_
  ·
   obtain⟨y,hy⟩:=get_some (xs:=qs) (i:=j) oM;have aaC:=B8 (b:=eN) (n:=n.toNat) oM;refine aq ?_;refine gF [8,10] [[],[],[],[],[],[],[],[],[],[8],[8]] [0,1,2,3,4,5,6,7,8,9,10] [an b8 (aE (⟨n,s,⟨⟨false,gm,0,b.toNat,b.toNat,none⟩,[]⟩,0,false,⟨Sv.none,[]⟩⟩:Cp)) 59,own bK 4 ⟨false,gm,0,b.toNat,b.toNat,none⟩ (zs.set i ⟨⟨⟨false,eN,0,n.toNat,n.toNat,none⟩,[]⟩,0,0,false⟩)] (fun _ hw=>ai.mem hw) oK oK ?_;refine al rfl (aN (o':=2) rfl rfl) ?_;refine al rfl (bN rfl) ?_;refine al rfl (aZ rfl) ?_;obtain⟨e40,aaf⟩:=get_some (xs:=(zs.set i ⟨⟨⟨false,eN,0,n.toNat,n.toNat,none⟩,[]⟩,0,0,false⟩)) (i:=i) oM;refine al rfl (aR (s:=⟨false,gm,0,b.toNat,b.toNat,none⟩) (xs:=(zs.set i ⟨⟨⟨false,eN,0,n.toNat,n.toNat,none⟩,[]⟩,0,0,false⟩)) rfl rfl i rfl oM) ?_;refine al rfl (aN rfl rfl) ?_;refine al rfl (Ry.to (v':=(⟨false,eN,0,n.toNat,n.toNat,none⟩:Sv).val) (bw (s:=⟨false,gm,0,b.toNat,b.toNat,none⟩) (j:=0) rfl i Hy rfl (by decide)) rfl) ?_;refine al rfl (aZ rfl) ?_;refine al rfl (aZ rfl) ?_;refine cY rfl (JN (enc:=aJ) (n:=s.toNat) (cap:=s.toNat) 0 rfl rfl rfl oM oM oM oM oM fun oI=>⟨fun _ hw=>ai.mem hw,?_⟩);obtain⟨e46,akV⟩:=get_some (xs:=qs) (i:=j) oM;refine al rfl (kT (s:=⟨false,eN,0,n.toNat,n.toNat,none⟩) (i:=j) rfl rfl rfl aaC (by simp only;omega)) ?_;refine cY rfl (Rn (s:=⟨false,eN,0,n.toNat,n.toNat,none⟩) (xs:=qs) (k:=j) (a:=y) (⟨⟨false,oI,0,s.toNat,s.toNat,none⟩,fZ s⟩:Sl UInt8) oK rfl rfl oM hy ⟨fun _ hw=>ai.mem hw,?_⟩);refine aq ?_;obtain⟨e50,akW⟩:=get_some (xs:=(zs.set i ⟨⟨⟨false,eN,0,n.toNat,n.toNat,none⟩,[]⟩,0,0,false⟩)) (i:=i) oM;refine ag (aR (s:=⟨false,gm,0,b.toNat,b.toNat,none⟩) (xs:=(zs.set i ⟨⟨⟨false,eN,0,n.toNat,n.toNat,none⟩,[]⟩,0,0,false⟩)) rfl rfl i rfl oM) ?_;refine ag (aN rfl rfl) ?_;refine ag (Ry.to (v':=(⟨false,eN,0,n.toNat,n.toNat,none⟩:Sv).val) (bw (s:=⟨false,gm,0,b.toNat,b.toNat,none⟩) (j:=0) rfl i Hy rfl (by decide)) rfl) ?_;refine Gs ?_;refine ag (aR rfl rfl j rfl (by rw[List.length_set];omega)) ?_;refine ag (Ry.to (v':= .slice (some ⟨(⟨false,oI,0,s.toNat,s.toNat,none⟩:Sv).b,(⟨false,oI,0,s.toNat,s.toNat,none⟩:Sv).o+0,none⟩) s.toNat s.toNat) (bw (s:=⟨false,eN,0,n.toNat,n.toNat,none⟩) (xs:=qs.set j (⟨⟨false,oI,0,s.toNat,s.toNat,none⟩,fZ s⟩:Sl UInt8)) (j:=0) rfl j (List.getElem?_set_self oM) rfl (by decide)) rfl) ?_;refine bf (hc:=V3 (rm:=⟨false,oI,0,s.toNat,s.toNat,none⟩) (k:=0) (n:=s.toNat) (cap:=s.toNat) (xs:=List.replicate s.toNat 0)) rfl ⟨by simp,by omega⟩ fun C3 Hc=>?_;refine ak ?_;refine Gi ?_;exact aV (x:=(j,qs)) (j+1,qs.set j (⟨⟨false,oI,0,s.toNat,s.toNat,none⟩,fZ s⟩:Sl UInt8)) ⟨oF,by rw[List.length_set];exact dz,by rw[aG,B7 hy,←aG,gL,List.replicate_succ']⟩ (by simp only;omega) sb (fun w hw=>by
    have h1:=Fe (a:=(⟨⟨false,oI,0,s.toNat,s.toNat,none⟩,fZ s⟩:Sl UInt8)) (by
     simp only[List.take_zero,List.nil_append,Nat.zero_add,List.drop_replicate,Nat.sub_self,List.replicate_zero,List.append_nil]at hw;exact(ai.mem hw:Mem _ (own aJ 1 ⟨false,oI,0,s.toNat,s.toNat,none⟩ (List.replicate s.toNat 255)::[own (bP (τ:=UInt8)) 1 ⟨false,eN,0,n.toNat,n.toNat,none⟩ (qs.set j (⟨⟨false,oI,0,s.toNat,s.toNat,none⟩,fZ s⟩:Sl UInt8)),ah.all ((qs.take j).map fun b:Sl UInt8=>fz b),own bK 4 ⟨false,gm,0,b.toNat,b.toNat,none⟩ (zs.set i ⟨⟨⟨false,eN,0,n.toNat,n.toNat,none⟩,[]⟩,0,0,false⟩),ah.all ((zs.take i).map fun b:Bk=>fz b.ae),an b8 (aE (⟨n,s,⟨⟨false,gm,0,b.toNat,b.toNat,none⟩,[]⟩,0,false,⟨Sv.none,[]⟩⟩:Cp)) 59,an b6 (aE fe) 59]) _))
    have h3:=Mem.w4 (ai.mem h1:Mem _ (fz (⟨⟨false,oI,0,s.toNat,s.toNat,none⟩,fZ s⟩:Sl UInt8)::ah.all ((qs.take j).map fun b:Sl UInt8=>fz b)::[own (bP (τ:=UInt8)) 1 ⟨false,eN,0,n.toNat,n.toNat,none⟩ (qs.set j (⟨⟨false,oI,0,s.toNat,s.toNat,none⟩,fZ s⟩:Sl UInt8)),own bK 4 ⟨false,gm,0,b.toNat,b.toNat,none⟩ (zs.set i ⟨⟨⟨false,eN,0,n.toNat,n.toNat,none⟩,[]⟩,0,0,false⟩),ah.all ((zs.take i).map fun b:Bk=>fz b.ae),an b8 (aE (⟨n,s,⟨⟨false,gm,0,b.toNat,b.toNat,none⟩,[]⟩,0,false,⟨Sv.none,[]⟩⟩:Cp)) 59,an b6 (aE fe) 59]) _);rw[Fq (z':=(⟨⟨false,oI,0,s.toNat,s.toNat,none⟩,fZ s⟩:Sl UInt8)) hy]at h3;exact ai.mem h3)
  have sL:j=n.toNat:=by omega
  have hO:j=qs.length:=by omega
  rw[List.take_of_length_le oM]at gL;refine ak ?_;refine Gi ?_;exact aV (x:=(i,zs)) (i+1,zs.set i (⟨⟨⟨false,eN,0,n.toNat,n.toNat,none⟩,qs⟩,0,0,false⟩:Bk)) ⟨oF,by rw[List.length_set];exact az,by rw[B7 hz,ba,List.replicate_succ',show bv (⟨⟨⟨false,eN,0,n.toNat,n.toNat,none⟩,qs⟩,0,0,false⟩:Bk)=(⟨List.replicate n.toNat (fZ s),0,0,false⟩:BV) by rw[bv,gL,sL]],fun k hk sX=>by rw[List.getElem?_set_ne oF];exact ck k oF sX⟩ (by simp only;omega) sb (fun w hw=>by
   rw[List.take_of_length_le oM]at hw;have h1:=Fp (ai.mem hw:Mem _ (own (bP (τ:=UInt8)) 1 ⟨false,eN,0,n.toNat,n.toNat,none⟩ qs::ah.all (qs.map fun b:Sl UInt8=>fz b)::[own bK 4 ⟨false,gm,0,b.toNat,b.toNat,none⟩ (zs.set i ⟨⟨⟨false,eN,0,n.toNat,n.toNat,none⟩,[]⟩,0,0,false⟩),ah.all ((zs.take i).map fun b:Bk=>fz b.ae),an b8 (aE (⟨n,s,⟨⟨false,gm,0,b.toNat,b.toNat,none⟩,[]⟩,0,false,⟨Sv.none,[]⟩⟩:Cp)) 59,an b6 (aE fe) 59]) _);have h2:=Fh (ys:=zs.set i (⟨⟨⟨false,eN,0,n.toNat,n.toNat,none⟩,qs⟩,0,0,false⟩:Bk)) (by rw[List.map_set,List.map_set];rfl) (ai.mem h1:Mem _ (own bK 4 ⟨false,gm,0,b.toNat,b.toNat,none⟩ (zs.set i ⟨⟨⟨false,eN,0,n.toNat,n.toNat,none⟩,[]⟩,0,0,false⟩)::[fz (⟨⟨false,eN,0,n.toNat,n.toNat,none⟩,qs⟩:Sl (Sl UInt8)),ah.all ((zs.take i).map fun b:Bk=>fz b.ae),an b8 (aE (⟨n,s,⟨⟨false,gm,0,b.toNat,b.toNat,none⟩,[]⟩,0,false,⟨Sv.none,[]⟩⟩:Cp)) 59,an b6 (aE fe) 59]) _);have h3:=Mem.w4 (ai.mem h2:Mem _ (fz (⟨⟨false,eN,0,n.toNat,n.toNat,none⟩,qs⟩:Sl (Sl UInt8))::ah.all ((zs.take i).map fun b:Bk=>fz b.ae)::[own bK 4 ⟨false,gm,0,b.toNat,b.toNat,none⟩ (zs.set i (⟨⟨⟨false,eN,0,n.toNat,n.toNat,none⟩,qs⟩,0,0,false⟩:Bk)),an b8 (aE (⟨n,s,⟨⟨false,gm,0,b.toNat,b.toNat,none⟩,[]⟩,0,false,⟨Sv.none,[]⟩⟩:Cp)) 59,an b6 (aE fe) 59]) _);rw[K1 (z':=(⟨⟨⟨false,eN,0,n.toNat,n.toNat,none⟩,qs⟩,0,0,false⟩:Bk)) hz]at h3;exact ai.mem h3)
 obtain rfl:i=zs.length:=by omega
 rw[List.take_length]at ba;refine aK ?_;refine Gr fun w1 hw=>?_;exact⟨⟨n,s,⟨⟨false,gm,0,b.toNat,b.toNat,none⟩,zs⟩,0,false,⟨Sv.none,[]⟩⟩,by rw[hN];rfl,by rw[hN];simp only[cv,gx];rw[ba,az],K0 rfl (by rw[List.take_length]at hw;exact ai.mem hw)⟩
instance akX{b:Int}{n:Int}{s:Int}:bJ Tryz.prog 37 w0 L [.int .i64 b, .int .i64 n, .int .i64 s] (Cp) (fun U=> .tuple #[.agg (aE U), .int .i64 ((po b n s).2)]) (fun U=>fz U::L) (fun U=>cv U=(po b n s).1) (True):=⟨fun hp w hw=>(aaA w b n s).mono fun e w' ⟨x,h1,h2,h3⟩=>⟨x,h1,h2,hw.call h3⟩⟩
theorem akY(w:World)(c:UInt8):Calls Tryz.prog 211 #[.int .u8 (c.toNat:Nat)] w fun e w'=>e= .returned (.int .i64 (pa c))/\Mem w [] w':=by
 refine bS Tryz.func211 rfl Tryz.ntmps211 rfl ?_;refine pe ?_;refine Gb (fun h0=>?_) fun h0=>?_
 ·
  refine au ?_;refine ag (A9 (p:=c.toNat) (q:=48) rfl rfl rfl rfl oM) ?_;refine ag (kc rfl (by simp only[nb];omega)) ?_;refine au ?_;refine Gr fun w1 hw=>?_;exact Gf ((by simp only[pa,jn];rw[if_pos oM])) hw
 refine dr ?_;refine Gb (fun h1=>?_) fun h1=>?_
 ·
  refine au ?_;refine ag (A9 (p:=c.toNat) (q:=97) rfl rfl rfl rfl oM) ?_;refine ag (kc rfl (by simp only[nb];omega)) ?_;refine ak ?_;refine Gr fun w1 hw=>?_;exact Gf ((by simp only[pa,jn];rw[if_neg oM,if_pos oM];simp only[];omega)) hw
 refine ak ?_;refine Gr fun w1 hw=>?_;exact Gf ((by simp only[pa,jn];rw[if_neg oM,if_neg oM])) hw
theorem akZ(w:World)(s:List UInt8)(top:Nat)(aP:top<=65535):Calls Tryz.prog 210 #[.string ⟨s.toArray⟩, .int .i64 (top:Nat)] w fun e w'=>e= .returned (.int .i64 (yQ s top))/\Mem w [] w':=by
 refine cl Tryz.func210 rfl Tryz.ntmps210 rfl ?_;refine aq ?_;refine ag (oW (s:=s) Tryz.underlying9 rfl) ?_;refine ak ?_;refine bp rfl rfl rfl (fun hg=>(Ry.yl (oW (s:=s) Tryz.underlying9 (ay hg rfl)))) ?_;refine aq ?_;refine bp rfl rfl rfl (fun hg=>(Ry.yl (oW (s:=s) Tryz.underlying9 (ay hg rfl)))) ?_;refine Gg ?_;refine bp rfl rfl rfl (fun hg=>(Ry.yl (aZ (ay hg rfl)))) ?_;refine kd rfl rfl rfl (fun hg=>(Ry.yl (aZ rfl))) ?_;refine kd rfl rfl rfl (fun hg=>(Ry.yl (ra (s:=s) 0 Tryz.underlying9 (ay hg rfl) rfl rfl (by simp only[Z0,Z1,Z2,Z3,Z4,Z5,Z6,Z7,Z8,Z9]at hg;omega)))) ?_;refine kd rfl rfl rfl (fun hg=>(Ry.yl (c2 (ay hg rfl) rfl rfl))) ?_;refine bp rfl rfl rfl (fun hg=>(Ry.yl (ux (ay hg rfl) (q6 hg rfl) rfl))) ?_;refine au ?_;refine Gb (fun h0=>?_) fun h0=>?_
 ·
  refine ak ?_;refine Gr fun w1 hw=>?_;exact Gf ((by rw[yQ,QN aP oM])) hw
 have hx:s.length<=5/\0<s.length:=by omega
 refine aK ?_;refine bA (X:=Nat) (fun U=>[(6, .int .i64 (U:Nat)),(5, .int .i64 ((val (s.take U)):Nat)),(0, .string ⟨s.toArray⟩),(1, .int .i64 (top:Nat))]) (fun U=>[]) (fun U=>U<=s.length/\(s.take U).all jP=true) (fun U=>s.length -U) 0 ⟨Nat.zero_le _,rfl⟩ (Sub.cons rfl (Sub.cons (look_eq rfl rfl) sb)) (fun w hw=>ai.mem hw) ?_;rintro i ⟨hi,hd⟩;have hv:=QL (s:=s) (i:=i) oM hi hd;refine ak ?_;refine ag (oW (s:=s) Tryz.underlying9 rfl) ?_;refine au ?_;refine Gb (fun h1=>?_) fun h1=>?_
 ·
  refine ak ?_;refine ag (ra (s:=s) i Tryz.underlying9 rfl rfl rfl oM) ?_;refine aq ?_;refine bp rfl rfl rfl (fun hg=>(Ry.yl (ra (s:=s) i Tryz.underlying9 (ay hg rfl) (ay hg rfl) rfl (by simp only[Z0,Z1,Z2,Z3,Z4,Z5,Z6,Z7,Z8,Z9]at hg;omega)))) ?_;refine ak ?_;refine Gb (fun h2=>?_) fun h2=>?_
  ·
   refine ak ?_;refine Gr fun w1 hw=>?_;exact Gf ((by rw[yQ,Jt (i:=i) oM oM])) hw
  refine au ?_;refine ag (oP rfl rfl oM) ?_;refine au ?_;refine ag (ra (s:=s) i Tryz.underlying9 rfl rfl rfl oM) ?_;refine ag (A9 (p:=(s.getD i 0).toNat) (q:=48) rfl rfl rfl rfl oM) ?_;refine ag (kc rfl (by simp only[nb];omega)) ?_;refine aS ?_;refine Gi ?_;exact aV (x:=(i)) (i+1) ⟨oF,Js oF hd oF⟩ oF (Sub.cons rfl (Sub.cons (look_eq rfl (by rw[Bh oM,Nat.mul_comm 10];rfl)) sb)) (fun w hw=>ai.mem hw)
 refine aK ?_;refine Gb (fun h3=>?_) fun h3=>?_
 ·
  refine ak ?_;refine Gr fun w1 hw=>?_;exact Gf ((by rw[yQ,Ju (i:=i) oM])) hw
 refine aq ?_;refine Gr fun w1 hw=>?_;exact Gf ((by have e:s.take i=s:=List.take_of_length_le oM;rw[e]at hd;rw[yQ,Jv (List.length_pos_iff.1 hx.2) oM hd (by rw[←e];omega),e])) hw
theorem aaD(w:World)(s:List UInt8)(top:Nat)(aP:top<=65535/\s.length<=1000000000):Calls Tryz.prog 117 #[.string ⟨s.toArray⟩, .int .i64 (top:Nat)] w fun e w'=>e= .returned (.tuple #[.int .i64 (((cq s top).getD 0):Nat), .bool ((cq s top).isSome)])/\Mem w [] w':=by
 refine cl Tryz.func117 rfl Tryz.ntmps117 rfl ?_;refine aK ?_;refine ag (IU rfl rfl) ?_;refine au ?_;refine bp rfl rfl rfl (fun hg=>(Ry.yl (oW (s:=s) Tryz.underlying9 (ay hg rfl)))) ?_;refine Gg ?_;refine bp rfl rfl rfl (fun hg=>(Ry.yl (aZ (ay hg rfl)))) ?_;refine kd rfl rfl rfl (fun hg=>(Ry.yl (aZ rfl))) ?_;refine kd rfl rfl rfl (fun hg=>(Ry.yl (ra (s:=s) 0 Tryz.underlying9 (ay hg rfl) rfl rfl (by simp only[Z0,Z1,Z2,Z3,Z4,Z5,Z6,Z7,Z8,Z9]at hg;omega)))) ?_;refine kd rfl rfl rfl (fun hg=>(Ry.yl (c2 (ay hg rfl) rfl rfl))) ?_;refine bp rfl rfl rfl (fun hg=>(Ry.yl (ux (ay hg rfl) (q6 hg rfl) rfl))) ?_;refine au ?_;refine Gb (fun h0=>?_) fun h0=>?_
 ·
  refine aq ?_;refine Gr fun w1 hw=>?_;exact⟨(by rw[QO (h0.imp id fun h=>⟨by omega,by omega⟩)];rfl),ai.mem hw⟩
 refine aq ?_;refine ag (oW (s:=s) Tryz.underlying9 rfl) ?_;refine au ?_;refine bA (X:=Nat) (fun U=>[(22, .int .i64 (U:Nat)),(6, .int .i64 ((val (s.take U)):Nat)),(0, .string ⟨s.toArray⟩),(1, .int .i64 (top:Nat)),(21, .int .i64 (s.length:Nat))]) (fun U=>[]) (fun U=>U<=s.length/\(s.take U).all jP=true/\val (s.take U)<=top) (fun U=>s.length -U) 0 ⟨Nat.zero_le _,rfl,Nat.zero_le _⟩ (Sub.cons rfl (Sub.cons (look_eq rfl rfl) sb)) (fun w hw=>ai.mem hw) ?_;rintro i ⟨hi,hd,hv⟩;refine ak ?_;refine Gb (fun h1=>?_) fun h1=>?_
 ·
  refine aS ?_;refine ag (ra (s:=s) i Tryz.underlying9 rfl rfl rfl oM) ?_;refine aq ?_;refine bp rfl rfl rfl (fun hg=>(Ry.yl (ra (s:=s) i Tryz.underlying9 (ay hg rfl) (ay hg rfl) rfl (by simp only[Z0,Z1,Z2,Z3,Z4,Z5,Z6,Z7,Z8,Z9]at hg;omega)))) ?_;refine ak ?_;refine Gb (fun h2=>?_) fun h2=>?_
  ·
   refine aq ?_;refine Gr fun w1 hw=>?_;exact⟨(by rw[Jt (i:=i) oM oM];rfl),ai.mem hw⟩
  refine au ?_;refine ag (oP rfl rfl oM) ?_;refine au ?_;refine ag (ra (s:=s) i Tryz.underlying9 rfl rfl rfl oM) ?_;refine ag (A9 (p:=(s.getD i 0).toNat) (q:=48) rfl rfl rfl rfl oM) ?_;refine ag (kc rfl (by simp only[nb];omega)) ?_;refine cw ?_;refine Gb (fun h3=>?_) fun h3=>?_
  ·
   refine aq ?_;refine Gr fun w1 hw=>?_;exact⟨(by rw[Ju (i:=i+1) (by rw[Bh oM];omega)];rfl),ai.mem hw⟩
  refine ak ?_;refine Gi ?_;exact aV (x:=(i)) (i+1) ⟨oF,Js oF hd oF,by rw[Bh oF];omega⟩ oF (Sub.cons rfl (Sub.cons (look_eq rfl (by rw[Bh oM];rfl)) sb)) (fun w hw=>ai.mem hw)
 refine aK ?_;refine Gr fun w1 hw=>?_;exact⟨(by have e:s.take i=s:=List.take_of_length_le oM;rw[e]at hd hv;rw[Jv h0.1 (by have:=h0.2;omega) hd hv,e];rfl),ai.mem hw⟩
instance ak0{s:List UInt8}{top:Nat}:bO Tryz.prog 117 w0 L [.string ⟨s.toArray⟩, .int .i64 (top:Nat)] (.tuple #[.int .i64 (((cq s top).getD 0):Nat), .bool ((cq s top).isSome)]) (top<=65535/\s.length<=1000000000):=⟨fun hp w hw=>aaD w s top hp⟩
instance:dj Tryz.prog 5 (.int .u8 0):=⟨by kernel_rfl⟩
end Go.Proofs.YtkggjjnhnjjokaaGreatDoor
namespace Go.Kb
open Go.aA
variable {k kk:Key} {i j n v:Nat} {s:bR} {c:UInt8}
def sB(k:Key)(i v:Nat):Key:=mE fun j=>if j=i then v else bg k j
theorem Hz(k:Key)(i:Nat)(hv:v<256)(hj:j<16):bg (sB k i v) j=if j=i then v else bg k j:=by
 rw[sB,rf _ _ hj];have:=iB k j;split<;>omega
theorem Of(k:Key)(i:Nat)(hi:i<16)(hv:v<256):(bF k).setIfInBounds i (.int .u8 ((v:Nat):Int))=bF (sB k i v):=by
 refine Ef (by simp[eJ]) fun j hj=>?_;rw[Hz k i hv hj,Array.getElem?_setIfInBounds]
 by_cases e:i=j
 ·
  subst e;simp[eJ,hi]
 rw[if_neg e,if_neg (fun h=>e h.symm)];exact jl k j hj
theorem Og:bg (0#128) j=0:=by simp[bg]
def x7(ps:List bR)(i:Nat)(k:Key):Prop:=(∀j,j<16->bg k j=if j<i then(cq (ps.getD j []) 255).getD 0 else 0)/\ ∀j,j<i->(cq (ps.getD j []) 255).isSome=true
theorem aaE(ps:List bR):x7 ps 0 (0#128):=⟨fun j _=>by rw[Og,if_neg (by omega)],fun j h=>absurd h (Nat.not_lt_zero j)⟩
theorem HA(s:bR):(cq s 255).getD 0<256:=by
 cases e:cq s 255 with
 |none=>simp
 |some n=>have:=(jQ.1 e).2;simp;omega
theorem getD_at{α:Type}{xs:List α}{i:Nat}{x d:α}(h:xs[i]? =some x):xs.getD i d=x:=by simp[List.getD,h]
theorem x7.step{ps:List bR}{x:bR}(h:x7 ps i k)(hx:ps[i]? =some x)(ho:(cq x 255).isSome=true)(hi:i<4):x7 ps (i+1) (sB k i ((cq x 255).getD 0)):=by
 have e:ps.getD i []=x:=getD_at hx;refine⟨fun j hj=>?_,fun j hj=>?_⟩
 ·
  rw[Hz k i (HA x) hj]
  by_cases ej:j=i
  ·
   subst ej;rw[if_pos rfl,if_pos (by omega),e]
  rw[if_neg ej,h.1 j hj]
  by_cases hl:j<i
  ·
   rw[if_pos hl,if_pos (by omega)]
  rw[if_neg hl,if_neg (by omega)]
 by_cases ej:j=i
 ·
  subst ej;rw[e];exact ho
 exact h.2 j (by omega)
theorem Oh{ps:List bR}(h:ps.length=4): ∃a b c d,ps=[a,b,c,d]:=by
 match ps,h with
 |[a,b,c,d],_=>exact⟨a,b,c,d,rfl⟩
theorem aaF(h:(cr 46 s).length≠4):hY s=none:=by
 unfold hY;split
 ·
  rename_i a b c d e;rw[e]at h;exact absurd rfl h
 rfl
theorem aaG{x:bR}(hl:(cr 46 s).length=4)(hx:(cr 46 s)[i]? =some x)(hn:(cq x 255).isSome=false):hY s=none:=by
 obtain⟨a,b,c,d,e⟩:=Oh hl;have HB:cq x 255=none:=by cases q:cq x 255 with
  |none=>rfl
  |some z=>rw[q]at hn;cases hn
 unfold hY;rw[e]at hx⊢;have hm:x∈[a,b,c,d]:=List.mem_of_getElem? hx;simp only[List.mem_cons,List.not_mem_nil,or_false]at hm;rcases hm with rfl|rfl|rfl|rfl
 all_goals simp only[HB]
 all_goals(split<;>first|rfl|(rename_i h1 h2 h3 h4;simp_all))
theorem aaH(hl:(cr 46 s).length=4)(h:x7 (cr 46 s) 4 k):hY s=some k:=by
 obtain⟨a,b,c,d,e⟩:=Oh hl;rw[e]at h;obtain⟨na,ha⟩:=Option.isSome_iff_exists.1 (h.2 0 (by decide));obtain⟨nb,hb⟩:=Option.isSome_iff_exists.1 (h.2 1 (by decide));obtain⟨nc,hc⟩:=Option.isSome_iff_exists.1 (h.2 2 (by decide));obtain⟨nd,hd⟩:=Option.isSome_iff_exists.1 (h.2 3 (by decide));simp only[List.getD_cons_zero,List.getD_cons_succ]at ha hb hc hd;unfold hY;rw[e];simp only[ha,hb,hc,hd];refine congrArg some (re fun j hj=>?_);rw[uR (jQ.1 ha).2 (jQ.1 hb).2 (jQ.1 hc).2 (jQ.1 hd).2 hj,h.1 j hj];rcases Nat.lt_or_ge j 4 with h4|h4
 ·
  have:j=0\/j=1\/j=2\/j=3:=by omega
  rcases this with rfl|rfl|rfl|rfl
  ·
   simp[ha]
  ·
   simp[hb]
  ·
   simp[hc]
  simp[hd]
 rw[if_neg (by omega),if_neg (by omega),if_neg (by omega),if_neg (by omega),if_neg (by omega)]
theorem aaI(h: ¬pa (s.getD i 0)<0):pa (s.getD i 0)=((jo s i:Nat):Int)/\jo s i<16/\(jn (s.getD i 0)).isSome=true:=by
 unfold pa jo at*
 cases e:jn (s.getD i 0)with
 |none=>rw[e]at h;simp at h
 |some n=>exact⟨rfl,Ej e,rfl⟩
theorem aaJ(h:pa (s.getD i 0)<0)(hi:i<s.length):jR s=none:=by
 unfold jR;rw[if_neg];rintro⟨_,ha⟩;have:=List.all_eq_true.1 ha (s.getD i 0) (by simp[List.getD,hi]);unfold pa at h
 cases e:jn (s.getD i 0)with
 |none=>rw[e]at this;cases this
 |some n=>rw[e]at h;simp only at h;omega
theorem aaK(c:UInt8):Lib.indexByte ([48,49,50,51,52,53,54,55,56,57,97,98,99,100,101,102]:bR) c=pa c:=by
 have key: ∀n,n<256->Lib.indexByte ([48,49,50,51,52,53,54,55,56,57,97,98,99,100,101,102]:bR) (UInt8.ofNat n)=pa (UInt8.ofNat n):=by decide+kernel
 have:=key c.toNat c.toNat_lt;rwa [UInt8.ofNat_toNat]at this
def uj(s:bR)(i:Nat)(k:Key):Prop:=(∀j,j<16->bg k j=if 2*j+1<i then 16*jo s (2*j)+jo s (2*j+1)else if 2*j<i then jo s (2*j)else 0)/\ ∀j,j<i->(jn (s.getD j 0)).isSome=true
theorem aaL(s:bR):uj s 0 (0#128):=⟨fun j _=>by rw[Og,if_neg (by omega),if_neg (by omega)],fun j h=>absurd h (Nat.not_lt_zero j)⟩
theorem De(h:(jn (s.getD i 0)).isSome=true):jo s i<16:=by
 unfold jo;obtain⟨n,e⟩:=Option.isSome_iff_exists.1 h;rw[e];exact Ej e
theorem uj.lt(h:uj s i k)(hi:i<32):bg k (i/2)<16:=by
 rw[h.1 (i/2) (by omega),if_neg (by omega)];split
 ·
  exact De (h.2 _ (by omega))
 omega
theorem Oi(hn:n<16):v*16|||n=v*16+n:=by
 have:=Nat.two_pow_add_eq_or_of_lt (i:=4) (show n<2^4 from hn) v;rw[Nat.mul_comm v 16];exact this.symm
theorem uj.step(h:uj s i k)(hi:i<32)(ho:(jn (s.getD i 0)).isSome=true):uj s (i+1) (sB k (i/2) (bg k (i/2)*16|||jo s i)):=by
 have hl:=h.lt hi;have hx:=De ho;rw[Oi hx];refine⟨fun j hj=>?_,fun j hj=>?_⟩
 ·
  rw[Hz k _ (by omega) hj]
  by_cases ej:j=i/2
  ·
   rw[if_pos ej,←ej,h.1 j hj,if_neg (by omega)];rcases Nat.mod_two_eq_zero_or_one i with e|e
   ·
    rw[if_neg (by omega),if_neg (by omega),if_pos (by omega),show 2*j=i by omega];omega
   rw[if_pos (by omega),if_pos (by omega),show 2*j+1=i by omega];omega
  rw[if_neg ej,h.1 j hj]
  by_cases h1:2*j+1<i
  ·
   rw[if_pos h1,if_pos (by omega)]
  rw[if_neg h1,if_neg (by omega),if_neg (by omega),if_neg (by omega)]
 by_cases ej:j=i
 ·
  subst ej;exact ho
 exact h.2 j (by omega)
theorem aaM(h:s.length≠32):jR s=none:=by unfold jR;rw[if_neg (fun e=>h e.1)]
theorem aaN(h: ∀j,j<s.length->(jn (s.getD j 0)).isSome=true):Bg s=true:=by
 refine List.all_eq_true.2 fun c hc=>?_;obtain⟨j,hj,rfl⟩:=List.getElem_of_mem hc;have:=h j hj;simpa[List.getD,hj]using this
theorem aaO(hl:s.length=32)(h:uj s 32 k):jR s=some k:=by
 unfold jR;rw[if_pos ⟨hl,aaN fun j hj=>h.2 j (by omega)⟩];refine congrArg some (re fun j hj=>?_);rw[h.1 j hj,if_pos (by omega),wH,rf _ _ hj];have:=De (h.2 (2*j) (by omega));have:=De (h.2 (2*j+1) (by omega));omega
def lK(s:bR):Key:=if 60<s.length then 0#128 else match kY s with|some (k,_)=>k|none=>0#128
def gC(s:bR):Nat:=if 60<s.length then 0 else match kY s with|some (_,n)=>n.toNat|none=>0
def j9(s:bR):Int:=if 60<s.length then 3 else match kY s with|some _=>0|none=>2
theorem aaP(h:60<s.length):lK s=0#128/\gC s=0/\j9 s=3:=by simp[lK,gC,j9,h]
theorem aaQ(h: ¬60<s.length)(hs:hY s=some k):lK s=k/\gC s=32/\j9 s=0:=by simp[lK,gC,j9,h,kY,hs]
theorem aaR(h: ¬60<s.length)(hs:hY s=none)(hw:jR s=some k):lK s=k/\gC s=128/\j9 s=0:=by simp[lK,gC,j9,h,kY,hs,hw]
theorem aaS(h: ¬60<s.length)(hs:hY s=none)(hw:jR s=none):lK s=0#128/\gC s=0/\j9 s=2:=by simp[lK,gC,j9,h,kY,hs,hw]
end Go.Kb
namespace Go.Proofs.YtkggjjnhnjjokaaGreatDoor
open Go.aA Go.Kb
instance:nj Tryz.prog 25 [] (.agg (bF 0#128)):=⟨fun w=>by rw[tM];kernel_rfl⟩
instance:nj Tryz.prog 32 [] (.agg (cA ⟨0,0,0#128⟩)):=⟨fun w=>by unfold cA;rw[tM];kernel_rfl⟩
instance:nj Tryz.prog 34 [] (.agg (av fu)):=⟨fun w=>by unfold av cA fu;rw[tM];kernel_rfl⟩
theorem aaT(w:World)[tb:kz w](s:List UInt8)(aP:s.length<=60):Calls Tryz.prog 208 #[.string ⟨s.toArray⟩] w fun e w'=>e= .returned (.tuple #[.agg (bF ((hY s).getD 0#128)), .bool ((hY s).isSome)])/\Mem w [] w':=by
 refine bS Tryz.func208 rfl Tryz.ntmps208 rfl ?_;refine Gc ?_;refine bj fun b2=>?_;refine ak ?_;refine bf rfl oM fun cX vE=>?_;refine aS ?_;refine Gb (fun h0=>?_) fun h0=>?_
 ·
  refine Gc ?_;refine ag (fo rfl) ?_;refine ak ?_;refine Gr fun w1 hw=>?_;exact⟨(by rw[aaF oM];rfl),ai.mem hw⟩
 refine Gc ?_;refine bj fun b5=>?_;refine aK ?_;refine bA (X:=Nat×Key) (fun U=>[(18, .int .i64 (U.1:Nat)),(5, .pointer (some ⟨b5,0,none⟩)),(2, .pointer (some ⟨b2,0,none⟩)),(16,(⟨false,cX,0,(cr 46 s).length,(cr 46 s).length,none⟩:Sv).val),(17, .int .i64 ((cr 46 s).length:Nat))]) (fun U=>[an b5 (bF U.2) 25,own yN 1 ⟨false,cX,0,(cr 46 s).length,(cr 46 s).length,none⟩ (cr 46 s),an b2 (bF 0#128) 25]) (fun U=>U.1<=4/\x7 (cr 46 s) U.1 U.2) (fun U=>4 -U.1) (0,0#128) ⟨Nat.zero_le _,aaE _⟩ sb (fun w hw=>ai.mem hw) ?_;rintro⟨i,kk⟩ ⟨hi,hp⟩;dsimp only;simp only at hi hp;refine ak ?_;refine Gb (fun h1=>?_) fun h1=>?_
 ·
  refine au ?_;obtain⟨x,hx⟩:=get_some (xs:=(cr 46 s)) (i:=i) oM;refine ag (aR rfl rfl i rfl oM) ?_;refine ag (bw (j:=0) rfl i hx rfl (by decide)) ?_;refine aq ?_;refine dm (bV (vs:=[_, .int .i64 ((255:Nat):Int)]) rfl ⟨by decide,by have:=QP s (List.mem_of_getElem? hx);omega⟩) ?_;refine Gs ?_;refine ag (aL (v:= .int .i64 (((cq x 255).getD 0):Nat)) rfl rfl) ?_;refine ag (aL (v:= .bool ((cq x 255).isSome)) rfl rfl) ?_;refine aS ?_;refine Gb (fun h2=>?_) fun h2=>?_
  ·
   refine Gc ?_;refine ag (fo rfl) ?_;refine ak ?_;refine Gr fun w1 hw=>?_;exact⟨(by rw[aaG oM hx h2];rfl),ai.mem hw⟩
  refine ak ?_;refine ag (AM (n:=(((cq x 255).getD 0:Nat):Int)) rfl oM (by have:=HA x;simp only[nb];omega)) ?_;refine ag (ni rfl rfl oM oM) ?_;refine dw (cs':=bF (sB kk i ((cq x 255).getD 0))) rfl rfl (by rw[eJ];omega) rfl (Of kk i oM (HA x)) ?_;refine ak ?_;refine Gi ?_;exact aV (x:=(i,kk)) (i+1,sB kk i ((cq x 255).getD 0)) ⟨oF,hp.step hx h2 oF⟩ (by simp only;omega) sb (fun w hw=>ai.mem hw)
 refine aK ?_;refine Gr fun w1 hw=>?_;exact⟨(by rw[aaH oM (by rw[show i=4 by omega]at hp;exact hp)];rfl),ai.mem hw⟩
variable {w0:World}{L:List ah}
instance ak1{s:List UInt8}[tb:kz w0]:bO Tryz.prog 208 w0 L [.string ⟨s.toArray⟩] (.tuple #[.agg (bF ((hY s).getD 0#128)), .bool ((hY s).isSome)]) (s.length<=60):=⟨fun hp w hw=>aaT w (tb:=tb.at hw) s hp⟩
theorem aaU(w:World)(s:List UInt8)(aP:s.length<=60):Calls Tryz.prog 209 #[.string ⟨s.toArray⟩] w fun e w'=>e= .returned (.tuple #[.agg (bF ((jR s).getD 0#128)), .bool ((jR s).isSome)])/\Mem w [] w':=by
 refine bS Tryz.func209 rfl Tryz.ntmps209 rfl ?_;refine Gc ?_;refine bj fun b2=>?_;refine au ?_;refine bj fun b4=>?_;refine au ?_;refine ag (oW (s:=s) Tryz.underlying9 rfl) ?_;refine au ?_;refine Gb (fun h0=>?_) fun h0=>?_
 ·
  refine Gc ?_;refine ag (fo rfl) ?_;refine ak ?_;refine Gr fun w1 hw=>?_;exact⟨(by rw[aaM oM];rfl),ai.mem hw⟩
 refine au ?_;refine ag (oW (s:=s) Tryz.underlying9 rfl) ?_;refine au ?_;refine bA (X:=Nat×Key) (fun U=>[(13, .int .i64 (U.1:Nat)),(4, .pointer (some ⟨b4,0,none⟩)),(0, .string ⟨s.toArray⟩),(2, .pointer (some ⟨b2,0,none⟩)),(12, .int .i64 (s.length:Nat))]) (fun U=>[an b4 (bF U.2) 25,an b2 (bF 0#128) 25]) (fun U=>U.1<=32/\uj s U.1 U.2) (fun U=>32 -U.1) (0,0#128) ⟨Nat.zero_le _,aaL s⟩ sb (fun w hw=>ai.mem hw) ?_;rintro⟨i,kk⟩ ⟨hi,hp⟩;dsimp only;simp only at hi hp;refine ak ?_;refine Gb (fun h1=>?_) fun h1=>?_
 ·
  refine aS ?_;refine ag (ra (s:=s) i Tryz.underlying9 rfl rfl rfl oM) ?_;refine Gs ?_;rw[aaK];refine aK ?_;refine Gb (fun h2=>?_) fun h2=>?_
  ·
   refine Gc ?_;refine ag (fo rfl) ?_;refine ak ?_;refine Gr fun w1 hw=>?_;exact⟨(by rw[aaJ h2 oM];rfl),ai.mem hw⟩
  refine iV ?_;obtain⟨he,hx,ho⟩:=aaI h2;have aW:=hp.lt (show i<32 by omega);have az:(((i:Nat):Int)/2).toNat=i/2:=by omega
  refine Gi ?_;refine Gs ?_;refine ag (kb rfl rfl oM oM) ?_;refine Gs ?_;refine ag (kb rfl rfl oM oM) ?_;refine ag (ni rfl rfl oM oM) ?_;refine ag (Ry.as (v':= .int .u8 ((bg kk (i/2):Nat):Int)) (v8 rfl (jl kk (((i:Nat):Int)/2).toNat oM)) (by rw[az])) ?_;refine ag (Qe (p:=bg kk (i/2)) rfl rfl rfl oM) ?_;refine Gs ?_;refine ag (AM rfl oM (by simp only[nb];omega)) ?_;refine ag (yy (p:=bg kk (i/2)*16) (q:=jo s i) rfl rfl rfl he (by simp only[nb];omega) (by simp only[nb];omega)) ?_;refine ag (ni rfl rfl oM oM) ?_;refine dw (cs':=bF (sB kk (i/2) (bg kk (i/2)*16|||jo s i))) rfl rfl (by rw[eJ];omega) rfl (by rw[az];exact Of kk (i/2) oM (by rw[Oi hx];omega)) ?_;refine ak ?_;refine Gi ?_;exact aV (x:=(i,kk)) (i+1,sB kk (i/2) (bg kk (i/2)*16|||jo s i)) ⟨oF,hp.step oF ho⟩ (by simp only;omega) sb (fun w hw=>ai.mem hw)
 refine aK ?_;refine Gr fun w1 hw=>?_;exact⟨(by rw[aaO oM (by rw[show i=32 by omega]at hp;exact hp)];rfl),ai.mem hw⟩
instance ak2{s:List UInt8}:bO Tryz.prog 209 w0 L [.string ⟨s.toArray⟩] (.tuple #[.agg (bF ((jR s).getD 0#128)), .bool ((jR s).isSome)]) (s.length<=60):=⟨fun hp w hw=>aaU w s hp⟩
theorem aaV(w:World)[tb:kz w](s:List UInt8)(aP:s.length<=1000000000):Calls Tryz.prog 149 #[.string ⟨s.toArray⟩] w fun e w'=>e= .returned (.tuple #[.agg (bF (lK s)), .int .i64 ((gC s):Nat), .int .i64 (j9 s)])/\Mem w [] w':=by
 refine bS Tryz.func149 rfl Tryz.ntmps149 rfl ?_;refine Gc ?_;refine bj fun b2=>?_;refine aq ?_;refine ag (oW (s:=s) Tryz.underlying9 rfl) ?_;refine au ?_;refine Gb (fun h0=>?_) fun h0=>?_
 ·
  refine Gc ?_;refine ag (fo rfl) ?_;refine aq ?_;refine Gr fun w1 hw=>?_;exact⟨(by obtain⟨e1,e2,e3⟩:=aaP (s:=s) oM;rw[e1,e2,e3];rfl),ai.mem hw⟩
 refine au ?_;refine dm (bV rfl oM) ?_;refine Gs ?_;refine ag (aL (v:= .agg (bF ((hY s).getD 0#128))) rfl rfl) ?_;refine ag (aL (v:= .bool ((hY s).isSome)) rfl rfl) ?_;refine bj fun b5=>?_;refine aK ?_;refine Gb (fun h1=>?_) fun h1=>?_
 ·
  obtain⟨q,hq⟩:=Option.isSome_iff_exists.1 h1;refine aS ?_;refine Gr fun w1 hw=>?_;exact⟨(by obtain⟨e1,e2,e3⟩:=aaQ oM hq;rw[e1,e2,e3,hq];rfl),ai.mem hw⟩
 have hs:hY s=none:=by simpa using h1
 refine au ?_;refine dm (bV rfl oM) ?_;refine Gs ?_;refine ag (aL (v:= .agg (bF ((jR s).getD 0#128))) rfl rfl) ?_;refine ag (aL (v:= .bool ((jR s).isSome)) rfl rfl) ?_;refine bj fun b7=>?_;refine aK ?_;refine Gb (fun h2=>?_) fun h2=>?_
 ·
  obtain⟨q,hq⟩:=Option.isSome_iff_exists.1 h2;refine aS ?_;refine Gr fun w1 hw=>?_;exact⟨(by obtain⟨e1,e2,e3⟩:=aaR oM hs hq;rw[e1,e2,e3,hq];rfl),ai.mem hw⟩
 have hw0:jR s=none:=by simpa using h2
 refine Gc ?_;refine ag (fo rfl) ?_;refine aq ?_;refine Gr fun w1 hw=>?_;exact⟨(by obtain⟨e1,e2,e3⟩:=aaS oM hs hw0;rw[e1,e2,e3];rfl),ai.mem hw⟩
instance ak3{s:List UInt8}[tb:kz w0]:bO Tryz.prog 149 w0 L [.string ⟨s.toArray⟩] (.tuple #[.agg (bF (lK s)), .int .i64 ((gC s):Nat), .int .i64 (j9 s)]) (s.length<=1000000000):=⟨fun hp w hw=>aaV w (tb:=tb.at hw) s hp⟩
end Go.Proofs.YtkggjjnhnjjokaaGreatDoor
namespace Go.Kb
open Go.aA
variable {s a b:bR} {c:UInt8} {n top:Nat}
theorem vR(c:UInt8)(s:bR):(∃a b,s=a++c::b/\dq c s=(a,b,true)/\cr c s=a::cr c b)\/(dq c s=(s,[],false)/\cr c s=[s]):=by
 rcases wB (c:=c) s with⟨h1,h2⟩|⟨a,b,h1,h2,h3⟩
 ·
  exact .inr ⟨Qf h1,h2⟩
 exact .inl ⟨a,b,h1,by rw[h1,Qg h2],h3⟩
theorem Oj(hc:c∈b)(hd:jP c=false):cq b top=none:=by
 cases e:cq b top with
 |none=>rfl
 |some n=>
  obtain⟨rfl,_⟩:=jQ.1 e;exact absurd hc (I3 hd)
theorem Ol(c:UInt8)(s:bR):(dq c s).1.length<=s.length/\(dq c s).2.1.length<=s.length:=by
 rcases vR c s with⟨a,b,h1,h2,_⟩|⟨h2,_⟩
 ·
  rw[h2,h1];simp;omega
 rw[h2];simp
theorem aaW(h:(dq 47 s).2.2=false):ky s=none:=by
 rcases vR 47 s with⟨a,b,_,h2,_⟩|⟨_,h3⟩
 ·
  rw[h2]at h;cases h
 unfold ky;rw[h3]
def sC(a b:bR):Option cc:=match kY a,cq b 128 with
 |some (k,bits),some n=>if cU ⟨bits,(n:Int),k⟩=true then some ⟨bits,(n:Int),k⟩else none
 |_,_=>none
theorem aaX(h:cr 47 s=[a,b]):ky s=sC a b:=by
 unfold ky;rw[h];rfl
theorem Df(h:(dq 47 s).2.2=true):ky s=sC (dq 47 s).1 (dq 47 s).2.1:=by
 rcases vR 47 s with⟨a,b,_,h2,h3⟩|⟨h2,_⟩
 ·
  rw[h2];rcases vR 47 b with⟨x,y,e1,_,e3⟩|⟨_,e3⟩
  ·
   have hn:cq b 128=none:=Oj (c:=47) (by rw[e1];simp) (by decide);unfold ky sC;rw[h3,e3,hn];have:cr 47 y≠[]:=Ea y
   cases q:cr 47 y with
   |nil=>exact absurd q this
   |cons z zs=>simp only;split<;>simp_all
  exact aaX (by rw[h3,e3])
 rw[h2]at h;cases h
def sD(a b:bR):Option Rt:=match ky a,cq b 65535 with
 |some p,some n=>some ⟨p,UInt16.ofNat n⟩
 |_,_=>none
theorem aaY(h:(dq 32 s).2.2=false):qg s=none:=by
 rcases vR 32 s with⟨a,b,_,h2,_⟩|⟨_,h3⟩
 ·
  rw[h2]at h;cases h
 unfold qg;rw[h3]
theorem aaZ(h:cr 32 s=[a,b]):qg s=sD a b:=by
 unfold qg;rw[h];rfl
theorem HC(h:(dq 32 s).2.2=true):qg s=sD (dq 32 s).1 (dq 32 s).2.1:=by
 rcases vR 32 s with⟨a,b,_,h2,h3⟩|⟨h2,_⟩
 ·
  rw[h2];rcases vR 32 b with⟨x,y,e1,_,e3⟩|⟨_,e3⟩
  ·
   have hn:cq b 65535=none:=Oj (c:=32) (by rw[e1];simp) (by decide);unfold qg sD;rw[h3,e3,hn];have:cr 32 y≠[]:=Ea y
   cases q:cr 32 y with
   |nil=>exact absurd q this
   |cons z zs=>simp only;split<;>simp_all
  exact aaZ (by rw[h3,e3])
 rw[h2]at h;cases h
theorem HD(h:a.length<=60)(he:j9 a=0):kY a=some (lK a,((gC a:Nat):Int))/\(gC a=32\/gC a=128):=by
 have hl: ¬60<a.length:=by omega
 unfold j9 at he;rw[if_neg hl]at he
 cases e:kY a with
 |none=>rw[e]at he;cases he
 |some z=>
  obtain⟨k,m⟩:=z;have hm:=((Be _).1 (QJ.1 e).1).1;simp only at hm;unfold lK gC;rw[if_neg hl,if_neg hl,e];simp only;rcases hm with rfl|rfl
  ·
   exact⟨rfl, .inl rfl⟩
  exact⟨rfl, .inr rfl⟩
theorem aa0(h:a.length<=60)(he: ¬j9 a=0):kY a=none:=by
 unfold j9 at he;rw[if_neg (show ¬60<a.length by omega)]at he
 cases e:kY a with
 |none=>rfl
 |some z=>rw[e]at he;exact absurd rfl he
def oJ(s:bR):cc:=if 60<s.length then⟨0,0,0#128⟩else(ky s).getD ⟨0,0,0#128⟩
def my(s:bR):Int:=if 60<s.length then 3 else if(ky s).isSome=true then 0 else 2
theorem aa1(h:60<s.length):oJ s=⟨0,0,0#128⟩/\my s=3:=by simp[oJ,my,h]
theorem Dg(h: ¬60<s.length)(hp:ky s=none):oJ s=⟨0,0,0#128⟩/\my s=2:=by simp[oJ,my,h,hp]
theorem aa2{p:cc}(h: ¬60<s.length)(hp:ky s=some p):oJ s=p/\my s=0:=by simp[oJ,my,h,hp]
theorem aa3(h:a.length<=60)(he:my a=0):ky a=some (oJ a):=by
 have hl: ¬60<a.length:=by omega
 unfold my at he;rw[if_neg hl]at he
 cases e:ky a with
 |none=>rw[e]at he;simp at he
 |some z=>rw[oJ,if_neg hl,e];rfl
theorem aa4(h:a.length<=60)(he: ¬my a=0):ky a=none:=by
 unfold my at he;rw[if_neg (show ¬60<a.length by omega)]at he
 cases e:ky a with
 |none=>rfl
 |some z=>rw[e]at he;exact absurd rfl he
def nR(s:bR):Rt:=if 60<s.length then fu else(qg s).getD fu
def qS(s:bR):Int:=if 60<s.length then 3 else if(qg s).isSome=true then 0 else 2
theorem aa5(h:60<s.length):nR s=fu/\qS s=3:=by simp[nR,qS,h]
theorem HE(h: ¬60<s.length)(hp:qg s=none):nR s=fu/\qS s=2:=by simp[nR,qS,h,hp]
theorem aa6{r:Rt}(h: ¬60<s.length)(hp:qg s=some r):nR s=r/\qS s=0:=by simp[nR,qS,h,hp]
theorem aa7(h:a.length<=60)(he: ¬j9 a=0):sC a b=none:=by unfold sC;rw[aa0 h he]
theorem aa8(h:cq b n=none)(hn:n<=top){m:Nat}(e:cq b top=some m):n<m:=by
 obtain⟨rfl,h2⟩:=jQ.1 e;rcases Nat.lt_or_ge n m with q|q
 ·
  exact q
 rw[D9 q]at h;cases h
theorem aa9(h:a.length<=60)(he:j9 a=0)(hn:(cq b (gC a)).isSome=false):sC a b=none:=by
 obtain⟨hk,hm⟩:=HD h he;have HB:cq b (gC a)=none:=by simpa using hn
 unfold sC;rw[hk]
 cases e:cq b 128 with
 |none=>rfl
 |some m=>
  have:=aa8 HB (by omega) e;simp only;rw[if_neg];intro hp;have:=((Be _).1 hp).2.2.1;simp only at this;omega
theorem Om(h:a.length<=60)(he:j9 a=0)(hn:(cq b (gC a)).isSome=true):sC a b=if cU ⟨((gC a:Nat):Int),(((cq b (gC a)).getD 0:Nat):Int),lK a⟩=true then some ⟨((gC a:Nat):Int),(((cq b (gC a)).getD 0:Nat):Int),lK a⟩else none:=by
 obtain⟨hk,hm⟩:=HD h he;obtain⟨m,e⟩:=Option.isSome_iff_exists.1 hn;obtain⟨rfl,h2⟩:=jQ.1 e;unfold sC;rw[hk,e,D9 (show m<=128 by omega)];rfl
theorem aba(h:a.length<=60)(he: ¬my a=0):sD a b=none:=by unfold sD;rw[aa4 h he]
theorem abb(hn:cq b 65535=none):sD a b=none:=by
 unfold sD;rw[hn];cases ky a<;>rfl
theorem abc(h:a.length<=60)(he:my a=0)(hn:cq b 65535=some n):sD a b=some ⟨oJ a,UInt16.ofNat n⟩:=by
 unfold sD;rw[hn,aa3 h he]
theorem On(s:bR)(top:Nat):(cq s top).getD 0<=top:=by
 cases e:cq s top with
 |none=>simp
 |some n=>exact(jQ.1 e).2
theorem abd{n:Nat}(h:n<=65535):(Value.int .u16 ((n:Nat):Int))=Value.int .u16 (((UInt16.ofNat n).toNat:Nat):Int):=by
 rw[UInt16.toNat_ofNat',Nat.mod_eq_of_lt (show n<2^16 by omega)]
theorem KP{ps:List bR}(h:ps.length=2): ∃a b,ps=[a,b]:=by
 match ps,h with
 |[a,b],_=>exact⟨a,b,rfl⟩
end Go.Kb
namespace Go.Proofs.YtkggjjnhnjjokaaGreatDoor
open Go.aA Go.Kb
theorem abe(w:World)[tb:kz w](s:List UInt8)(aP:s.length<=1000000000):Calls Tryz.prog 116 #[.string ⟨s.toArray⟩] w fun e w'=>e= .returned (.tuple #[.agg (cA (oJ s)), .int .i64 (my s)])/\Mem w [] w':=by
 obtain⟨hca,oz⟩:=Ol 47 s;refine bS Tryz.func116 rfl Tryz.ntmps116 rfl ?_;refine Gc ?_;refine bj fun b2=>?_;refine ak ?_;refine ag (oW (s:=s) Tryz.underlying9 rfl) ?_;refine au ?_;refine Gb (fun h0=>?_) fun h0=>?_
 ·
  refine Gc ?_;refine ag (fo rfl) ?_;refine ak ?_;refine Gr fun w1 hw=>?_;exact⟨(by obtain⟨e1,e2⟩:=aa1 (s:=s) oM;rw[e1,e2]),ai.mem hw⟩
 refine au ?_;refine dm (bV rfl oM) ?_;refine Gs ?_;refine ag (aL (v:= .string ⟨((dq 47 s).1).toArray⟩) rfl rfl) ?_;refine ag (aL (v:= .string ⟨((dq 47 s).2.1).toArray⟩) rfl rfl) ?_;refine ag (aL (v:= .bool ((dq 47 s).2.2)) rfl rfl) ?_;refine cw ?_;refine Gb (fun h1=>?_) fun h1=>?_
 ·
  refine Gc ?_;refine ag (fo rfl) ?_;refine ak ?_;refine Gr fun w1 hw=>?_;exact⟨(by obtain⟨e1,e2⟩:=Dg (s:=s) oM (aaW h1);rw[e1,e2]),ai.mem hw⟩
 refine au ?_;refine dm (bV rfl oM) ?_;refine Gs ?_;refine ag (aL (v:= .agg (bF (lK ((dq 47 s).1)))) rfl rfl) ?_;refine ag (aL (v:= .int .i64 ((gC ((dq 47 s).1)):Nat)) rfl rfl) ?_;refine ag (aL (v:= .int .i64 (j9 ((dq 47 s).1))) rfl rfl) ?_;refine bj fun b7=>?_;refine cw ?_;refine Gb (fun h2=>?_) fun h2=>?_
 ·
  refine Gc ?_;refine ag (fo rfl) ?_;refine ak ?_;refine Gr fun w1 hw=>?_;exact⟨(by obtain⟨e1,e2⟩:=Dg (s:=s) oM (by rw[Df h1];exact aa7 oM oM);rw[e1,e2]),ai.mem hw⟩
 have hr:j9 (dq 47 s).1=0:=by omega
 obtain⟨_,hm⟩:=HD oM hr;refine ak ?_;refine dm (bV rfl ⟨by omega,by omega⟩) ?_;refine Gs ?_;refine ag (aL (v:= .int .i64 (((cq ((dq 47 s).2.1) (gC ((dq 47 s).1))).getD 0):Nat)) rfl rfl) ?_;refine ag (aL (v:= .bool ((cq ((dq 47 s).2.1) (gC ((dq 47 s).1))).isSome)) rfl rfl) ?_;refine aS ?_;refine Gb (fun h3=>?_) fun h3=>?_
 ·
  refine Gc ?_;refine ag (fo rfl) ?_;refine ak ?_;refine Gr fun w1 hw=>?_;exact⟨(by obtain⟨e1,e2⟩:=Dg (s:=s) oM (by rw[Df h1];exact aa9 oM hr h3);rw[e1,e2]),ai.mem hw⟩
 refine aq ?_;refine ag (fo rfl) ?_;refine bj fun mv=>?_;refine aS ?_;refine Gb (fun h4=>?_) fun h4=>?_
 ·
  refine Gc ?_;refine ag (fo rfl) ?_;refine ak ?_;refine Gr fun w1 hw=>?_;exact⟨(by obtain⟨e1,e2⟩:=Dg (s:=s) oM (by rw[Df h1,Om oM hr h3,h4];rfl);rw[e1,e2]),ai.mem hw⟩
 refine aK ?_;refine Gr fun w1 hw=>?_;exact⟨(by obtain⟨e1,e2⟩:=aa2 (s:=s) (p:=(⟨((gC (dq 47 s).1:Nat):Int),(((cq (dq 47 s).2.1 (gC (dq 47 s).1)).getD 0:Nat):Int),lK (dq 47 s).1⟩:cc)) oM (by rw[Df h1,Om oM hr h3,if_pos h4]);rw[e1,e2]),ai.mem hw⟩
variable {w0:World}{L:List ah}
instance ak4{s:List UInt8}[tb:kz w0]:bO Tryz.prog 116 w0 L [.string ⟨s.toArray⟩] (.tuple #[.agg (cA (oJ s)), .int .i64 (my s)]) (s.length<=1000000000):=⟨fun hp w hw=>abe w (tb:=tb.at hw) s hp⟩
theorem abf(w:World)[tb:kz w](s:List UInt8)(aP:s.length<=1000000000):Calls Tryz.prog 50 #[.string ⟨s.toArray⟩] w fun e w'=>e= .returned (.tuple #[.agg (av (nR s)), .int .i64 (qS s)])/\Mem w [] w':=by
 obtain⟨hca,oz⟩:=Ol 32 s;refine bS Tryz.func50 rfl Tryz.ntmps50 rfl ?_;refine Gc ?_;refine bj fun b2=>?_;refine ak ?_;refine ag (oW (s:=s) Tryz.underlying9 rfl) ?_;refine au ?_;refine Gb (fun h0=>?_) fun h0=>?_
 ·
  refine Gc ?_;refine ag (fo rfl) ?_;refine ak ?_;refine Gr fun w1 hw=>?_;exact⟨(by obtain⟨e1,e2⟩:=aa5 (s:=s) oM;rw[e1,e2]),ai.mem hw⟩
 refine au ?_;refine dm (bV rfl oM) ?_;refine Gs ?_;refine ag (aL (v:= .string ⟨((dq 32 s).1).toArray⟩) rfl rfl) ?_;refine ag (aL (v:= .string ⟨((dq 32 s).2.1).toArray⟩) rfl rfl) ?_;refine ag (aL (v:= .bool ((dq 32 s).2.2)) rfl rfl) ?_;refine cw ?_;refine Gb (fun h1=>?_) fun h1=>?_
 ·
  refine Gc ?_;refine ag (fo rfl) ?_;refine ak ?_;refine Gr fun w1 hw=>?_;exact⟨(by obtain⟨e1,e2⟩:=HE (s:=s) oM (aaY h1);rw[e1,e2]),ai.mem hw⟩
 refine au ?_;refine dm (bV rfl oM) ?_;refine Gs ?_;refine ag (aL (v:= .agg (cA (oJ ((dq 32 s).1)))) rfl rfl) ?_;refine ag (aL (v:= .int .i64 (my ((dq 32 s).1))) rfl rfl) ?_;refine bj fun b7=>?_;refine aS ?_;refine Gb (fun h2=>?_) fun h2=>?_
 ·
  refine Gc ?_;refine ag (fo rfl) ?_;refine ak ?_;refine Gr fun w1 hw=>?_;exact⟨(by obtain⟨e1,e2⟩:=HE (s:=s) oM (by rw[HC h1];exact aba oM oM);rw[e1,e2]),ai.mem hw⟩
 refine au ?_;refine dm (bV (vs:=[_, .int .i64 ((65535:Nat):Int)]) rfl ⟨by omega,by omega⟩) ?_;refine Gs ?_;refine ag (aL (v:= .int .i64 (((cq ((dq 32 s).2.1) 65535).getD 0):Nat)) rfl rfl) ?_;refine ag (aL (v:= .bool ((cq ((dq 32 s).2.1) 65535).isSome)) rfl rfl) ?_;refine aS ?_;refine Gb (fun h3=>?_) fun h3=>?_
 ·
  refine Gc ?_;refine ag (fo rfl) ?_;refine ak ?_;refine Gr fun w1 hw=>?_;exact⟨(by obtain⟨e1,e2⟩:=HE (s:=s) oM (by rw[HC h1];exact abb (by simpa using h3));rw[e1,e2]),ai.mem hw⟩
 obtain⟨m,hm⟩:=Option.isSome_iff_exists.1 h3;have XD:=(jQ.1 hm).2;refine ak ?_;refine ag (Ry.as (v':= .int .u16 (((UInt16.ofNat ((cq (dq 32 s).2.1 65535).getD 0)).toNat:Nat):Int)) (kc rfl (by have:=On (dq 32 s).2.1 65535;simp only[nb];omega)) (abd (On (dq 32 s).2.1 65535))) ?_;refine ag (fo rfl) ?_;refine ak ?_;refine Gr fun w1 hw=>?_;exact⟨(by obtain⟨e1,e2⟩:=aa6 (s:=s) oM ((HC h1).trans (abc oM oM hm));rw[e1,e2,hm];rfl),ai.mem hw⟩
instance ak5{s:List UInt8}[tb:kz w0]:bO Tryz.prog 50 w0 L [.string ⟨s.toArray⟩] (.tuple #[.agg (av (nR s)), .int .i64 (qS s)]) (s.length<=1000000000):=⟨fun hp w hw=>abf w (tb:=tb.at hw) s hp⟩
instance:dj Tryz.prog 225 (.agg (cP Nd.zero)):=⟨by kernel_rfl⟩
instance:dj Tryz.prog 221 (.agg (mP eO.no)):=⟨by kernel_rfl⟩
instance:dj Tryz.prog 124 (.agg (cN ⟨0,⟨Sv.none,[]⟩⟩)):=⟨by kernel_rfl⟩
instance:dj Tryz.prog 217 (.agg (cN ⟨0,⟨Sv.none,[]⟩⟩)):=⟨by kernel_rfl⟩
instance:dj Tryz.prog 3 (.int .i64 0):=⟨by kernel_rfl⟩
instance:nj Tryz.prog 225 [] (.agg (cP Nd.zero)):=⟨fun w=>by kernel_rfl⟩
instance (n:Int)(h:UInt16):nj Tryz.prog 221 [(0, .int .i64 n),(1, .int .u16 h.toNat)] (.agg (mP ⟨n,h⟩)):=⟨fun w=>by kernel_rfl⟩
instance:nj Tryz.prog 124 [] (.agg (cN ⟨0,⟨Sv.none,[]⟩⟩)):=⟨fun w=>by kernel_rfl⟩
theorem abg(n:Int)(s:Sv)(xs:List Nd)(w:World):(Instr.build 124 #[(0, .int .i64 n),(1,s.val)]).run Tryz.prog w= .ok (.agg (cN ⟨n,⟨s,xs⟩⟩)) w:=by
 unfold cN;obtain⟨e,b,o,l,c,p⟩:=s
 cases e<;>kernel_rfl
instance (t:gP):nj Tryz.prog 217 [(0, .agg (cN t))] (.agg (cN t)):=⟨fun w=>by
 obtain⟨n,⟨⟨e,b,o,l,c,p⟩,xs⟩⟩:=t;unfold cN
 cases e<;>kernel_rfl⟩
theorem abh(w:World)(b:Int):Calls Tryz.prog 122 #[.int .i64 b] w fun e w'=>e= .returned (.bool (decide (b=32)||decide (b=128)))/\Mem w [] w':=by
 refine bS Tryz.func122 rfl Tryz.ntmps122 rfl ?_;refine k7 ?_;refine Gr fun w1 hw=>?_;exact⟨rfl,ai.mem hw⟩
instance ak6{b:Int}:bO Tryz.prog 122 w0 L [.int .i64 b] (.bool (decide (b=32)||decide (b=128))) (True):=⟨fun hp w hw=>abh w b⟩
theorem abi(w0 w:World)(L:List ah)(B:Nat)(T:TypeId)(bits:Int)(s:Sv)(ns:List Nd)(node:Nat)(four:Int)(hw:Mem w0 (an B (cN ⟨bits,⟨s,[]⟩⟩) T::own cP 48 s ns::L) w)(aP:node<ns.length/\0<=four/\four<16/\ns.length<=512):Calls Tryz.prog 197 #[.pointer (some ⟨B,0,none⟩), .int .i64 (node:Nat), .int .i64 four] w fun e w'=> ∃U:Sv,e= .returned (.tuple #[.int .i64 (rB ns node four.toNat), .bool (rA ns node four.toNat)])/\(True)/\Mem w0 (an B (cN ⟨bits,⟨U,[]⟩⟩) T::own cP 48 U (rC ns node four.toNat)::L) w':=by
 obtain⟨fh,fQ,jC,Dh⟩:=aP;refine iA (args:=[_,_,_]) Tryz.func197 rfl Tryz.ntmps197 rfl hw ?_;change Cw _ _ _ _ _ [(0, .pointer (some ⟨B,0,none⟩)),(1, .int .i64 (node:Nat)),(2, .int .i64 four)] (an B (cN ⟨bits,⟨s,[]⟩⟩) T::own cP 48 s ns::L);refine k7 ?_;obtain⟨n,hn⟩:=get_some (xs:=ns) (i:=node) oM;refine ag (aR rfl rfl node rfl oM) ?_;have en:ns.getD node Nd.zero=n:=by simp[List.getD,hn]
 refine ag (aN rfl rfl) ?_;refine ag (sN rfl rfl oM oM) ?_;refine ag (KD rfl node hn ((four).toNat) oM (by simp only[Nat.add_eq,Int.toNat_natCast,Nat.mul_one,Nat.zero_add,Nat.add_zero]<;>omega)) ?_;refine aK ?_;refine Gb (fun h0=>?_) fun h0=>?_
 ·
  refine aK ?_;refine Gr fun w1 hw=>?_;exact⟨s,by rw[rB,rA,en,if_pos h0,decide_eq_true h0];rfl,trivial,by rw[rC,en,if_pos (.inl h0)];exact ai.mem hw⟩
 refine fc ?_;refine Gb (fun h1=>?_) fun h1=>?_
 ·
  refine aq ?_;refine Gr fun w1 hw=>?_;exact⟨s,by rw[rB,rA,en,if_neg h0,if_pos oM,decide_eq_false h0,decide_eq_false oM];rfl,trivial,by rw[rC,en,if_pos (.inr oM)];exact ai.mem hw⟩
 refine cw ?_;refine ag (fo rfl) ?_;refine kx (enc:=cP) (vals:=[_]) [Nd.zero] rfl rfl rfl (by decide) (by decide) fun Oo=>?_;refine iS (s:=s) (ys:=[Nd.zero]) rfl rfl (by decide) (fun w hw=>gM (s:=⟨false,Oo,0,1,1,none⟩) Tryz.underlying122 (by decide) ((inferInstance:Hd _ _ ⟨false,Oo,0,1,1,none⟩ cP 48 [Nd.zero]).h w hw)) (by simp only[List.length_append,List.length_cons,List.length_nil];omega) (by simp only[List.length_append,List.length_cons,List.length_nil];omega) fun Di HF HG=>?_;refine ak ?_;refine dw (cs':=cN (⟨bits,⟨Di,[]⟩⟩:gP)) rfl rfl (by show 1<2;decide) (by first|rfl|exact Sv.one _) rfl ?_;refine iW ?_;have hm:(ns++[Nd.zero])[node]? =some n:=by rw[List.getElem?_append_left fh];exact hn
 have aW:node<Di.len:=by rw[HG,List.length_append];omega
 refine gF [17] [[],[],[],[],[],[],[],[],[],[],[],[],[],[],[],[],[],[]] [0,1,2,3,4,5,6,7,8,9,10,11,12,13,14,15,16,17] [an B (cN ⟨bits,⟨Di,[]⟩⟩) T] (fun _ hw=>ai.mem hw) oK oK ?_;refine al rfl (aZ rfl) ?_;refine al rfl (gO rfl) ?_;refine al rfl (aN (o':=0) rfl rfl) ?_;refine al rfl (aN (o':=1) rfl rfl) ?_;refine al rfl (bN rfl) ?_;refine al rfl (aZ rfl) ?_;refine al rfl (aZ rfl) ?_;refine al rfl (aZ rfl) ?_;refine al rfl (gO rfl) ?_;refine al rfl (aN (o':=0) rfl rfl) ?_;refine al rfl (aN (o':=1) rfl rfl) ?_;refine al rfl (bN rfl) ?_;refine al rfl (uF rfl HF (HG.trans (by simp:_=ns.length+1))) ?_;refine al rfl (wc rfl rfl oM) ?_;obtain⟨e56,ak7⟩:=get_some (xs:=(ns++[Nd.zero])) (i:=node) oM;refine al rfl (kT rfl rfl rfl HF aW) ?_;refine al rfl (aN rfl rfl) ?_;refine al rfl (sN rfl rfl oM oM) ?_;refine cY rfl (VY rfl rfl hm ((four).toNat) oM (by simp only[Nat.add_eq,Int.toNat_natCast,Nat.mul_one,Nat.zero_add,Nat.add_zero]<;>omega) ⟨fun _ hw=>ai.mem hw,?_⟩);refine aS ?_;refine ag (uF rfl HF (HG.trans (by simp:_=ns.length+1))) ?_;refine aq ?_;refine Gr fun w1 hw=>?_;exact⟨Di,by rw[rB,rA,en,if_neg h0,if_neg oM,decide_eq_true (show ns.length<512 by omega)];simp,trivial,by rw[rC,en,if_neg oM];have:=hw.sub (List.sublist_cons_self _ _);simpa using this⟩
instance ak8{w0:World}{L R1 L2:List ah}{i j:Nat}{B:Nat}{T:TypeId}{bits:Int}{s:Sv}{ns:List Nd}{node:Nat}{four:Int}[h:Has L B (cN ⟨bits,⟨s,[]⟩⟩) T i][d1:cI L i R1][q:dN R1 s cP 48 ns j][d2:cI R1 j L2]:bJ Tryz.prog 197 w0 L [.pointer (some ⟨B,0,none⟩), .int .i64 (node:Nat), .int .i64 four] (Sv) (fun U=> .tuple #[.int .i64 (rB ns node four.toNat), .bool (rA ns node four.toNat)]) (fun U=>an B (cN ⟨bits,⟨U,[]⟩⟩) T::own cP 48 U (rC ns node four.toNat)::L2) (fun U=>True) (node<ns.length/\0<=four/\four<16/\ns.length<=512):=⟨fun hp w hw=>abi w0 w L2 B T bits s ns node four (pJ h.h d1.h q.h d2.h hw) hp⟩
theorem abj(w0 w:World)(L:List ah)(B:Nat)(T:TypeId)(bits:Int)(s:Sv)(W:List Wy)(R:List Rt)(r:Rt)(hw:Mem w0 (an B (cN ⟨bits,⟨s,[]⟩⟩) T::own cP 48 s (nodes bits W R)::L) w)(aP:cU r.p=true/\r.p.bits=bits/\gw W/\rz bits W R/\W.length<=512):Calls Tryz.prog 123 #[.pointer (some ⟨B,0,none⟩), .agg (av r)] w fun e w'=> ∃U:Sv×List Nd,e= .returned (.bool (decide ((cV W r.p (br r.p)).length<=512)))/\((cV W r.p (br r.p)).length<=512->U.2=nodes bits (cV W r.p (br r.p)) (R++[r]))/\Mem w0 (an B (cN ⟨bits,⟨U.1,[]⟩⟩) T::own cP 48 U.1 U.2::L) w':=by
 obtain⟨fh,fQ,jC,Dh,CK⟩:=aP;obtain⟨Dz,AE,hq3,hq4⟩:=(wE r.p).1 fh;have aW:=BK fh;have lT:=Kw fh;have HH:=zd r.p.key (br r.p);have aY:=zg fh;have G2:=SD AE oM;refine iA (args:=[_,_]) Tryz.func123 rfl Tryz.ntmps123 rfl hw ?_;change Cw _ _ _ _ _ [(0, .pointer (some ⟨B,0,none⟩)),(1, .agg (av r))] (an B (cN ⟨bits,⟨s,[]⟩⟩) T::own cP 48 s (nodes bits W R)::L);refine Gc ?_;refine bM rfl fun b3=>?_;refine aS ?_;refine ag (c2 rfl rfl (by rw[jK,if_neg (by decide),wrap64_in oM])) ?_;refine ag (Ry.to (sO rfl rfl) (by rw[SC AE])) ?_;refine cw ?_;refine bA (X:=Nat×Sv) (fun U=>[(21, .int .i64 (U.1:Nat)),(6, .int .i64 (((cV W r.p U.1).idxOf (cx r.p.key U.1)):Nat)),(0, .pointer (some ⟨B,0,none⟩)),(3, .pointer (some ⟨b3,0,none⟩)),(5, .int .i64 (br r.p:Nat)),(20, .int .i64 (br r.p:Nat))]) (fun U=>an B (cN ⟨bits,⟨U.2,[]⟩⟩) T::own cP 48 U.2 (nodes bits (cV W r.p U.1) R)::an b3 (av r) 34::L) (fun U=>U.1<=br r.p/\(cV W r.p U.1).length<=512) (fun U=>br r.p -U.1) (0,s) ⟨Nat.zero_le _,CK⟩ (Sub.cons rfl (Sub.cons (look_eq rfl (by rw[wR,EZ,E5 jC.nodup jC.root];rfl)) sb)) (fun w hw=>(ai.mem hw:Mem _ (an B (cN ⟨bits,⟨s,[]⟩⟩) T::own cP 48 s (nodes bits W R)::an b3 (av r) 34::L) _)) ?_;rintro⟨i,s1⟩ ⟨aT,az⟩;dsimp only;simp only at aT az;have sE:=jC.add (p:=r.p) (n:=i) oM;have te:=Kr (KA jC r.p i);have dI:=Sn (KA jC r.p i);have hk:=rv r.p.key i;have ak9:=zd r.p.key i;refine ak ?_;refine Gb (fun h0=>?_) fun h0=>?_
 ·
  refine dr ?_;refine ag (gD rfl) ?_;refine au ?_;refine bf rfl ⟨by rw[wU];exact dI,by omega,by omega,by rw[wU];exact az⟩ fun aw ub=>?_;have ho:rA (nodes bits (cV W r.p i) R) ((cV W r.p i).idxOf (cx r.p.key i)) (gv r.p.key i).toNat=decide ((cV W r.p (i+1)).length<=512):=by have:=Sr sE (R:=R) (bits:=bits) te hk az;rw[BI _ _ oM,←ru]at this;exact this
  refine Gs ?_;refine ag (aL (v:= .int .i64 (rB (nodes bits (cV W r.p i) R) ((cV W r.p i).idxOf (cx r.p.key i)) (gv r.p.key ((i:Nat):Int)).toNat)) rfl rfl) ?_;refine ag (aL (v:= .bool (rA (nodes bits (cV W r.p i) R) ((cV W r.p i).idxOf (cx r.p.key i)) (gv r.p.key ((i:Nat):Int)).toNat)) rfl rfl) ?_;refine aS ?_;refine Gb (fun h1=>?_) fun h1=>?_
  ·
   refine ak ?_;refine Gr fun w1 hw=>?_;have nM: ¬(cV W r.p (br r.p)).length<=512:=by
    have h5:=(Sk (W:=W) (p:=r.p) (show i+1<=br r.p by omega)).length_le;have h6: ¬(cV W r.p (i+1)).length<=512:=by simpa[ho]using h1
    omega
   exact⟨(aw,rC (nodes bits (cV W r.p i) R) ((cV W r.p i).idxOf (cx r.p.key i)) (gv r.p.key i).toNat),by rw[decide_eq_false nM],fun h=>absurd h nM,ai.mem hw⟩
  refine aS ?_;refine Gi ?_;have qa:(cV W r.p (i+1)).length<=512:=by simpa[ho]using h1
  have vS:=qa;rw[ru,←BI _ _ oM]at vS;have vF:rC (nodes bits (cV W r.p i) R) ((cV W r.p i).idxOf (cx r.p.key i)) (eY r.p.key i)=nodes bits (cV W r.p (i+1)) R:=by rw[St sE te hk (by show i<31;omega) (Dh.mono (BJ _)) vS,BI _ _ oM,←ru]
  have NJ:rB (nodes bits (cV W r.p i) R) ((cV W r.p i).idxOf (cx r.p.key i)) (gv r.p.key i).toNat=(((cV W r.p (i+1)).idxOf (cx r.p.key (i+1)):Nat):Int):=by have:=Ss sE (R:=R) (bits:=bits) te hk vS;rw[BI _ _ oM,←ru]at this;exact this
  unfold eY at vF;exact aV (x:=(i,s1)) (i+1,aw) ⟨oF,by simpa[ho]using h1⟩ (by simp only;omega) (Sub.cons rfl (Sub.cons (look_eq rfl (by rw[NJ])) sb)) (fun w hw=>by rw[vF]at hw;exact ai.mem hw)
 obtain rfl:i=br r.p:=by omega
 refine ak ?_;refine ag (gD rfl) ?_;refine dr ?_;refine ag (oP rfl rfl oM) ?_;refine au ?_;refine ag (Ry.to (AN rfl rfl oM) (by rw[VW fh])) ?_;refine aK ?_;refine bA (X:=Nat) (fun U=>[(12, .int .i64 (U:Nat)),(0, .pointer (some ⟨B,0,none⟩)),(3, .pointer (some ⟨b3,0,none⟩)),(6, .int .i64 (((cV W r.p (br r.p)).idxOf (cx r.p.key (br r.p))):Nat)),(10, .int .i64 (gv r.p.key ((br r.p:Nat):Int))),(11, .int .i64 (2^jS r.p:Nat))]) (fun U=>an B (cN ⟨bits,⟨s1,[]⟩⟩) T::own cP 48 s1 (lg bits (cV W r.p (br r.p)) R r U)::an b3 (av r) 34::L) (fun U=>eY r.p.key (br r.p)<=U/\U<=eY r.p.key (br r.p)+2^jS r.p) (fun U=>eY r.p.key (br r.p)+2^jS r.p -U) (eY r.p.key (br r.p)) ⟨Nat.le_refl _,Nat.le_add_right _ _⟩ (Sub.cons (look_eq rfl (by rw[HH])) sb) (fun w hw=>by rw[Sy sE fh fQ];exact ai.mem hw) ?_;rintro f ⟨ti,jq⟩;refine cw ?_;refine Gb (fun h2=>?_) fun h2=>?_
 ·
  refine dr ?_;obtain⟨n,hn⟩:=get_some (xs:=(lg bits (cV W r.p (br r.p)) R r f)) (i:=((cV W r.p (br r.p)).idxOf (cx r.p.key (br r.p)))) (by rw[Ky];exact dI);refine ag (aR rfl rfl ((cV W r.p (br r.p)).idxOf (cx r.p.key (br r.p))) rfl (by rw[Ky];exact dI)) ?_;refine ag (aN rfl rfl) ?_;refine ag (sN rfl rfl oM oM) ?_;refine au ?_;refine fH oK oK ?_;refine au ?_;refine bu (aN rfl rfl) ?_;refine bu (SO rfl ((cV W r.p (br r.p)).idxOf (cx r.p.key (br r.p))) hn f oM (by simp only[Nat.add_eq,Int.toNat_natCast,Nat.mul_one,Nat.zero_add,Nat.add_zero]<;>omega)) ?_;refine aK ?_;refine Gb (fun h3=>?_) fun h3=>?_
  ·
   refine Gi ?_;refine cw ?_;refine ag (fo rfl) ?_;refine Gs ?_;refine SS rfl rfl hn f oM (by simp only[Nat.add_eq,Int.toNat_natCast,Nat.mul_one,Nat.zero_add,Nat.add_zero]<;>omega) ?_;refine aq ?_;refine Gi ?_;have kA:(kB bits R (cx r.p.key (br r.p)) f).len<=r.p.len:=by rw[←Kz te oM hn];exact h3
   exact aV (x:=(f)) (f+1) ⟨oF,oF⟩ oF sb (fun w hw=>by rw[SB sE fh fQ te hn ti oM kA]at hw;exact ai.mem hw)
  refine aq ?_;refine Gi ?_;have kA: ¬(kB bits R (cx r.p.key (br r.p)) f).len<=r.p.len:=by rw[←Kz te oM hn];exact h3
  exact aV (x:=(f)) (f+1) ⟨oF,oF⟩ oF sb (fun w hw=>by rw[SA sE kA];exact ai.mem hw)
 obtain rfl:f=eY r.p.key (br r.p)+2^jS r.p:=by omega
 refine ak ?_;refine Gr fun w1 hw=>?_;exact⟨(s1,lg bits (cV W r.p (br r.p)) R r (eY r.p.key (br r.p)+2^jS r.p)),by rw[decide_eq_true az],fun _=>Sz sE fh fQ,ai.mem hw⟩
instance ala{w0:World}{L R1 L2:List ah}{i j:Nat}{B:Nat}{T:TypeId}{bits:Int}{s:Sv}{W:List Wy}{R:List Rt}{r:Rt}[h:Has L B (cN ⟨bits,⟨s,[]⟩⟩) T i][d1:cI L i R1][q:dN R1 s cP 48 (nodes bits W R) j][d2:cI R1 j L2]:bJ Tryz.prog 123 w0 L [.pointer (some ⟨B,0,none⟩), .agg (av r)] (Sv×List Nd) (fun U=> .bool (decide ((cV W r.p (br r.p)).length<=512))) (fun U=>an B (cN ⟨bits,⟨U.1,[]⟩⟩) T::own cP 48 U.1 U.2::L2) (fun U=>(cV W r.p (br r.p)).length<=512->U.2=nodes bits (cV W r.p (br r.p)) (R++[r])) (cU r.p=true/\r.p.bits=bits/\gw W/\rz bits W R/\W.length<=512):=⟨fun hp w hw=>abj w0 w L2 B T bits s W R r (pJ h.h d1.h q.h d2.h hw) hp⟩
theorem abk(w:World)(t:Sv)(ts:List Rt)(bits:Int)(ht:bI av 19 (hp w) t ts):Calls Tryz.prog 55 #[t.val, .int .i64 bits] w fun e w'=> ∃U:gP,e= .returned (.tuple #[.agg (cN U), .int .i64 (lh ts bits)])/\(U.bits=pk ts bits/\U.ns.xs=pn ts bits)/\Mem w [Deep.bE U] w':=by
 have qM:Gv w t av 19 ts:=⟨ht⟩;refine cl Tryz.func55 rfl Tryz.ntmps55 rfl ?_;refine Gc ?_;refine bj fun b4=>?_;refine cw ?_;refine bp rfl rfl rfl (fun hg=>bV (di (ay hg rfl) fF) trivial) ?_;refine bp rfl rfl rfl (fun hg=>(Ry.yl (jJ (ay hg rfl)))) ?_;refine au ?_;refine Gb (fun h0=>?_) fun h0=>?_
 ·
  have hc: ¬(fb ts=true/\(bits=32\/bits=128)):=by rintro⟨h1,h2⟩;rcases h2 with h2|h2<;>simp[h1,h2]at h0
  obtain⟨u9,ob,Am⟩:=SH hc;refine Gc ?_;refine ag (fo rfl) ?_;refine ak ?_;refine Gr fun w1 hw=>?_;exact⟨(⟨0,⟨Sv.none,[]⟩⟩:gP),by rw[u9],⟨ob.symm,Am.symm⟩,Mem.wz (τ:=Nd) (enc:=cP) (c:=48) (ai.mem hw:Mem w [] _)⟩
 have hc:fb ts=true/\(bits=32\/bits=128):=by simpa using h0
 have hlen:=Fa hc.1;refine au ?_;refine qb (enc:=cP) (n:=1) (cap:=1) Nd.zero rfl rfl rfl rfl rfl oM oM oM fun jD=>?_;refine ag (cy (v:= .agg (cN ⟨bits,⟨⟨false,jD,0,1,1,none⟩,[]⟩⟩)) rfl (abg bits _ [])) ?_;refine ag (fo rfl) ?_;refine bj fun b6=>?_;refine aS ?_;refine bA (X:=Nat×Sv) (fun U=>[(24, .int .i64 (U.1:Nat)),(6, .pointer (some ⟨b6,0,none⟩)),(1, .int .i64 bits),(4, .pointer (some ⟨b4,0,none⟩)),(22,t.val),(23, .int .i64 (ts.length:Nat))]) (fun U=>[an b6 (cN ⟨bits,⟨U.2,[]⟩⟩) 217,own cP 48 U.2 (nodes bits (jv bits (ts.take U.1)) (ts.take U.1)),an b4 (cN (⟨0,⟨Sv.none,[]⟩⟩:gP)) 124]) (fun U=>U.1<=ts.length/\(jv bits (ts.take U.1)).length<=512) (fun U=>ts.length -U.1) (0,⟨false,jD,0,1,1,none⟩) ⟨Nat.zero_le _,(by decide:[root].length<=512)⟩ sb (fun w hw=>by rw[show List.replicate 1 Nd.zero=nodes bits [root] []from(SG bits).symm]at hw;exact(ai.mem hw:Mem _ [an b6 (cN ⟨bits,⟨⟨false,jD,0,1,1,none⟩,[]⟩⟩) 217,own cP 48 ⟨false,jD,0,1,1,none⟩ (nodes bits [root] []),an b4 (cN (⟨0,⟨Sv.none,[]⟩⟩:gP)) 124] _)) ?_;rintro⟨i,s1⟩ ⟨aT,az⟩;dsimp only;simp only at aT az;refine ak ?_;refine Gb (fun h1=>?_) fun h1=>?_
 ·
  refine k8 ?_;obtain⟨ya,sF⟩:=get_some (xs:=ts) (i:=i) oM;refine ag (aR rfl rfl i rfl oM) ?_;refine ag (dO rfl i sF rfl) ?_;refine bj fun b8=>?_;refine dr ?_;refine Gb (fun h2=>?_) fun h2=>?_
  ·
   refine ak ?_;refine Gi ?_;have tk:ts.take (i+1)=ts.take i++[ya]:=by obtain⟨hl,rfl⟩:=List.getElem?_eq_some_iff.1 sF;exact List.take_succ_eq_append_getElem hl
   exact aV (x:=(i,s1)) (i+1,s1) ⟨oF,by rw[zh sF,k9,if_neg h2];exact az⟩ (by simp only;omega) sb (fun w hw=>by rw[zh sF,k9,if_neg h2,tk,SF h2];exact ai.mem hw)
  have hme:=KB hc.1 (List.mem_of_getElem? sF);have sE:gw (jv bits (ts.take i)):=Sm fun x hx=>KB hc.1 (List.mem_of_mem_take hx);refine au ?_;refine bf rfl ⟨hme,h2,sE,E9 i ts,az⟩ fun ik vM=>?_;refine au ?_;refine Gb (fun h3=>?_) fun h3=>?_
  ·
   have nM: ¬(jv bits ts).length<=512:=fun h=>by have h5:=(SE (bits:=bits) (t:=ts) (show i+1<=ts.length by omega)).length_le;rw[List.take_length,zh sF,k9,if_pos h2]at h5;omega
   obtain⟨u9,ob,Am⟩:=SI hc nM;refine Gc ?_;refine ag (fo rfl) ?_;refine ak ?_;refine Gr fun w1 hw=>?_;exact⟨(⟨0,⟨Sv.none,[]⟩⟩:gP),by rw[u9],⟨ob.symm,Am.symm⟩,Mem.wz (τ:=Nd) (enc:=cP) (c:=48) (ai.mem hw:Mem w [] _)⟩
  refine ak ?_;refine Gi ?_;have tk:ts.take (i+1)=ts.take i++[ya]:=by obtain⟨hl,rfl⟩:=List.getElem?_eq_some_iff.1 sF;exact List.take_succ_eq_append_getElem hl
  have bZ:=h3;exact aV (x:=(i,s1)) (i+1,ik.1) ⟨oF,by rw[zh sF,k9,if_pos h2];exact bZ⟩ (by simp only;omega) sb (fun w hw=>by rw[zh sF,k9,if_pos h2,tk,←vM bZ];exact ai.mem hw)
 refine au ?_;refine ag (gD rfl) ?_;refine ak ?_;refine Gr fun w1 hw=>?_;obtain rfl:i=ts.length:=by omega
 rw[List.take_length]at az hw;obtain⟨u9,ob,Am⟩:=SJ hc az;exact⟨⟨bits,⟨s1,nodes bits (jv bits ts) ts⟩⟩,by rw[u9];rfl,⟨ob.symm,Am.symm⟩,(Tr.A2 (a:=(⟨s1,nodes bits (jv bits ts) ts⟩:Sl Nd))).mem (ai.mem hw)⟩
instance alb{t:Sv}{ts:List Rt}{bits:Int}[ht:cz w0 L av 19 t ts]:bJ Tryz.prog 55 w0 L [t.val, .int .i64 bits] (gP) (fun U=> .tuple #[.agg (cN U), .int .i64 (lh ts bits)]) (fun U=>Deep.bE U::L) (fun U=>U.bits=pk ts bits/\U.ns.xs=pn ts bits) (True):=⟨fun hp w hw=>(abk w t ts bits (ht.h w hw)).mono fun e w' ⟨x,h1,h2,h3⟩=>⟨x,h1,h2,hw.call h3⟩⟩
theorem abl(w:World)(t:gP)(ht:Deep.aU (hp w) t):Calls Tryz.prog 237 #[.agg (cN t)] w fun e w'=> ∃U:Sv,e= .returned (U.val)/\(U.nil=(ig t.bits t.ns.xs).isNone)/\Mem w [own bl 1 U ((ig t.bits t.ns.xs).getD [])] w':=by
 have qM:bQ w t:=⟨ht⟩;have gQ:=ht.1.bd;refine bS Tryz.func237 rfl Tryz.ntmps237 rfl ?_;refine Gc ?_;refine bM rfl fun b1=>?_;refine Rz ?_;refine Gb (fun h0=>?_) fun h0=>?_
 ·
  have hv:ig t.bits t.ns.xs=none:=by rw[ig,if_neg];omega
  refine ak ?_;refine Gr fun w1 hw=>?_;exact⟨Sv.none,rfl,by rw[hv];rfl,by rw[hv];exact Mem.cR bl 1 (ai.mem hw:Mem w [] _)⟩
 have hb:t.bits=32\/t.bits=128:=by omega
 have qa:1<=t.ns.xs.length:=by omega
 have vS:t.ns.xs.length<=512:=by omega
 have Oq:ig t.bits t.ns.xs=je t.bits t.ns.xs t.ns.xs.length:=by rw[ig,if_pos ⟨hb,qa,vS⟩]
 refine aq ?_;refine qb (enc:=bl) (n:=t.ns.xs.length) (cap:=t.ns.xs.length) (0:Int) rfl rfl rfl rfl rfl oM oM oM fun pK=>?_;refine ak ?_;obtain⟨z,hz⟩:=get_some (xs:=(List.replicate t.ns.xs.length (0:Int))) (i:=0) (by simp;omega);refine ag (aR rfl rfl 0 rfl (by simp;omega)) ?_;refine KE rfl rfl hz rfl ?_;refine aS ?_;refine bA (X:=Nat×List Int) (fun U=>[(34, .int .i64 (U.1:Nat)),(3,(⟨false,pK,0,t.ns.xs.length,t.ns.xs.length,none⟩:Sv).val),(1, .pointer (some ⟨b1,0,none⟩)),(32,t.ns.sv.val),(33, .int .i64 (t.ns.xs.length:Nat))]) (fun U=>[own bl 1 ⟨false,pK,0,t.ns.xs.length,t.ns.xs.length,none⟩ U.2,an b1 (cN t) 124]) (fun U=>U.1<=t.ns.xs.length/\je t.bits t.ns.xs U.1=some U.2/\U.2.length=t.ns.xs.length/\(∀y∈U.2,0<=y/\y<=33)) (fun U=>t.ns.xs.length -U.1) (0,(List.replicate t.ns.xs.length 0).set 0 1) ⟨Nat.zero_le _,rfl,by simp,fun y hy=>by rcases List.mem_or_eq_of_mem_set hy with h|h;rw[List.eq_of_mem_replicate h];omega;omega⟩ sb (fun w hw=>ai.mem hw) ?_
 rintro⟨i,a⟩ ⟨hi,hs,ha,hy⟩;dsimp only;simp only at hi hs ha hy;refine ak ?_;refine Gb (fun h1=>?_) fun h1=>?_
 ·
  refine au ?_;obtain⟨n,hn⟩:=get_some (xs:=t.ns.xs) (i:=i) oM;refine ag (aR rfl rfl i rfl oM) ?_;refine ag (dO rfl i hn rfl) ?_;refine bj fun b5=>?_;refine ak ?_;refine fH oK oK ?_;refine au ?_;obtain⟨x,hx⟩:=get_some (xs:=a) (i:=i) oM;refine bu (aR rfl rfl i rfl oM) ?_;have hxr:=hy x (List.mem_of_getElem? hx);refine bu (bw (j:=0) rfl i hx rfl (by decide)) ?_;refine aq ?_;refine eV rfl rfl rfl (fun hg=>(Ry.yl (aR (ay hg rfl) (ay hg rfl) i rfl oM))) ?_;refine eV rfl rfl rfl (fun hg=>(Ry.yl (bw (j:=0) (ay hg rfl) i hx rfl (by decide)))) ?_;refine au ?_;refine eV rfl rfl rfl (fun hg=>(Ry.yl (kb (ay hg rfl) rfl (by simp only[Z0,Z1,Z2,Z3,Z4,Z5,Z6,Z7,Z8,Z9]at hg;omega) (by simp only[Z0,Z1,Z2,Z3,Z4,Z5,Z6,Z7,Z8,Z9]at hg;omega)))) ?_;refine ak ?_;refine Gb (fun h2=>?_) fun h2=>?_
  ·
   have hv:=UR oM hs (by rw[getD_some hx];omega);refine ak ?_;refine Gr fun w1 hw=>?_;exact⟨Sv.none,rfl,by rw[hv];rfl,by rw[hv];exact Mem.cR bl 1 (ai.mem hw:Mem w [] _)⟩
  have hxn: ¬(a.getD i 0=0\/t.bits/4<a.getD i 0):=by rw[getD_some hx];omega
  refine ak ?_;refine bA (X:=Nat×List Int) (fun U=>[(54, .int .i64 (U.1:Nat)),(3,(⟨false,pK,0,t.ns.xs.length,t.ns.xs.length,none⟩:Sv).val),(1, .pointer (some ⟨b1,0,none⟩)),(4, .int .i64 (i:Nat)),(5, .pointer (some ⟨b5,0,none⟩)),(32,t.ns.sv.val),(33, .int .i64 (t.ns.xs.length:Nat)),(34, .int .i64 (i:Nat))]) (fun U=>[own bl 1 ⟨false,pK,0,t.ns.xs.length,t.ns.xs.length,none⟩ U.2,an b5 (cP n) 225,an b1 (cN t) 124]) (fun U=>U.1<=16/\kj t.ns.xs.length i n U.1 a=some U.2/\U.2.length=t.ns.xs.length/\(∀y∈U.2,0<=y/\y<=33)/\U.2[i]? =some x) (fun U=>16 -U.1) (0,a) ⟨oF,rfl,ha,hy,hx⟩ sb (fun w hw=>ai.mem hw) ?_;rintro⟨b,a2⟩ ⟨mh,yb,Dj,vH,ib⟩;dsimp only;simp only at mh yb Dj vH ib;refine ak ?_;refine Gb (fun h3=>?_) fun h3=>?_
  ·
   refine aS ?_;refine ag (sN rfl rfl oM oM) ?_;refine ag (aN rfl rfl) ?_;refine ag (SR rfl b oM (by simp only[Nat.add_eq,Int.toNat_natCast,Nat.mul_one,Nat.zero_add,Nat.add_zero]<;>omega)) ?_;refine dr ?_;refine bp rfl rfl rfl (fun hg=>(Ry.yl (aR (ay hg rfl) (ay hg rfl) i rfl oM))) ?_;refine bp rfl rfl rfl (fun hg=>(Ry.yl (bw (j:=0) (ay hg rfl) i ib rfl (by decide)))) ?_;refine bp rfl rfl rfl (fun hg=>(Ry.yl (oP rfl (ay hg rfl) (by simp only[Z0,Z1,Z2,Z3,Z4,Z5,Z6,Z7,Z8,Z9]at hg;omega)))) ?_;refine bp rfl rfl rfl (fun hg=>(Ry.yl (yw (ay hg rfl) rfl (by simp only[Z0,Z1,Z2,Z3,Z4,Z5,Z6,Z7,Z8,Z9]at hg;omega)))) ?_;refine ak ?_;refine Gb (fun h4=>?_) fun h4=>?_
   ·
    have hv:=Mw oM hs hn (b:=b) oM yb (by rw[qE,getD_some ib,if_pos oM]);refine ak ?_;refine Gr fun w1 hw=>?_;exact⟨Sv.none,rfl,by rw[hv];rfl,by rw[hv];exact Mem.cR bl 1 (ai.mem hw:Mem w [] _)⟩
   refine ak ?_;refine ag (sN rfl rfl oM oM) ?_;refine ag (SQ rfl b oM (by simp only[Nat.add_eq,Int.toNat_natCast,Nat.mul_one,Nat.zero_add,Nat.add_zero]<;>omega)) ?_;refine aK ?_;refine Gb (fun h5=>?_) fun h5=>?_
   ·
    have ho:qE t.ns.xs.length i n b a2=some a2:=by rw[qE,getD_some ib,if_neg oM,if_pos h5]
    refine ak ?_;refine Gi ?_;exact aV (x:=(b,a2)) (b+1,a2) ⟨oF,by rw[kj,yb,Option.bind_some,ho],Dj,vH,ib⟩ (by simp only;omega) sb (fun w hw=>ai.mem hw)
   refine JU ?_;refine bp rfl rfl rfl (fun hg=>(Ry.yl (aR (ay hg rfl) (ay hg rfl) ((n.nx b).toNat) (by simp only[Z0,Z1,Z2,Z3,Z4,Z5,Z6,Z7,Z8,Z9]at hg;omega) (by simp only[Z0,Z1,Z2,Z3,Z4,Z5,Z6,Z7,Z8,Z9]at hg;omega)))) ?_;refine bp rfl rfl rfl (fun hg=>(Ry.yl (bw (j:=0) (ay hg rfl) ((n.nx b).toNat) (kW (xs:=a2) (i:=(n.nx b).toNat) (d:=(0:Int)) (by simp only[Z0,Z1,Z2,Z3,Z4,Z5,Z6,Z7,Z8,Z9]at hg;omega)) rfl (by decide)))) ?_;refine ak ?_;refine Gb (fun h6=>?_) fun h6=>?_
   ·
    have hv:=Mw oM hs hn (b:=b) oM yb (by rw[qE,getD_some ib,if_neg oM,if_neg h5,if_pos oM]);refine ak ?_;refine Gr fun w1 hw=>?_;exact⟨Sv.none,rfl,by rw[hv];rfl,by rw[hv];exact Mem.cR bl 1 (ai.mem hw:Mem w [] _)⟩
   have ho:qE t.ns.xs.length i n b a2=some (a2.set (n.nx b).toNat (x+1)):=by rw[qE,getD_some ib,if_neg oM,if_neg h5,if_neg oM]
   refine aK ?_;refine ag (aR rfl rfl i rfl oM) ?_;refine ag (bw (j:=0) rfl i ib rfl (by decide)) ?_;refine Gs ?_;obtain⟨alc,abm⟩:=get_some (xs:=a2) (i:=(n.nx b).toNat) oM;refine ag (aR rfl rfl ((n.nx b).toNat) oM oM) ?_;refine KE rfl rfl abm rfl ?_;refine ak ?_;refine Gi ?_;exact aV (x:=(b,a2)) (b+1,_) ⟨oF,by rw[kj,yb,Option.bind_some,ho],by simp[Dj],fun y vd=>by rcases List.mem_or_eq_of_mem_set vd with h|h;exact vH y h;omega,by rw[List.getElem?_set_ne oF];exact ib⟩ (by simp only;omega) sb (fun w hw=>ai.mem hw)
  obtain rfl:b=16:=by omega
  refine ak ?_;refine Gi ?_;exact aV (x:=(i,a)) (i+1,a2) ⟨oF,US hs hn hxn yb,Dj,vH⟩ (by simp only;omega) sb (fun w hw=>ai.mem hw)
 refine aq ?_;refine Gr fun w1 hw=>?_;obtain rfl:i=t.ns.xs.length:=by omega
 exact⟨⟨false,pK,0,t.ns.xs.length,t.ns.xs.length,none⟩,rfl,by rw[Oq,hs];rfl,by rw[Oq,hs];exact(ai.mem hw:Mem w [own bl 1 ⟨false,pK,0,t.ns.xs.length,t.ns.xs.length,none⟩ a] _)⟩
instance ald{t:gP}[ht:aO w0 L t]:bJ Tryz.prog 237 w0 L [.agg (cN t)] (Sv) (fun U=>U.val) (fun U=>own bl 1 U ((ig t.bits t.ns.xs).getD [])::L) (fun U=>U.nil=(ig t.bits t.ns.xs).isNone) (True):=⟨fun hp w hw=>(abl w t (ht.h w hw)).mono fun e w' ⟨x,h1,h2,h3⟩=>⟨x,h1,h2,hw.call h3⟩⟩
theorem abn(w:World)(t:gP)(ht:Deep.aU (hp w) t):Calls Tryz.prog 198 #[.agg (cN t)] w fun e w'=>e= .returned (.bool ((ig t.bits t.ns.xs).isSome))/\Mem w [] w':=by
 have qM:bQ w t:=⟨ht⟩;refine bS Tryz.func198 rfl Tryz.ntmps198 rfl ?_;refine Gc ?_;refine bM rfl fun b1=>?_;refine ak ?_;refine bf rfl trivial fun x4 Dh=>?_;refine ag (PW Tryz.underlying60 rfl) ?_;refine au ?_;refine Gr fun w1 hw=>?_;exact Ge (by rw[Dh];cases ig t.bits t.ns.xs<;>rfl) hw
instance ale{t:gP}[ht:aO w0 L t]:bO Tryz.prog 198 w0 L [.agg (cN t)] (.bool ((ig t.bits t.ns.xs).isSome)) (True):=⟨fun hp w hw=>abn w t (ht.h w hw)⟩
theorem abo(w:World)(t:gP)(k:Key)(ht:Deep.aU (hp w) t):Calls Tryz.prog 124 #[.agg (cN t), .agg (bF k)] w fun e w'=> ∃U:Sv,e= .returned (U.val)/\(True)/\Mem w [own bl 1 U (kl t.bits t.ns.xs k)] w':=by
 have qM:bQ w t:=⟨ht⟩;refine cl Tryz.func124 rfl Tryz.ntmps124 rfl ?_;refine Gc ?_;refine bM rfl fun b2=>?_;refine bM rfl fun b3=>?_;refine au ?_;refine fH oK oK ?_;refine Gq ?_;refine nm (bV rfl trivial) ?_;refine au ?_;refine eV rfl rfl rfl (fun hg=>(Ry.yl (iv rfl))) ?_;refine au ?_;refine eV rfl rfl rfl (fun hg=>bV (di (ay hg rfl) (di (ay hg rfl) fF)) trivial) ?_;refine eV rfl rfl rfl (fun hg=>(Ry.yl (iv rfl))) ?_;refine eV rfl rfl rfl (fun hg=>(Ry.yl (Ij (ay hg rfl) (ay hg rfl)))) ?_;refine au ?_;refine Gb (fun h0=>?_) fun h0=>?_
 ·
  have hk:pE t.bits t.ns.xs k=false:=by rw[pE];rcases h0 with h|h;rw[h];rfl;rw[decide_eq_false h];simp
  refine ak ?_;refine Gr fun w1 hw=>?_;exact⟨Sv.none,rfl,trivial,by rw[kl,if_neg (by rw[hk];simp)];exact Mem.cR bl 1 (ai.mem hw:Mem w [] _)⟩
 have hs:(ig t.bits t.ns.xs).isSome=true:=by simpa using h0.1
 have hk:pE t.bits t.ns.xs k=true:=by rw[pE,hs];simpa using h0.2
 obtain⟨hr,hb,qa,vS⟩:=Cv hs;refine Gc ?_;refine kx (enc:=bl) (vals:=[_]) [0] rfl rfl rfl (by decide) (by decide) fun jD=>?_;refine aq ?_;refine ag (kb rfl rfl oM oM) ?_;refine au ?_;refine bA (X:=Nat×Sv) (fun U=>[(23, .int .i64 (U.1:Nat)),(5,U.2.val),(2, .pointer (some ⟨b2,0,none⟩)),(3, .pointer (some ⟨b3,0,none⟩)),(22, .int .i64 (t.bits/4))]) (fun U=>[own bl 1 U.2 (rV t.ns.xs k U.1),an b2 (cN t) 124,an b3 (bF k) 25]) (fun U=>U.1<=(t.bits/4).toNat/\ ∀j,j<U.1->chain t.ns.xs k (j+1)≠0) (fun U=>(t.bits/4).toNat -U.1) (0,⟨false,jD,0,1,1,none⟩) ⟨Nat.zero_le _,fun j hj=>absurd hj (Nat.not_lt_zero j)⟩ sb (fun w hw=>(ai.mem hw:Mem _ [own bl 1 ⟨false,jD,0,1,1,none⟩ [0],an b2 (cN t) 124,an b3 (bF k) 25] _)) ?_;rintro⟨i,s1⟩ ⟨aT,az⟩;dsimp only;simp only at aT az;have p8:=Cx (k:=k) hr qa i;have bk:=rv k i;have HH:=zd k i;refine ak ?_;refine Gb (fun h1=>?_) fun h1=>?_
 ·
  refine aq ?_;refine fH oK oK ?_;refine aq ?_;refine bu (aR rfl rfl i rfl (by rw[zC];omega)) ?_;refine bu (bw (j:=0) rfl i (My (Nat.le_refl i)) rfl (by decide)) ?_;refine au ?_;refine nm (bV rfl trivial) ?_;obtain⟨n,hn⟩:=get_some (xs:=t.ns.xs) (i:=(chain t.ns.xs k i)) p8;refine bu (aR rfl rfl (chain t.ns.xs k i) rfl p8) ?_;refine bu (aN rfl rfl) ?_;refine bu (sN rfl rfl oM oM) ?_;refine bu (KD rfl (chain t.ns.xs k i) hn ((gv k ((i:Nat):Int)).toNat) oM (by simp only[Nat.add_eq,Int.toNat_natCast,Nat.mul_one,Nat.zero_add,Nat.add_zero]<;>omega)) ?_;refine aK ?_;refine Gb (fun h2=>?_) fun h2=>?_
  ·
   have h00:chain t.ns.xs k (i+1)=0:=by rw[chain,getD_some hn];have:n.nx (eY k i)=0:=h2;omega
   refine iV ?_;refine IC rfl ?_;refine aq ?_;refine Gr fun w1 hw=>?_;exact⟨s1,rfl,trivial,by rw[kl,if_pos hk,U0 oM az h00];exact ai.mem hw⟩
  have HI:n.nx (gv k (i:Nat)).toNat=((chain t.ns.xs k (i+1):Nat):Int):=by rw[chain,getD_some hn];have:=(hr _ n hn (eY k i) bk).1;show n.nx (eY k i)=_;omega
  refine ak ?_;refine kx (enc:=bl) (vals:=[_]) [n.nx ((gv k ((i:Nat):Int)).toNat)] rfl rfl rfl (by decide) (by decide) fun gB=>?_;refine iS (s:=s1) (ys:=[n.nx ((gv k ((i:Nat):Int)).toNat)]) rfl rfl (by decide) (fun w hw=>gM (s:=⟨false,gB,0,1,1,none⟩) Tryz.underlying60 (by decide) ((inferInstance:Hd _ _ ⟨false,gB,0,1,1,none⟩ bl 1 [n.nx ((gv k ((i:Nat):Int)).toNat)]).h w hw)) (by rw[zC];simp only[List.length_cons,List.length_nil];omega) (by rw[zC];simp only[List.length_cons,List.length_nil];omega) fun s44 alf alg=>?_;refine aq ?_;refine Gi ?_;exact aV (x:=(i,s1)) (i+1,s44) ⟨oF,fun j hj=>(Nat.lt_or_ge j i).elim (az j) fun h=>by obtain rfl:j=i:=oF;intro h9;rw[h9]at HI;exact h2 HI⟩ (by simp only;omega) sb (fun w hw=>by rw[U2,←HI];exact ai.mem hw)
 refine aq ?_;refine Gr fun w1 hw=>?_;exact⟨s1,rfl,trivial,by rw[kl,if_pos hk,U1 (fun j hj=>az j oM),show(t.bits/4).toNat=i by omega];exact ai.mem hw⟩
instance alh{t:gP}{k:Key}[ht:aO w0 L t]:bJ Tryz.prog 124 w0 L [.agg (cN t), .agg (bF k)] (Sv) (fun U=>U.val) (fun U=>own bl 1 U (kl t.bits t.ns.xs k)::L) (fun U=>True) (True):=⟨fun hp w hw=>(abo w t k (ht.h w hw)).mono fun e w' ⟨x,h1,h2,h3⟩=>⟨x,h1,h2,hw.call h3⟩⟩
theorem abp(w:World)(t:gP)(k:Key)(ht:Deep.aU (hp w) t):Calls Tryz.prog 56 #[.agg (cN t), .agg (bF k)] w fun e w'=>e= .returned (.tuple #[.int .i64 (tK t.bits t.ns.xs k), .int .u16 ((tL t.bits t.ns.xs k).toNat:Nat), .int .i64 (nI t.bits t.ns.xs k)])/\Mem w [] w':=by
 have qM:bQ w t:=⟨ht⟩;refine cl Tryz.func56 rfl Tryz.ntmps56 rfl ?_;refine Gc ?_;refine bM rfl fun b2=>?_;refine bM rfl fun b3=>?_;refine aS ?_;refine bf rfl trivial fun iN vJ=>?_;refine aS ?_;refine Gb (fun h0=>?_) fun h0=>?_
 ·
  have hk:pE t.bits t.ns.xs k=false:=MA.1 oM;have he:nI t.bits t.ns.xs k=1:=by rw[nI,if_neg (by rw[hk];simp)]
  refine aK ?_;refine Gr fun w1 hw=>?_;exact⟨by rw[tK,tL,he];rfl,ai.mem hw⟩
 have hk:pE t.bits t.ns.xs k=true:=by cases h:pE t.bits t.ns.xs k with|true=>rfl|false=>exact absurd (MA.2 h) oM
 have hs:(ig t.bits t.ns.xs).isSome=true:=by rw[pE,Bool.and_eq_true]at hk;exact hk.1
 obtain⟨hr,hb,qa,vS⟩:=Cv hs;refine Gc ?_;refine bj fun b8=>?_;refine aq ?_;refine iW ?_;refine IT iN fun gQ=>?_;refine bA (X:=Nat) (fun U=>[(20, .int .i64 (U:Nat)),(8, .pointer (some ⟨b8,0,none⟩)),(2, .pointer (some ⟨b2,0,none⟩)),(3, .pointer (some ⟨b3,0,none⟩)),(18,iN.val),(19, .int .i64 ((kl t.bits t.ns.xs k).length:Nat))]) (fun U=>[an b8 (mP (mq t.ns.xs k U)) 221,own bl 1 iN (kl t.bits t.ns.xs k),an b2 (cN t) 124,an b3 (bF k) 25]) (fun U=>U<=(kl t.bits t.ns.xs k).length) (fun U=>(kl t.bits t.ns.xs k).length -U) 0 (Nat.zero_le _) sb (fun w hw=>(ai.mem hw:Mem _ [an b8 (mP eO.no) 221,own bl 1 iN (kl t.bits t.ns.xs k),an b2 (cN t) 124,an b3 (bF k) 25] _)) ?_;rintro i hI;have p8:=Cx (k:=k) hr qa i;have bk:=rv k i;have HH:=zd k i;refine ak ?_;refine Gb (fun h1=>?_) fun h1=>?_
 ·
  refine au ?_;refine ag (aR rfl rfl i rfl oM) ?_;refine ag (bw (j:=0) rfl i (U3 oM) rfl (by decide)) ?_;refine ak ?_;refine gF [10,11] [[],[],[],[],[],[],[],[],[],[],[],[10]] [0,1,2,3,4,5,6,7,8,9,10,11] [an b2 (cN t) 124,an b3 (bF k) 25] (fun _ hw=>ai.mem hw) oK oK ?_;refine al rfl (aN (o':=1) rfl rfl) ?_;refine al rfl (bN rfl) ?_;refine al rfl (aZ rfl) ?_;refine al rfl (iv rfl) ?_;refine al rfl (aZ rfl) ?_;refine uZ rfl (bV rfl trivial) ?_;obtain⟨n,hn⟩:=get_some (xs:=t.ns.xs) (i:=(chain t.ns.xs k i)) p8;refine al rfl (aR rfl rfl (chain t.ns.xs k i) rfl p8) ?_;refine al rfl (aN rfl rfl) ?_;refine al rfl (sN rfl rfl oM oM) ?_;refine al rfl (SP rfl (chain t.ns.xs k i) hn ((gv k ((i:Nat):Int)).toNat) oM (by simp only[Nat.add_eq,Int.toNat_natCast,Nat.mul_one,Nat.zero_add,Nat.add_zero]<;>omega)) ?_;refine cY rfl (JK fun mv=>⟨fun _ hw=>ai.mem hw,?_⟩);refine cY rfl (oc rfl rfl ⟨fun _ hw=>ai.mem hw,?_⟩);refine cw ?_;refine Gb (fun h2=>?_) fun h2=>?_
  ·
   have uc:mq t.ns.xs k (i+1)=n.sl (gv k (i:Nat)).toNat:=by simp only[mq,getD_some hn];exact if_pos h2
   refine Gi ?_;refine aK ?_;refine Gi ?_;exact aV (x:=(i)) (i+1) oF oF sb (fun w hw=>by rw[uc];exact ai.mem hw)
  have uc:mq t.ns.xs k (i+1)=mq t.ns.xs k i:=by simp only[mq,getD_some hn];exact if_neg h2
  refine ak ?_;refine Gi ?_;exact aV (x:=(i)) (i+1) oF oF sb (fun w hw=>by rw[uc];exact ai.mem hw)
 refine aK ?_;refine Gb (fun h3=>?_) fun h3=>?_
 ·
  have Dk:vz t.bits t.ns.xs k=mq t.ns.xs k i:=by rw[vz,show(kl t.bits t.ns.xs k).length=i by omega]
  have he:nI t.bits t.ns.xs k=6:=by rw[nI,if_pos hk,Dk,if_pos h3]
  refine aK ?_;refine Gr fun w1 hw=>?_;exact⟨by rw[tK,tL,he];rfl,ai.mem hw⟩
 have Dk:vz t.bits t.ns.xs k=mq t.ns.xs k i:=by rw[vz,show(kl t.bits t.ns.xs k).length=i by omega]
 have he:nI t.bits t.ns.xs k=0:=by rw[nI,if_pos hk,Dk,if_neg h3]
 have N8:=Mz (k:=k) hs i;refine Gc ?_;refine fH oK oK ?_;refine fc ?_;refine Gr fun w1 hw=>?_;exact⟨by rw[tK,tL,he,Dk];rfl,ai.mem hw⟩
instance ali{t:gP}{k:Key}[ht:aO w0 L t]:bO Tryz.prog 56 w0 L [.agg (cN t), .agg (bF k)] (.tuple #[.int .i64 (tK t.bits t.ns.xs k), .int .u16 ((tL t.bits t.ns.xs k).toNat:Nat), .int .i64 (nI t.bits t.ns.xs k)]) (True):=⟨fun hp w hw=>abp w t k (ht.h w hw)⟩
end Go.Proofs.YtkggjjnhnjjokaaGreatDoor
namespace Go.Kb
open Go.aA
def abq:Key:=mE fun i=>if i=0 then 10 else 0
def pR(h:UInt16):Rt:=⟨⟨32,8,abq⟩,h⟩
def HJ:CV×Int:=po 6 2 64
def HK:FV×Int:=pI HJ.1
def Dl:FV×Int:=jA HK.1 [⟨pR 7,false⟩]
def HL:FV×Int:=df Dl.1.aB.aj
theorem abr:HJ.2=0:=by decide+kernel
theorem abt:HK.2=0:=by decide+kernel
theorem abu:Dl.2=0:=by decide+kernel
theorem abv:HL.2=0:=by decide+kernel
def qT:Key:=mE fun i=>if i=0 then 10 else if i=1 then 9 else 0
theorem abw:qS [49,48,46,48,46,48,46,48,47,56,32,55]=0:=by decide+kernel
theorem Ot:nR [49,48,46,48,46,48,46,48,47,56,32,55]=pR 7:=by decide+kernel
theorem abx:HL.1.table=[pR 7]:=by decide+kernel
theorem aby:lh [pR 7] 32=0:=by decide+kernel
theorem abz:nI (pk [pR 7] 32) (pn [pR 7] 32) qT=0:=by decide+kernel
theorem abA:tK (pk [pR 7] 32) (pn [pR 7] 32) qT=8:=by decide+kernel
theorem abB:tL (pk [pR 7] 32) (pn [pR 7] 32) qT=7:=by decide+kernel
end Go.Kb
namespace Go.Proofs.YtkggjjnhnjjokaaGreatDoor
open Go.aA Go.Kb Go.RowKit
theorem abC{f:cB}{v:FV}(e:bU f=v)(h:M3 v=true):du f.aB.aj/\f.aB.at_.xs.length<=1000000/\f.table.xs.length<=1000000:=by
 subst e;simp only[M3,Bool.and_eq_true,decide_eq_true_eq]at h;exact⟨qo h.1.1,h.1.2,h.2⟩
theorem abD(w:World)[tb:kz w]:Calls Tryz.prog 12 #[] w fun e w'=>e= .returned (.bool true)/\Mem w [] w':=by
 refine RJ Tryz.func12 rfl Tryz.ntmps12 rfl ?_;refine ak ?_;refine dm (bV rfl (by decide)) ?_;refine Gs ?_;refine ag (aL (v:= .agg (av (nR [49,48,46,48,46,48,46,48,47,56,32,55]))) rfl rfl) ?_;refine ag (aL (v:= .int .i64 (qS [49,48,46,48,46,48,46,48,47,56,32,55])) rfl rfl) ?_;refine bj fun b1=>?_;refine ak ?_;refine bf rfl trivial fun fC zX=>?_;have HM:cv fC=HJ.1:=zX;have z21:(po 6 2 64).2=0:=abr;have abE:du fC:=qo (by rw[HM];decide+kernel);refine Gs ?_;refine ag (aL (v:= .agg (aE fC)) rfl rfl) ?_;refine ag (aL (v:= .int .i64 ((po 6 2 64).2)) rfl rfl) ?_;refine bj fun b3=>?_;refine aq ?_;refine bf rfl abE fun gA nQ=>?_;have ya:bU gA=HK.1:=by rw[nQ,HM];rfl
 have gW:(pI (cv fC)).2=0:=by rw[HM];exact abt
 have abF:=abC ya (by decide+kernel);refine Gs ?_;refine ag (aL (v:= .agg (cM gA)) rfl rfl) ?_;refine ag (aL (v:= .int .i64 ((pI (cv fC)).2)) rfl rfl) ?_;refine bj fun b5=>?_;refine aK ?_;refine ag (fo rfl) ?_;refine kx (enc:=gJ) (vals:=[_]) [(⟨(nR [49,48,46,48,46,48,46,48,47,56,32,55]),false⟩:Ch)] rfl rfl rfl (by decide) (by decide) fun gV=>?_;refine bf rfl abF fun ik vM=>?_;have sA:bU ik=Dl.1:=by rw[vM,ya,Ot];rfl
 have gX:(jA (bU gA) [(⟨(nR [49,48,46,48,46,48,46,48,47,56,32,55]),false⟩:Ch)]).2=0:=by rw[ya,Ot];exact abu
 have Ou:cv ik.aB.aj=Dl.1.aB.aj:=congrArg (fun z:FV=>z.aB.aj) sA;refine Gs ?_;refine ag (aL (v:= .agg (cM ik)) rfl rfl) ?_;refine ag (aL (v:= .int .i64 ((jA (bU gA) [(⟨(nR [49,48,46,48,46,48,46,48,47,56,32,55]),false⟩:Ch)]).2)) rfl rfl) ?_;refine bj fun b7=>?_;refine aK ?_;refine ag (gD rfl) ?_;refine bf rfl trivial fun gz GW=>?_;have e41:bU gz=HL.1:=by rw[GW,Ou];rfl
 have gY:(df (cv ik.aB.aj)).2=0:=by rw[Ou];exact abv
 have t41:gz.table.xs=[pR 7]:=(congrArg FV.table e41).trans abx;refine Gs ?_;refine ag (aL (v:= .agg (cM gz)) rfl rfl) ?_;refine ag (aL (v:= .int .i64 ((df (cv ik.aB.aj)).2)) rfl rfl) ?_;refine bj fun b9=>?_;refine aK ?_;refine bf rfl trivial fun jF tZ=>?_;have gZ:lh gz.table.xs 32=0:=by rw[t41];exact aby
 have f1:nI jF.bits jF.ns.xs qT=0:=by rw[tZ.1,tZ.2,t41];exact abz
 have f2:tK jF.bits jF.ns.xs qT=8:=by rw[tZ.1,tZ.2,t41];exact abA
 have f3:tL jF.bits jF.ns.xs qT=7:=by rw[tZ.1,tZ.2,t41];exact abB
 have hG:=abw;refine Gs ?_;refine ag (aL (v:= .agg (cN jF)) rfl rfl) ?_;refine ag (aL (v:= .int .i64 (lh gz.table.xs 32)) rfl rfl) ?_;refine bj fun mv=>?_;refine aq ?_;refine ag (cy (v:= .agg (bF qT)) rfl (fun w=>by kernel_rfl)) ?_;refine au ?_;refine ag (aL (v:= .int .i64 (tK jF.bits jF.ns.xs qT)) rfl rfl) ?_;refine ag (aL (v:= .int .u16 ((tL jF.bits jF.ns.xs qT).toNat:Nat)) rfl rfl) ?_;refine ag (aL (v:= .int .i64 (nI jF.bits jF.ns.xs qT)) rfl rfl) ?_;refine cw ?_;refine kX rfl rfl rfl (by simp[hG,z21,gW,gX,gY,gZ,f1,f2,f3]) (Ry.yl (aZ rfl)) ?_;refine kX rfl rfl rfl (by simp[hG,z21,gW,gX,gY,gZ,f1,f2,f3]) (Ry.yl (c2 rfl rfl rfl)) ?_;refine ag (sZ rfl (by simp[hG,z21,gW,gX,gY,gZ,f1,f2,f3]) rfl rfl) ?_;refine Gs ?_;refine kX rfl rfl rfl (by simp[hG,z21,gW,gX,gY,gZ,f1,f2,f3]) (Ry.yl (aZ rfl)) ?_;refine kX rfl rfl rfl (by simp[hG,z21,gW,gX,gY,gZ,f1,f2,f3]) (Ry.yl (c2 rfl rfl rfl)) ?_;refine ag (sZ rfl (by simp[hG,z21,gW,gX,gY,gZ,f1,f2,f3]) rfl rfl) ?_;refine Gs ?_;refine kX rfl rfl rfl (by simp[hG,z21,gW,gX,gY,gZ,f1,f2,f3]) (Ry.yl (aZ rfl)) ?_;refine kX rfl rfl rfl (by simp[hG,z21,gW,gX,gY,gZ,f1,f2,f3]) (Ry.yl (c2 rfl rfl rfl)) ?_;refine ag (sZ rfl (by simp[hG,z21,gW,gX,gY,gZ,f1,f2,f3]) rfl rfl) ?_;refine Gs ?_;refine kX rfl rfl rfl (by simp[hG,z21,gW,gX,gY,gZ,f1,f2,f3]) (Ry.yl (aZ rfl)) ?_;refine kX rfl rfl rfl (by simp[hG,z21,gW,gX,gY,gZ,f1,f2,f3]) (Ry.yl (c2 rfl rfl rfl)) ?_;refine ag (sZ rfl (by simp[hG,z21,gW,gX,gY,gZ,f1,f2,f3]) rfl rfl) ?_;refine Gs ?_;refine kX rfl rfl rfl (by simp[hG,z21,gW,gX,gY,gZ,f1,f2,f3]) (Ry.yl (aZ rfl)) ?_;refine kX rfl rfl rfl (by simp[hG,z21,gW,gX,gY,gZ,f1,f2,f3]) (Ry.yl (c2 rfl rfl rfl)) ?_;refine ag (sZ rfl (by simp[hG,z21,gW,gX,gY,gZ,f1,f2,f3]) rfl rfl) ?_;refine Gs ?_;refine kX rfl rfl rfl (by simp[hG,z21,gW,gX,gY,gZ,f1,f2,f3]) (Ry.yl (aZ rfl)) ?_;refine kX rfl rfl rfl (by simp[hG,z21,gW,gX,gY,gZ,f1,f2,f3]) (Ry.yl (c2 rfl rfl rfl)) ?_;refine ag (sZ rfl (by simp[hG,z21,gW,gX,gY,gZ,f1,f2,f3]) rfl rfl) ?_;refine Gs ?_;refine kX rfl rfl rfl (by simp[hG,z21,gW,gX,gY,gZ,f1,f2,f3]) (Ry.yl (aZ rfl)) ?_;refine kX rfl rfl rfl (by simp[hG,z21,gW,gX,gY,gZ,f1,f2,f3]) (Ry.yl (c2 rfl rfl rfl)) ?_;refine ag (sZ rfl (by simp[hG,z21,gW,gX,gY,gZ,f1,f2,f3]) rfl rfl) ?_;refine Gs ?_;refine kX rfl rfl rfl (by simp[hG,z21,gW,gX,gY,gZ,f1,f2,f3]) (Ry.yl (aZ rfl)) ?_;refine kX rfl rfl rfl (by simp[hG,z21,gW,gX,gY,gZ,f1,f2,f3]) (Ry.yl (c2 rfl rfl rfl)) ?_;refine ag (sZ rfl (by simp[hG,z21,gW,gX,gY,gZ,f1,f2,f3]) rfl rfl) ?_;refine au ?_;refine Gr fun w1 hw=>?_;exact Ge ((by simp[f3])) hw
variable {w0:World}{L:List ah}
instance alj[tb:kz w0]:bO Tryz.prog 12 w0 L [] (.bool true) (True):=⟨fun hp w hw=>abD w (tb:=tb.at hw)⟩
end Go.Proofs.YtkggjjnhnjjokaaGreatDoor
namespace Go.Kb
open Go.aA
structure Mr where
 aY:UInt16
 w:Int
 deriving DecidableEq
def gn(x:Mr):Array Value:= #[.int .u16 x.aY.toNat, .int .i64 x.w]
instance:bc gn 2:=⟨fun _=>rfl,fun x=>by simp[gn,Value.oneCell']⟩
instance (x:Mr):bL (gn x) 0 (.int .u16 x.aY.toNat):=⟨rfl⟩
instance (x:Mr):bL (gn x) 1 (.int .i64 x.w):=⟨rfl⟩
instance (x:Mr):eA (gn x) 2:=⟨rfl,bc.one (enc:=gn) (c:=2) x⟩
instance:Deep Mr:=Deep.flat gn 2
instance:dY Mr gn 2:=⟨rfl,fun _=>rfl⟩
instance:Plain Mr:=⟨fun _=>rfl⟩
structure Gp where
 num:UInt16
 ms:Sl Mr
def dh(x:Gp):Array Value:= #[.int .u16 x.num.toNat,x.ms.sv.val]
instance:bc dh 2:=⟨fun _=>rfl,fun x=>by
 have h1:(Value.int .u16 x.num.toNat).oneCell'=true:=rfl;simp only[dh,List.all_toArray,List.all_cons,List.all_nil,Sv.one,h1,Bool.and_self]⟩
instance (x:Gp):bL (dh x) 0 (.int .u16 x.num.toNat):=⟨rfl⟩
instance (x:Gp):bL (dh x) 1 x.ms.sv.val:=⟨rfl⟩
instance (x:Gp):eA (dh x) 2:=⟨rfl,bc.one (enc:=dh) (c:=2) x⟩
instance:Deep Gp where
 c:=2
 cells:=dh
 size:=bc.size
 one:=bc.one
 aU h x:=Deep.aU h x.ms
 bE x:=Deep.bE x.ms
 gu h x hs:=Deep.gu h x.ms hs
 mono w w' x:=Deep.mono w w' x.ms
instance:dY Gp dh 2:=⟨rfl,fun _=>rfl⟩
variable {w0:World}{L:List ah}
instance{x:Gp}[q:aO w0 L x]:aO w0 L x.ms:=⟨q.h⟩
def zmr:Mr:=⟨0,0⟩
def vT:Gp:=⟨0,⟨Sv.none,[]⟩⟩
def pS(l:List UInt16)(i:Nat):Bool:=decide (i=0)||decide (l.getD (i -1) 0<l.getD i 0)
def kN(l:List UInt16):Bool:=(List.range l.length).all (pS l)
theorem HN{l:List UInt16}(h: ∀j,j<l.length->pS l j=true):kN l=true:=by
 rw[kN,List.all_eq_true];exact fun j hj=>h j (List.mem_range.1 hj)
theorem Ov{l:List UInt16}{i:Nat}(hi:i<l.length)(h:pS l i=false):kN l=false:=by
 rw[kN,List.all_eq_false];exact⟨i,List.mem_range.2 hi,by simp[h]⟩
theorem Dm{l:List UInt16}{i:Nat}{a b:UInt16}(h0:0<i)(ha:l[i -1]? =some a)(hb:l[i]? =some b):pS l i=decide (a<b):=by
 rw[pS,decide_eq_false (by omega),Bool.false_or];simp[List.getD,ha,hb]
theorem nS{a b:UInt16}:a<b↔a.toNat<b.toNat:=UInt16.lt_iff_toNat_lt
theorem Ow{l:List UInt16}:kN l=true↔l.Pairwise (· < ·):=by
 rw[List.pairwise_iff_getElem];constructor
 ·
  intro h i j hi hj ng;have step: ∀k (hk:k+1<l.length),l[k]<l[k+1]:=fun k hk=>by
   have:=List.all_eq_true.1 h (k+1) (List.mem_range.2 hk);rw[Dm (by omega) (by simp only[Nat.add_sub_cancel];exact List.getElem?_eq_getElem (by omega)) (List.getElem?_eq_getElem hk)]at this;exact of_decide_eq_true this
  obtain⟨d,rfl⟩: ∃d,j=i+1+d:=⟨j -(i+1),by omega⟩
  induction d with
  |zero=>exact step i hj
  |succ d ih=>
   have h1:=ih (by omega) (by omega) step;have h2:=step (i+1+d) hj;exact nS.2 (Nat.lt_trans (nS.1 h1) (nS.1 h2))
 intro h;refine HN fun j hj=>?_;rcases Nat.eq_zero_or_pos j with h0|h0
 ·
  subst h0;rfl
 rw[Dm h0 (List.getElem?_eq_getElem (by omega)) (List.getElem?_eq_getElem hj)];exact decide_eq_true (h (j -1) j (by omega) hj (by omega))
def An(m:Mr):Bool:=decide (1<=m.w)&&decide (m.w<=100)
def ir(ms:List Mr):Bool:=decide (1<=ms.length)&&decide (ms.length<=16)&&ms.all An&&kN (ms.map Mr.aY)
theorem uk{ms:List Mr}:ir ms=true↔1<=ms.length/\ms.length<=16/\(∀m∈ms,1<=m.w/\m.w<=100)/\(ms.map Mr.aY).Pairwise (· < ·):=by
 rw[ir,Bool.and_eq_true,Bool.and_eq_true,Bool.and_eq_true,decide_eq_true_eq,decide_eq_true_eq,Ow,List.all_eq_true];simp only[An,Bool.and_eq_true,decide_eq_true_eq,and_assoc]
def gp:List Mr->Int
 |[]=>0
 |m::r=>m.w+gp r
theorem Ox: ∀a b:List Mr,gp (a++b)=gp a+gp b
 |[],b=>by simp[gp]
 |m::a,b=>by rw[List.cons_append,gp,gp,Ox a b];omega
theorem abG{ms:List Mr}{i:Nat}{m:Mr}(h:ms[i]? =some m):gp (ms.take (i+1))=gp (ms.take i)+m.w:=by
 rw[List.take_add_one,h,Ox];simp[gp]
theorem HO: ∀{ms:List Mr},(∀m∈ms,1<=m.w/\m.w<=100)->(ms.length:Int)<=gp ms/\gp ms<=100*ms.length
 |[],_=>by simp[gp]
 |m::r,h=>by
  have h1:=h m (by simp);have h2:=HO fun x hx=>h x (List.mem_cons_of_mem m hx);rw[gp,List.length_cons];omega
def lL(ms:List Mr):Int:=if ir ms=true then gp ms else 0
abbrev GV:=UInt16×List Mr
def jG(x:Gp):GV:=(x.num,x.ms.xs)
def bt(l:List Gp):List GV:=l.map jG
theorem yc(l:List Gp):(bt l).length=l.length:=by simp[bt]
theorem Dn{l:List Gp}{i:Nat}{x:Gp}(h:l[i]? =some x):(bt l)[i]? =some (jG x):=by simp[bt,h]
def fT(l:List GV):Bool:=decide (l.length<=64)&&l.all (fun x=>ir x.2)&&kN (l.map (·.1))
theorem oL{l:List GV}:fT l=true↔l.length<=64/\(∀x∈l,ir x.2=true)/\(l.map (·.1)).Pairwise (· < ·):=by
 rw[fT,Bool.and_eq_true,Bool.and_eq_true,decide_eq_true_eq,Ow,List.all_eq_true,and_assoc]
def oN(l:List GV)(n:UInt16)(j:Nat):Bool:=match l[j]?with
 |some x=> !decide (x.1<n)
 |none=>true
def dV(l:List GV)(n:UInt16):Nat:=bs (oN l n) l.length
def kO(l:List GV)(n:UInt16):Bool:=match l[dV l n]?with
 |some x=>decide (x.1=n)
 |none=>false
theorem Oy{l:List GV}(h:fT l=true){i j:Nat}{x y:GV}(ng:i<j)(hx:l[i]? =some x)(hy:l[j]? =some y):x.1<y.1:=by
 obtain⟨hi,rfl⟩:=List.getElem?_eq_some_iff.1 hx;obtain⟨hj,rfl⟩:=List.getElem?_eq_some_iff.1 hy;have:=(List.pairwise_iff_getElem.1 (oL.1 h).2.2) i j (by simpa using hi) (by simpa using hj) ng;simpa using this
theorem abH{l:List GV}(h:fT l=true)(n:UInt16)(a b:Nat)(vU:a<=b)(hb:b<l.length)(ha:oN l n a=true):oN l n b=true:=by
 obtain⟨x,hx⟩: ∃x,l[a]? =some x:=⟨l[a],by simp[show a<l.length by omega]⟩;obtain⟨y,hy⟩: ∃y,l[b]? =some y:=⟨l[b],by simp[hb]⟩;simp only[oN,hx,hy,Bool.not_eq_true',decide_eq_false_iff_not]at ha⊢;rcases Nat.lt_or_ge a b with h1|h1
 ·
  have:=Oy h h1 hx hy;rw[nS]at*;omega
 obtain rfl:a=b:=by omega
 obtain rfl:=Option.some.inj (hx.symm.trans hy);exact ha
theorem abI{l:List GV}(h:fT l=true)(n:UInt16):(∀x∈l.take (dV l n),x.1<n)/\ ∀x∈l.drop (dV l n),¬x.1<n:=by
 obtain⟨h1,h2,h3⟩:=U5 (p:=oN l n) (n:=l.length) fun a b=>abH h n a b;constructor
 ·
  intro x hx;obtain⟨i,hi⟩:=List.mem_iff_getElem?.1 hx;have dI:=(List.getElem?_eq_some_iff.1 hi).1;rw[List.length_take]at dI;rw[List.getElem?_take,if_pos (by omega)]at hi;have:=h2 i (by have:dV l n=bs (oN l n) l.length:=rfl;omega);simpa[oN,hi]using this
 intro x hx;obtain⟨i,hi⟩:=List.mem_iff_getElem?.1 hx;rw[List.getElem?_drop]at hi;have dI:=(List.getElem?_eq_some_iff.1 hi).1;have:=h3 (dV l n+i) (Nat.le_add_right _ _) dI;simpa[oN,hi]using this
theorem HP{l:List GV}(h:fT l=true){x:GV}(hx:x∈l):l[dV l x.1]? =some x/\kO l x.1=true:=by
 obtain⟨p1,p2⟩:=abI h x.1;have e:l=l.take (dV l x.1)++l.drop (dV l x.1):=(List.take_append_drop _ _).symm;have hd:x∈l.drop (dV l x.1):=by
  rw[e]at hx;rcases List.mem_append.1 hx with h1|h1
  ·
   have:=p1 x h1;rw[nS]at this;omega
  exact h1
 obtain⟨i,hi⟩:=List.mem_iff_getElem?.1 hd;rw[List.getElem?_drop]at hi;have dI:=(List.getElem?_eq_some_iff.1 hi).1;have h0:i=0:=by
  apply Classical.byContradiction;intro hn;obtain⟨y,hy⟩: ∃y,l[dV l x.1]? =some y:=⟨l[dV l x.1],by simp[show dV l x.1<l.length by omega]⟩;have h1:=Oy h (show dV l x.1<dV l x.1+i by omega) hy hi;exact p2 y (List.mem_iff_getElem?.2 ⟨0,by rw[List.getElem?_drop];exact hy⟩) h1
 subst h0;rw[Nat.add_zero]at hi;exact⟨hi,by rw[kO,hi];simp⟩
theorem Oz{l:List GV}{n:UInt16}(h:kO l n=true): ∃x∈l,l[dV l n]? =some x/\x.1=n:=by
 rw[kO]at h
 cases e:l[dV l n]?with
 |none=>rw[e]at h;cases h
 |some x=>rw[e]at h;exact⟨x,List.mem_of_getElem? e,rfl,of_decide_eq_true h⟩
theorem abJ(l:List GV)(n:UInt16)(d:GV):kO l n=(decide (((dV l n:Nat):Int)<(l.length:Int))&&decide ((l.getD (dV l n) d).1=n)):=by
 rcases Nat.lt_or_ge (dV l n) l.length with h|h
 ·
  have e:l[dV l n]? =some l[dV l n]:=by simp[h]
  rw[kO,e,List.getD_eq_getElem?_getD,e];simp[h]
 rw[kO,List.getElem?_eq_none h,decide_eq_false (by omega)];rfl
def kP:List Mr->Int->Option UInt16
 |[],_=>none
 |m::r,x=>if x<m.w then some m.aY else kP r (x -m.w)
def yd(l:List GV)(n:UInt16)(h:Nat):Option UInt16:=kP (l.getD (dV l n) (0,[])).2 ((h%(lL (l.getD (dV l n) (0,[])).2).toNat:Nat):Int)
def hK(l:List GV)(n:UInt16)(h:Nat):Int:=if fT l=true then(if kO l n=true then(if(yd l n h).isSome=true then 0 else 6)else 6)else 1
def mz(l:List GV)(n:UInt16)(h:Nat):UInt16:=if hK l n h=0 then(yd l n h).getD 0 else 0
theorem HQ: ∀{ms:List Mr} {x:Int} {h:UInt16},kP ms x=some h->h∈ms.map Mr.aY
 |[],_,_,e=>by cases e
 |m::r,x,h,e=>by
  rw[kP]at e;split at e
  ·
   rw[←Option.some.inj e];simp
  exact List.mem_cons_of_mem _ (HQ e)
theorem OA: ∀{ms:List Mr} {x:Int},0<=x->x<gp ms-> ∃h,kP ms x=some h
 |[],x,h0,h=>by rw[gp]at h;omega
 |m::r,x,h0,h=>by
  rw[kP];split
  ·
   exact⟨_,rfl⟩
  exact OA (by omega) (by rw[gp]at h;omega)
theorem HR{ms:List Mr}(h:ir ms=true):lL ms=gp ms/\1<=gp ms/\gp ms<=1600:=by
 obtain⟨h1,h2,h3,_⟩:=uk.1 h;have:=HO h3;exact⟨if_pos h,by omega,by omega⟩
def Ao(ms:List Mr)(h:Nat):UInt16:=(kP ms ((h%(gp ms).toNat:Nat):Int)).getD 0
theorem HS{ms:List Mr}(hm:ir ms=true)(h:Nat):kP ms ((h%(gp ms).toNat:Nat):Int)=some (Ao ms h):=by
 obtain⟨_,h1,h2⟩:=HR hm;have hl:=Nat.mod_lt h (show 0<(gp ms).toNat by omega);obtain⟨x,hx⟩:=OA (ms:=ms) (x:=((h%(gp ms).toNat:Nat):Int)) (by omega) (by omega);rw[Ao,hx];rfl
theorem HT{l:List GV}(h:fT l=true){x:GV}(hx:x∈l)(hs:Nat):hK l x.1 hs=0/\mz l x.1 hs=Ao x.2 hs:=by
 obtain⟨p1,p2⟩:=HP h hx;have hg:=(oL.1 h).2.1 x hx;have e1:l.getD (dV l x.1) (0,[])=x:=by rw[List.getD,p1];rfl
 have e2:yd l x.1 hs=some (Ao x.2 hs):=by rw[yd,e1,(HR hg).1,HS hg]
 have e3:hK l x.1 hs=0:=by rw[hK,if_pos h,if_pos p2,e2];rfl
 exact⟨e3,by rw[mz,if_pos e3,e2];rfl⟩
theorem HU{l:List GV}(h:fT l=true){n:UInt16}(hn: ∀x∈l,x.1≠n)(hs:Nat):hK l n hs=6:=by
 have hb:kO l n=false:=by
  cases e:kO l n with
  |false=>rfl
  |true=>obtain⟨x,hx,_,he⟩:=Oz e;exact absurd he (hn x hx)
 rw[hK,if_pos h,if_neg (by rw[hb];simp)]
def nT(h:UInt16)(ms:List Mr):List Mr:=ms.filter fun m=>decide (m.aY≠h)
def lost(h:UInt16)(x:GV):Option GV:=if(nT h x.2).length=0 then none else some (x.1,nT h x.2)
def jH(l:List GV)(h:UInt16):List GV:=if fT l=true then l.filterMap (lost h)else l
theorem abK{l:List GV}(h:fT l=true):l.Pairwise fun a b=>a.1<b.1:=List.pairwise_map.1 (oL.1 h).2.2
theorem abL{l:List GV}(h1:l.length<=64)(h2: ∀x∈l,ir x.2=true)(h3:l.Pairwise fun a b=>a.1<b.1):fT l=true:=oL.2 ⟨h1,h2,List.pairwise_map.2 h3⟩
theorem OB{a b:UInt16}(h:a<b):a≠b:=fun e=>by subst e;rw[nS]at h;omega
theorem abM{ms:List Mr}(h:ir ms=true)(aY:UInt16)(hn: ¬(nT aY ms).length=0):ir (nT aY ms)=true:=by
 obtain⟨h1,h2,h3,h4⟩:=uk.1 h;have hl:(nT aY ms).length<=ms.length:=List.length_filter_le _ _;exact uk.2 ⟨by omega,by omega,fun m hm=>h3 m (List.mem_filter.1 hm).1,h4.sublist ((List.filter_sublist (p:=fun m=>decide (m.aY≠aY)) (l:=ms)).map _)⟩
theorem abN{l:List GV}(h:fT l=true)(aY:UInt16):fT (jH l aY)=true/\(jH l aY).length<=l.length/\ ∀x∈jH l aY,∀m∈x.2,m.aY≠aY:=by
 have el:jH l aY=l.filterMap (lost aY):=if_pos h;have hlen:(jH l aY).length<=l.length:=by rw[el];exact List.length_filterMap_le _ _
 have uV: ∀x∈jH l aY,∃y∈l,¬(nT aY y.2).length=0/\x=(y.1,nT aY y.2):=fun x hx=>by
  rw[el]at hx;obtain⟨y,hy,he⟩:=List.mem_filterMap.1 hx;rw[lost]at he;split at he
  ·
   cases he
  rename_i hn;exact⟨y,hy,hn,(Option.some.inj he).symm⟩
 refine⟨abL (by have:=(oL.1 h).1;omega) (fun x hx=>?_) ?_,hlen,fun x hx m hm=>?_⟩
 ·
  obtain⟨y,hy,hn,rfl⟩:=uV x hx;exact abM ((oL.1 h).2.1 y hy) aY hn
 ·
  rw[el];refine List.pairwise_filterMap.2 ((abK h).imp fun{a b} vU x hx y hy=>?_);rw[lost]at hx hy;split at hx
  ·
   cases hx
  split at hy
  ·
   cases hy
  have e1:=Option.some.inj hx;have e2:=Option.some.inj hy;rw[←e1,←e2];exact vU
 obtain⟨y,hy,hn,rfl⟩:=uV x hx;have:=(List.mem_filter.1 hm).2;simpa using this
theorem abO{l:List GV}(h:fT l=true){aY:UInt16}(hh: ∀x∈l,∀m∈x.2,m.aY≠aY){x:GV}(hx:x∈l)(hs:Nat):mz l x.1 hs≠aY:=by
 rw[(HT h hx hs).2];have h1:=HS ((oL.1 h).2.1 x hx) hs;obtain⟨m,hm,e⟩:=List.mem_map.1 (HQ h1);rw[←e];exact hh x hx m hm
end Go.Kb
namespace Go.aA
open Go.RowKit Go.Kb
def is0:Value->Bool
 | .int .i64 n=>decide (n=0)
 |_=>false
def abP:List Value->Nat->Bool
 |[],0=>true
 |v::l,n+1=>is0 v&&abP l n
 |_,_=>false
def big:Nat:=65536
theorem abQ{l:List Gp}(h:fT (bt l)=true):l.length<=64/\ ∀x∈l,x.ms.xs.length<=1000000:=by
 obtain⟨h1,h2,_⟩:=oL.1 h;rw[yc]at h1;exact⟨h1,fun x hx=>by have:=(uk.1 (h2 (jG x) (List.mem_map_of_mem hx))).2.1;have e:(jG x).2=x.ms.xs:=rfl;rw[e]at this;omega⟩
end Go.aA
namespace Go.Kb
variable {t:List Rt} {k:Key} {bits:Int}
variable {t u:List Rt} {r:Rt} {k:Key} {bits:Int}
variable {t u:List Rt} {r:Rt} {q p:cc}
theorem OC{α:Type}{P:α->Prop}{l:List α}{i:Nat}{e:α}(h: ∀x∈l.take i,P x)(he:l[i]? =some e)(hp:P e): ∀x∈l.take (i+1),P x:=fun x hx=>by
 rw[List.take_add_one,he]at hx;rcases List.mem_append.1 hx with h1|h1
 ·
  exact h x h1
 rw[show x=e by simpa using h1];exact hp
theorem abR{α:Type}{l:List α}{i:Nat}{e:α}(he:l[i]? =some e):l.drop i=e::l.drop (i+1):=by
 obtain⟨hi,rfl⟩:=List.getElem?_eq_some_iff.1 he;rw[List.getElem_cons_drop]
theorem OD{α:Type}{f:α->Bool}{l:List α}{i:Nat}{e:α}(he:l[i]? =some e):(l.take (i+1)).filter f=(l.take i).filter f++(if f e=true then[e]else[]):=by
 rw[List.take_add_one,he,List.filter_append]
 cases h:f e<;>simp[h]
end Go.Kb
namespace Go.Proofs.YtkggjjnhnjjokaaGreatDoor
open Go.aA Go.Kb
instance:dj Tryz.prog 142 (.agg (gn zmr)):=⟨by kernel_rfl⟩
instance:dj Tryz.prog 133 (.agg (dh vT)):=⟨by kernel_rfl⟩
theorem abS(n:UInt16)(s:Sv)(xs:List Mr)(w:World):(Instr.build 133 #[(0, .int .u16 n.toNat),(1,s.val)]).run Tryz.prog w= .ok (.agg (dh ⟨n,⟨s,xs⟩⟩)) w:=by
 unfold dh;obtain⟨e,b,o,l,c,p⟩:=s
 cases e<;>kernel_rfl
theorem OE(w:World)(m:Mr):Calls Tryz.prog 128 #[.agg (gn m)] w fun e w'=>e= .returned (.int .u16 (m.aY.toNat:Nat))/\Mem w [] w':=by
 refine bS Tryz.func128 rfl Tryz.ntmps128 rfl ?_;refine Gc ?_;refine bM rfl fun b1=>?_;refine aS ?_;refine Gr fun w1 hw=>?_;exact⟨rfl,ai.mem hw⟩
theorem abT(w:World)(l:Sv)(ls:List Mr)(hl:bI gn 2 (hp w) l ls)(aP:ls.length<=1000000):Calls Tryz.prog 127 #[l.val, .func (.func 128) #[] #[]] w fun e w'=>e= .returned (.bool (kN (ls.map Mr.aY)))/\Mem w [] w':=by
 have jh:Gv w l gn 2 ls:=⟨hl⟩;have vF:(ls.map Mr.aY).length=ls.length:=by simp
 refine cl Tryz.func127 rfl Tryz.ntmps127 rfl ?_;refine aK ?_;refine bA (X:=Nat) (fun U=>[(5, .int .i64 (U:Nat)),(0,l.val),(1, .func (.func 128) #[] #[])]) (fun U=>[]) (fun U=>1<=U/\(U<=ls.length\/U=1)/\ ∀j,j<U->pS (ls.map Mr.aY) j=true) (fun U=>ls.length -U) 1 ⟨Nat.le_refl _, .inr rfl,fun j h=>by obtain rfl:j=0:=oF;rfl⟩ sb (fun w hw=>ai.mem hw) ?_;rintro i ⟨aT,az,ba⟩;refine aS ?_;refine Gb (fun h0=>?_) fun h0=>?_
 ·
  obtain⟨a,ha⟩:=get_some (xs:=ls) (i:=i -1) oM;obtain⟨b,hb⟩:=get_some (xs:=ls) (i:=i) oM;have kK:pS (ls.map Mr.aY) i=decide (a.aY<b.aY):=Dm oM (by simp[ha]) (by simp[hb]);refine Gc ?_;refine fH oK oK ?_;refine aq ?_;refine bu (aR rfl rfl (i -1) oM oM) ?_;refine bu (dO rfl (i -1) ha rfl) ?_;refine nm (qH (v:= .int .u16 (a.aY.toNat:Int)) rfl rfl (fun w1 iR=>OE w1 a)) ?_;refine ak ?_;refine bu (aR rfl rfl i rfl oM) ?_;refine bu (dO rfl i hb rfl) ?_;refine nm (qH (v:= .int .u16 (b.aY.toNat:Int)) rfl rfl (fun w1 iR=>OE w1 b)) ?_;refine au ?_;refine Gb (fun h1=>?_) fun h1=>?_
  ·
   have hz:kN (ls.map Mr.aY)=false:=Ov (i:=i) oM (by rw[kK,decide_eq_false_iff_not,nS];omega);refine ak ?_;refine Gr fun w1 hw=>?_;exact Ge (hz.symm) hw
  have bk:pS (ls.map Mr.aY) i=true:=by rw[kK,decide_eq_true_eq,nS];omega
  refine aq ?_;refine Gi ?_;exact aV (x:=(i)) (i+1) ⟨oF,oF,fun j hj=>if e:j=i then(by subst e;exact bk)else ba j oF⟩ oF sb (fun w hw=>ai.mem hw)
 have hz:kN (ls.map Mr.aY)=true:=HN fun j hj=>ba j oM;refine ak ?_;refine Gr fun w1 hw=>?_;exact Ge (hz.symm) hw
variable {w0:World}{L:List ah}
instance alk{l:Sv}{ls:List Mr}[hl:cz w0 L gn 2 l ls]:bO Tryz.prog 127 w0 L [l.val, .func (.func 128) #[] #[]] (.bool (kN (ls.map Mr.aY))) (ls.length<=1000000):=⟨fun hp w hw=>abT w l ls (hl.h w hw) hp⟩
theorem OF(w:World)(m:Gp)(hm:Deep.aU (hp w) m):Calls Tryz.prog 61 #[.agg (dh m)] w fun e w'=>e= .returned (.int .u16 (m.num.toNat:Nat))/\Mem w [] w':=by
 have ghm:bQ w m:=⟨hm⟩;refine bS Tryz.func61 rfl Tryz.ntmps61 rfl ?_;refine Gc ?_;refine bM rfl fun b1=>?_;refine aS ?_;refine Gr fun w1 hw=>?_;exact⟨rfl,ai.mem hw⟩
theorem abU(w:World)(l:Sl Gp)(hl:Deep.aU (hp w) l)(aP:l.xs.length<=1000000):Calls Tryz.prog 60 #[l.sv.val, .func (.func 61) #[] #[]] w fun e w'=>e= .returned (.bool (kN (l.xs.map Gp.num)))/\Mem w [] w':=by
 have jh:bQ w l:=⟨hl⟩;have vF:(l.xs.map Gp.num).length=l.xs.length:=by simp
 refine cl Tryz.func60 rfl Tryz.ntmps60 rfl ?_;refine aK ?_;refine bA (X:=Nat) (fun U=>[(5, .int .i64 (U:Nat)),(0,l.sv.val),(1, .func (.func 61) #[] #[])]) (fun U=>[]) (fun U=>1<=U/\(U<=l.xs.length\/U=1)/\ ∀j,j<U->pS (l.xs.map Gp.num) j=true) (fun U=>l.xs.length -U) 1 ⟨Nat.le_refl _, .inr rfl,fun j h=>by obtain rfl:j=0:=oF;rfl⟩ sb (fun w hw=>ai.mem hw) ?_;rintro i ⟨aT,az,ba⟩;refine aS ?_;refine Gb (fun h0=>?_) fun h0=>?_
 ·
  obtain⟨a,ha⟩:=get_some (xs:=l.xs) (i:=i -1) oM;obtain⟨b,hb⟩:=get_some (xs:=l.xs) (i:=i) oM;have kK:pS (l.xs.map Gp.num) i=decide (a.num<b.num):=Dm oM (by simp[ha]) (by simp[hb]);refine Gc ?_;refine fH oK oK ?_;refine aq ?_;refine bu (aR rfl rfl (i -1) oM oM) ?_;refine bu (dO rfl (i -1) ha rfl) ?_;have alm:Mb a l:=⟨List.mem_of_getElem? ha⟩;refine nm (qH (v:= .int .u16 (a.num.toNat:Int)) rfl rfl (fun w1 iR=>OF w1 a (((inferInstance:aO w _ l).h w1 iR).2 a (List.mem_of_getElem? ha)))) ?_;refine ak ?_;refine bu (aR rfl rfl i rfl oM) ?_;refine bu (dO rfl i hb rfl) ?_;have aln:Mb b l:=⟨List.mem_of_getElem? hb⟩;refine nm (qH (v:= .int .u16 (b.num.toNat:Int)) rfl rfl (fun w1 iR=>OF w1 b (((inferInstance:aO w _ l).h w1 iR).2 b (List.mem_of_getElem? hb)))) ?_;refine au ?_;refine Gb (fun h1=>?_) fun h1=>?_
  ·
   have hz:kN (l.xs.map Gp.num)=false:=Ov (i:=i) oM (by rw[kK,decide_eq_false_iff_not,nS];omega);refine ak ?_;refine Gr fun w1 hw=>?_;exact Ge (hz.symm) hw
  have bk:pS (l.xs.map Gp.num) i=true:=by rw[kK,decide_eq_true_eq,nS];omega
  refine aq ?_;refine Gi ?_;exact aV (x:=(i)) (i+1) ⟨oF,oF,fun j hj=>if e:j=i then(by subst e;exact bk)else ba j oF⟩ oF sb (fun w hw=>ai.mem hw)
 have hz:kN (l.xs.map Gp.num)=true:=HN fun j hj=>ba j oM;refine ak ?_;refine Gr fun w1 hw=>?_;exact Ge (hz.symm) hw
instance alo{l:Sl Gp}[hl:aO w0 L l]:bO Tryz.prog 60 w0 L [l.sv.val, .func (.func 61) #[] #[]] (.bool (kN (l.xs.map Gp.num))) (l.xs.length<=1000000):=⟨fun hp w hw=>abU w l (hl.h w hw) hp⟩
theorem abV(w:World)(g:Gp)(hg:Deep.aU (hp w) g):Calls Tryz.prog 59 #[.agg (dh g)] w fun e w'=>e= .returned (.bool (ir g.ms.xs))/\Mem w [] w':=by
 have OG:bQ w g:=⟨hg⟩;refine bS Tryz.func59 rfl Tryz.ntmps59 rfl ?_;refine Gc ?_;refine bM rfl fun b1=>?_;refine y7 ?_;refine Gb (fun h0=>?_) fun h0=>?_
 ·
  have hz:ir g.ms.xs=false:=by
   cases hg:ir g.ms.xs with
   |false=>rfl
   |true=>obtain⟨q1,q2,q3,q4⟩:=uk.1 hg;omega
  refine ak ?_;refine Gr fun w1 hw=>?_;exact Ge (hz.symm) hw
 refine aS ?_;refine bA (X:=Nat) (fun U=>[(18, .int .i64 (U:Nat)),(1, .pointer (some ⟨b1,0,none⟩)),(16,g.ms.sv.val),(17, .int .i64 (g.ms.xs.length:Nat))]) (fun U=>[an b1 (dh g) 133]) (fun U=>U<=g.ms.xs.length/\ ∀x∈g.ms.xs.take U,An x=true) (fun U=>g.ms.xs.length -U) 0 ⟨Nat.zero_le _,by simp⟩ sb (fun w hw=>ai.mem hw) ?_;rintro i ⟨aT,az⟩;refine ak ?_;refine Gb (fun h1=>?_) fun h1=>?_
 ·
  obtain⟨m,hm⟩:=get_some (xs:=g.ms.xs) (i:=i) oM;refine Gc ?_;refine ag (aR rfl rfl i rfl oM) ?_;refine ag (dO rfl i hm rfl) ?_;refine bj fun b4=>?_;refine k7 ?_;refine Gb (fun h2=>?_) fun h2=>?_
  ·
   have hz:ir g.ms.xs=false:=by
    cases hg:ir g.ms.xs with
    |false=>rfl
    |true=>obtain⟨q1,q2,q3,q4⟩:=uk.1 hg;have:=q3 m (List.mem_of_getElem? hm);omega
   refine ak ?_;refine Gr fun w1 hw=>?_;exact Ge (hz.symm) hw
  have abW:An m=true:=by rw[An,decide_eq_true oM,decide_eq_true oM];rfl
  refine ak ?_;refine Gi ?_;exact aV (x:=(i)) (i+1) ⟨oF,OC az hm abW⟩ oF sb (fun w hw=>ai.mem hw)
 obtain rfl:i=g.ms.xs.length:=by omega
 have hz:kN (g.ms.xs.map Mr.aY)=ir g.ms.xs:=by
  rw[ir,decide_eq_true oM,decide_eq_true oM,List.all_eq_true.2 fun x hx=>az x (by rw[List.take_length];exact hx)];simp
 refine ak ?_;refine dm (bV rfl oM) ?_;refine au ?_;refine Gr fun w1 hw=>?_;exact Ge (hz) hw
instance alp{g:Gp}[hg:aO w0 L g]:bO Tryz.prog 59 w0 L [.agg (dh g)] (.bool (ir g.ms.xs)) (True):=⟨fun hp w hw=>abV w g (hg.h w hw)⟩
theorem abX(w:World)(l:Sl Gp)(hl:Deep.aU (hp w) l):Calls Tryz.prog 14 #[l.sv.val] w fun e w'=>e= .returned (.bool (fT (bt l.xs)))/\Mem w [] w':=by
 have jh:bQ w l:=⟨hl⟩;have oA:=yc l.xs;refine bS Tryz.func14 rfl Tryz.ntmps14 rfl ?_;refine cw ?_;refine Gb (fun h0=>?_) fun h0=>?_
 ·
  have hz:fT (bt l.xs)=false:=by rw[fT,decide_eq_false oM];rfl
  refine ak ?_;refine Gr fun w1 hw=>?_;exact Ge (hz.symm) hw
 refine aK ?_;refine bA (X:=Nat) (fun U=>[(10, .int .i64 (U:Nat)),(0,l.sv.val),(8,l.sv.val),(9, .int .i64 (l.xs.length:Nat))]) (fun U=>[]) (fun U=>U<=l.xs.length/\ ∀x∈l.xs.take U,ir x.ms.xs=true) (fun U=>l.xs.length -U) 0 ⟨Nat.zero_le _,by simp⟩ sb (fun w hw=>ai.mem hw) ?_;rintro i ⟨aT,az⟩;refine ak ?_;refine Gb (fun h1=>?_) fun h1=>?_
 ·
  obtain⟨m,hm⟩:=get_some (xs:=l.xs) (i:=i) oM;have mbm:Mb m _:=⟨List.mem_of_getElem? hm⟩;refine Gc ?_;refine ag (aR rfl rfl i rfl oM) ?_;refine ag (dO rfl i hm rfl) ?_;have alq:Mb m l:=⟨List.mem_of_getElem? hm⟩;refine bj fun b4=>?_;refine aS ?_;refine Gb (fun h2=>?_) fun h2=>?_
  ·
   have hz:fT (bt l.xs)=false:=by
    cases hg:fT (bt l.xs)with
    |false=>rfl
    |true=>have:=(oL.1 hg).2.1 (jG m) (List.mem_map_of_mem (List.mem_of_getElem? hm));rw[show(jG m).2=m.ms.xs from rfl,h2]at this;cases this
   refine ak ?_;refine Gr fun w1 hw=>?_;exact Ge (hz.symm) hw
  refine ak ?_;refine Gi ?_;exact aV (x:=(i)) (i+1) ⟨oF,OC az hm (by simpa using h2)⟩ oF sb (fun w hw=>ai.mem hw)
 obtain rfl:i=l.xs.length:=by omega
 have hz:kN (l.xs.map Gp.num)=fT (bt l.xs):=by
  rw[fT,decide_eq_true oM,List.all_eq_true.2 fun x hx=>by obtain⟨y,hy,rfl⟩:=List.mem_map.1 hx;exact az y (by rw[List.take_length];exact hy)];simp[bt,jG,Function.comp_def]
 refine au ?_;refine dm (bV rfl oM) ?_;refine au ?_;refine Gr fun w1 hw=>?_;exact Ge (hz) hw
instance alr{l:Sl Gp}[hl:aO w0 L l]:bO Tryz.prog 14 w0 L [l.sv.val] (.bool (fT (bt l.xs))) (True):=⟨fun hp w hw=>abX w l (hl.h w hw)⟩
theorem abY(w:World)(g:Gp)(hg:Deep.aU (hp w) g):Calls Tryz.prog 64 #[.agg (dh g)] w fun e w'=>e= .returned (.int .i64 (lL g.ms.xs))/\Mem w [] w':=by
 have OG:bQ w g:=⟨hg⟩;refine bS Tryz.func64 rfl Tryz.ntmps64 rfl ?_;refine Gc ?_;refine bM rfl fun b1=>?_;refine aS ?_;refine Gb (fun h0=>?_) fun h0=>?_
 ·
  have hz:lL g.ms.xs=0:=if_neg (by rw[h0];simp);refine ak ?_;refine Gr fun w1 hw=>?_;exact Gf (hz.symm) hw
 have hg:ir g.ms.xs=true:=by simpa using h0
 obtain⟨k1,k2,k3,_⟩:=uk.1 hg;refine dr ?_;refine bA (X:=Nat) (fun U=>[(12, .int .i64 (U:Nat)),(3, .int .i64 (gp (g.ms.xs.take U))),(10,g.ms.sv.val),(11, .int .i64 (g.ms.xs.length:Nat))]) (fun U=>[an b1 (dh g) 133]) (fun U=>U<=g.ms.xs.length) (fun U=>g.ms.xs.length -U) 0 (Nat.zero_le _) sb (fun w hw=>ai.mem hw) ?_;rintro i aT;refine ak ?_;refine Gb (fun h1=>?_) fun h1=>?_
 ·
  obtain⟨m,hm⟩:=get_some (xs:=g.ms.xs) (i:=i) oM;have CG:=k3 m (List.mem_of_getElem? hm);have Xj:=HO (ms:=g.ms.xs.take i) (fun x hx=>k3 x (List.mem_of_mem_take hx));have kA:(g.ms.xs.take i).length=i:=by rw[List.length_take];omega
  refine Gc ?_;refine ag (aR rfl rfl i rfl oM) ?_;refine ag (dO rfl i hm rfl) ?_;refine bj fun b5=>?_;refine pe ?_;refine Gi ?_;exact aV (x:=(i)) (i+1) oF oF (Sub.cons rfl (Sub.cons (look_eq rfl (by rw[abG hm])) sb)) (fun w hw=>ai.mem hw)
 obtain rfl:i=g.ms.xs.length:=by omega
 have hz:lL g.ms.xs=gp (g.ms.xs.take g.ms.xs.length):=by rw[List.take_length];exact if_pos hg
 refine aq ?_;refine Gr fun w1 hw=>?_;exact Gf (hz.symm) hw
instance als{g:Gp}[hg:aO w0 L g]:bO Tryz.prog 64 w0 L [.agg (dh g)] (.int .i64 (lL g.ms.xs)) (True):=⟨fun hp w hw=>abY w g (hg.h w hw)⟩
theorem abZ(w:World)(a:UInt16):Calls Tryz.prog 199 #[.int .u16 (a.toNat:Nat)] w fun e w'=>e= .returned (.bool false)/\Mem w [] w':=by
 refine bS Tryz.func199 rfl Tryz.ntmps199 rfl ?_;refine dr ?_;refine Gr fun w1 hw=>?_;exact Ge ((by simp)) hw
instance alu{a:UInt16}:bO Tryz.prog 199 w0 L [.int .u16 (a.toNat:Nat)] (.bool false) (True):=⟨fun hp w hw=>abZ w a⟩
theorem ab0(w:World)(a:UInt16)(b:UInt16):Calls Tryz.prog 133 #[.int .u16 (a.toNat:Nat), .int .u16 (b.toNat:Nat)] w fun e w'=>e= .returned (.int .i64 (if a<b then(-1:Int)else if b<a then 1 else 0))/\Mem w [] w':=by
 have ye: ∀a b:UInt16,a<b↔(a.toNat:Int)<(b.toNat:Int):=fun a b=>by rw[nS];omega
 refine cl Tryz.func133 rfl Tryz.ntmps133 rfl ?_;refine y7 ?_;refine iw rfl (fun h0=>?_) (fun h0=>?_)
 ·
  exfalso;simp at h0
 replace h0:=bz h0;refine ak ?_;refine iw rfl (fun h2=>?_) (fun h2=>?_)
 ·
  exfalso;simp at h2
 replace h2:=bz h2;refine aK ?_;refine Gb (fun h3=>?_) fun h3=>?_
 ·
  refine ak ?_;refine Gr fun w1 hw=>?_;exact Gf ((by rw[if_pos ((ye _ _).2 oM)])) hw
 refine aK ?_;refine Gb (fun h4=>?_) fun h4=>?_
 ·
  refine ak ?_;refine Gr fun w1 hw=>?_;exact Gf ((by rw[if_neg (fun h=>by rw[ye]at h;omega),if_pos ((ye _ _).2 oM)])) hw
 refine ak ?_;refine Gr fun w1 hw=>?_;exact Gf ((by rw[if_neg (fun h=>by rw[ye]at h;omega),if_neg (fun h=>by rw[ye]at h;omega)])) hw
instance alv{a:UInt16}{b:UInt16}:bO Tryz.prog 133 w0 L [.int .u16 (a.toNat:Nat), .int .u16 (b.toNat:Nat)] (.int .i64 (if a<b then(-1:Int)else if b<a then 1 else 0)) (True):=⟨fun hp w hw=>ab0 w a b⟩
theorem OH(w:World)(g:Gp)(n:UInt16)(hg:Deep.aU (hp w) g):Calls Tryz.prog 132 #[.agg (dh g), .int .u16 (n.toNat:Nat)] w fun e w'=>e= .returned (.int .i64 (if g.num<n then(-1:Int)else if n<g.num then 1 else 0))/\Mem w [] w':=by
 have OG:bQ w g:=⟨hg⟩;refine cl Tryz.func132 rfl Tryz.ntmps132 rfl ?_;refine Gc ?_;refine bM rfl fun b2=>?_;refine dr ?_;refine Gr fun w1 hw=>?_;exact⟨rfl,ai.mem hw⟩
theorem ab1(a b:UInt16):(if a<b then(-1:Int)else if b<a then 1 else 0)=0↔a=b:=by
 by_cases h1:a<b
 ·
  rw[if_pos h1];exact⟨fun h=>by omega,fun h=>absurd h (OB h1)⟩
 rw[if_neg h1]
 by_cases h2:b<a
 ·
  rw[if_pos h2];exact⟨fun h=>by omega,fun h=>absurd h.symm (OB h2)⟩
 rw[if_neg h2];exact⟨fun _=>UInt16.toNat_inj.1 (by rw[nS]at h1 h2;omega),fun _=>rfl⟩
theorem ab2(w:World)(l:Sl Gp)(n:UInt16)(hl:Deep.aU (hp w) l)(aP:l.xs.length<=1000000):Calls Tryz.prog 131 #[l.sv.val, .int .u16 (n.toNat:Nat), .func (.func 132) #[] #[]] w fun e w'=>e= .returned (.tuple #[.int .i64 ((dV (bt l.xs) n):Nat), .bool (kO (bt l.xs) n)])/\Mem w [] w':=by
 have jh:bQ w l:=⟨hl⟩;have oA:=yc l.xs;have ye: ∀a b:UInt16,a<b↔(a.toNat:Int)<(b.toNat:Int):=fun a b=>by rw[nS];omega
 refine pf Tryz.func131 rfl Tryz.ntmps131 rfl ?_;refine wP ?_;refine bA (X:=Nat×Nat) (fun U=>[(9, .int .i64 (U.1:Nat)),(10, .int .i64 (U.2:Nat)),(0,l.sv.val),(1, .int .u16 (n.toNat:Nat)),(2, .func (.func 132) #[] #[]),(8, .int .i64 (l.xs.length:Nat))]) (fun U=>[]) (fun U=>U.1<=U.2/\U.2<=l.xs.length/\iL (oN (bt l.xs) n) (l.xs.length+1) U.1 U.2=iL (oN (bt l.xs) n) (l.xs.length+1) 0 l.xs.length) (fun U=>U.2 -U.1) (0,l.xs.length) ⟨Nat.zero_le _,Nat.le_refl _,rfl⟩ sb (fun w hw=>ai.mem hw) ?_;rintro⟨i,j⟩ ⟨aT,az,ba⟩;dsimp only;simp only at aT az ba;refine aK ?_;refine Gb (fun h0=>?_) fun h0=>?_
 ·
  obtain⟨x,hx⟩:=get_some (xs:=l.xs) (i:=(i+j)/2) oM;have nN:oN (bt l.xs) n ((i+j)/2)= !decide (x.num<n):=by rw[oN,Dn hx];rfl
  refine aq ?_;refine ag (kc (n:=i+j) rfl (by simp only[nb];omega)) ?_;refine ag (qZ (p:=i+j) rfl rfl (by simp only[nb];omega) oM) ?_;refine ag (kc (n:=(i+j)/2^1) rfl (by simp only[nb];omega)) ?_;refine aK ?_;refine ag (aR rfl rfl ((i+j)/2) rfl oM) ?_;refine ag (dO rfl ((i+j)/2) hx rfl) ?_;have ab3:Mb x l:=⟨List.mem_of_getElem? hx⟩;refine Gs ?_;refine dm (qH rfl rfl (fun w1 iR=>OH w1 x n (((inferInstance:aO w _ l).h w1 iR).2 x (List.mem_of_getElem? hx)))) ?_;refine au ?_;refine Gb (fun h1=>?_) fun h1=>?_
  ·
   have aW:x.num<n:=by
    apply Classical.byContradiction;intro hc;rw[if_neg hc]at h1;split at h1<;>omega
   refine Gi ?_;refine ak ?_;refine iV ?_;exact aV (x:=(i,j)) ((i+j)/2+1,j) ⟨oF,az,by rw[←ba,Cz (show i<j by first|omega|(simp only[];omega)) oF,if_neg (by rw[nN,decide_eq_true aW];simp)]⟩ (by simp only;omega) sb (fun w hw=>ai.mem hw)
  have aW: ¬x.num<n:=fun hc=>by rw[if_pos hc]at h1;omega
  refine Gi ?_;refine au ?_;refine iV ?_;exact aV (x:=(i,j)) (i,(i+j)/2) ⟨oF,oF,by rw[←ba,Cz (show i<j by first|omega|(simp only[];omega)) oF,if_pos (by rw[nN,decide_eq_false aW];rfl)]⟩ (by simp only;omega) sb (fun w hw=>ai.mem hw)
 have hz:dV (bt l.xs) n=i:=by rw[dV,bs,oA,←ba,MB oM oM]
 refine fc ?_;refine fq rfl rfl rfl (fun hg=>(Ry.yl (aR (ay hg rfl) (ay hg rfl) i rfl (by simp only[Z0,Z1,Z2,Z3,Z4,Z5,Z6,Z7,Z8,Z9]at hg;omega)))) ?_;refine fq rfl rfl rfl (fun hg=>(Ry.yl (dO (ay hg rfl) i (kW (xs:=l.xs) (i:=i) (d:=vT) (by simp only[decide_eq_true_eq]at hg;omega)) rfl))) ?_;refine Gg ?_;refine fq rfl rfl rfl (fun hg=>qH (ay hg rfl) (di (ay hg rfl) (di (ay hg rfl) fF)) (fun w1 iR=>OH w1 (l.xs.getD i vT) n (((inferInstance:aO w _ l).h w1 iR).2 _ (List.mem_of_getElem? (kW (xs:=l.xs) (i:=i) (d:=vT) (by simp only[decide_eq_true_eq]at hg;omega)))))) ?_;refine aK ?_;refine Gr fun w1 hw=>?_;exact⟨(by rw[abJ _ _ (jG vT),hz,oA,show((bt l.xs).getD i (jG vT)).1=(l.xs.getD i vT).num from by simp only[bt,List.getD,List.getElem?_map];cases l.xs[i]? <;>rfl];congr 3;by_cases hc:((i:Nat):Int)<(l.xs.length:Int)<;>simp[hc];exact ab1 _ _),ai.mem hw⟩
instance alw{l:Sl Gp}{n:UInt16}[hl:aO w0 L l]:bO Tryz.prog 131 w0 L [l.sv.val, .int .u16 (n.toNat:Nat), .func (.func 132) #[] #[]] (.tuple #[.int .i64 ((dV (bt l.xs) n):Nat), .bool (kO (bt l.xs) n)]) (l.xs.length<=1000000):=⟨fun hp w hw=>ab2 w l n (hl.h w hw) hp⟩
theorem ab4(w:World)(l:Sl Gp)(n:UInt16)(hl:Deep.aU (hp w) l)(aP:l.xs.length<=1000000):Calls Tryz.prog 63 #[l.sv.val, .int .u16 (n.toNat:Nat)] w fun e w'=>e= .returned (.tuple #[.int .i64 ((dV (bt l.xs) n):Nat), .bool (kO (bt l.xs) n)])/\Mem w [] w':=by
 have jh:bQ w l:=⟨hl⟩;refine cl Tryz.func63 rfl Tryz.ntmps63 rfl ?_;refine aS ?_;refine dm (bV rfl oM) ?_;refine ag (aL (v:= .int .i64 ((dV (bt l.xs) n):Nat)) rfl rfl) ?_;refine ag (aL (v:= .bool (kO (bt l.xs) n)) rfl rfl) ?_;refine ak ?_;refine Gr fun w1 hw=>?_;exact⟨rfl,ai.mem hw⟩
instance alx{l:Sl Gp}{n:UInt16}[hl:aO w0 L l]:bO Tryz.prog 63 w0 L [l.sv.val, .int .u16 (n.toNat:Nat)] (.tuple #[.int .i64 ((dV (bt l.xs) n):Nat), .bool (kO (bt l.xs) n)]) (l.xs.length<=1000000):=⟨fun hp w hw=>ab4 w l n (hl.h w hw) hp⟩
theorem ab5(w:World)(l:Sl Gp)(n:UInt16)(h:UInt32)(hl:Deep.aU (hp w) l):Calls Tryz.prog 16 #[l.sv.val, .int .u16 (n.toNat:Nat), .int .u32 (h.toNat:Nat)] w fun e w'=>e= .returned (.tuple #[.int .u16 ((mz (bt l.xs) n h.toNat).toNat:Nat), .int .i64 (hK (bt l.xs) n h.toNat)])/\Mem w [] w':=by
 have jh:bQ w l:=⟨hl⟩;have oA:=yc l.xs;have X0:=h.toNat_lt;refine pf Tryz.func16 rfl Tryz.ntmps16 rfl ?_;refine dr ?_;refine Gb (fun h0=>?_) fun h0=>?_
 ·
  have hE:hK (bt l.xs) n h.toNat=1:=if_neg (by rw[h0];simp);have hH:mz (bt l.xs) n h.toNat=0:=if_neg (by rw[hE];decide);refine aq ?_;refine Gr fun w1 hw=>?_;exact⟨by rw[hE,hH];rfl,ai.mem hw⟩
 have hg:fT (bt l.xs)=true:=by simpa using h0
 have aly:=(oL.1 hg).1;refine ak ?_;refine dm (bV rfl oM) ?_;refine Gs ?_;refine ag (aL (v:= .int .i64 ((dV (bt l.xs) n):Nat)) rfl rfl) ?_;refine ag (aL (v:= .bool (kO (bt l.xs) n)) rfl rfl) ?_;refine aS ?_;refine Gb (fun h1=>?_) fun h1=>?_
 ·
  have hE:hK (bt l.xs) n h.toNat=6:=by rw[hK,if_pos hg,if_neg (by rw[h1];simp)]
  have hH:mz (bt l.xs) n h.toNat=0:=if_neg (by rw[hE];decide);refine aq ?_;refine Gr fun w1 hw=>?_;exact⟨by rw[hE,hH];rfl,ai.mem hw⟩
 have hb:kO (bt l.xs) n=true:=by simpa using h1
 obtain⟨y,hy,vH,hy3⟩:=Oz hb;have hNl:(dV (bt l.xs) n)<l.xs.length:=by have:=(List.getElem?_eq_some_iff.1 vH).1;omega
 obtain⟨x,hx⟩:=get_some (xs:=l.xs) (i:=(dV (bt l.xs) n)) hNl;have CN:Mb x _:=⟨List.mem_of_getElem? hx⟩;have e1:(bt l.xs).getD (dV (bt l.xs) n) (0,[])=jG x:=by rw[List.getD,Dn hx];rfl
 have xN:ir x.ms.xs=true:=(oL.1 hg).2.1 (jG x) (List.mem_of_getElem? (Dn hx));obtain⟨k1,k2,k3⟩:=HR xN;obtain⟨q1,q2,q3,_⟩:=uk.1 xN;have WJ:(h.toNat%(lL x.ms.xs).toNat)<(lL x.ms.xs).toNat:=Nat.mod_lt _ oM;have ep:yd (bt l.xs) n h.toNat=kP x.ms.xs (((h.toNat%(lL x.ms.xs).toNat):Nat):Int):=by rw[yd,e1];rfl
 have eE:hK (bt l.xs) n h.toNat=(if(kP x.ms.xs (((h.toNat%(lL x.ms.xs).toNat):Nat):Int)).isSome=true then 0 else 6):=by rw[hK,if_pos hg,if_pos hb,ep]
 refine aq ?_;refine ag (aR rfl rfl (dV (bt l.xs) n) rfl oM) ?_;refine ag (dO rfl (dV (bt l.xs) n) hx rfl) ?_;have ab3:Mb x l:=⟨List.mem_of_getElem? hx⟩;refine Gs ?_;refine ag (Ry.to (v':= .int .u32 (((lL x.ms.xs).toNat:Nat):Int)) (AM rfl oM (by simp only[nb];omega)) (by congr 1;omega)) ?_;refine ag (D2 (p:=h.toNat) (q:=(lL x.ms.xs).toNat) rfl rfl rfl rfl oM) ?_;refine ag (kc rfl (by simp only[nb];omega)) ?_;refine aq ?_;refine ag (aR rfl rfl (dV (bt l.xs) n) rfl oM) ?_;refine ag (aN rfl rfl) ?_;refine ag (bw (j:=1) rfl (dV (bt l.xs) n) hx rfl (by decide)) ?_;have alz:Mb x _:=⟨List.mem_of_getElem? hx⟩;refine ak ?_;refine bA (X:=Nat×Int) (fun U=>[(39, .int .i64 (U.1:Nat)),(10, .int .i64 U.2),(37,x.ms.sv.val),(38, .int .i64 (x.ms.xs.length:Nat))]) (fun U=>[]) (fun U=>U.1<=x.ms.xs.length/\kP x.ms.xs (((h.toNat%(lL x.ms.xs).toNat):Nat):Int)=kP (x.ms.xs.drop U.1) U.2/\0<=U.2/\U.2<=1600) (fun U=>x.ms.xs.length -U.1) (0,(((h.toNat%(lL x.ms.xs).toNat):Nat):Int)) ⟨Nat.zero_le _,by rw[List.drop_zero],by simp only;omega,by simp only;omega⟩ sb (fun w hw=>ai.mem hw) ?_;rintro⟨k,lf⟩ ⟨aT,az,ba,ck⟩;dsimp only;simp only at aT az ba ck;refine ak ?_;refine Gb (fun h2=>?_) fun h2=>?_
 ·
  obtain⟨m,hm⟩:=get_some (xs:=x.ms.xs) (i:=k) oM;have CG:=q3 m (List.mem_of_getElem? hm);have bk:kP (x.ms.xs.drop k) lf=if lf<m.w then some m.aY else kP (x.ms.xs.drop (k+1)) (lf -m.w):=by rw[abR hm,kP]
  refine Gc ?_;refine ag (aR rfl rfl k rfl oM) ?_;refine ag (dO rfl k hm rfl) ?_;refine bj fun se=>?_;refine cw ?_;refine Gb (fun h3=>?_) fun h3=>?_
  ·
   have yD:kP x.ms.xs (((h.toNat%(lL x.ms.xs).toNat):Nat):Int)=some m.aY:=by rw[az,bk,if_pos h3]
   have hE:hK (bt l.xs) n h.toNat=0:=by rw[eE,yD];rfl
   have hH:mz (bt l.xs) n h.toNat=m.aY:=by rw[mz,if_pos hE,ep,yD];rfl
   refine aS ?_;refine Gr fun w1 hw=>?_;exact⟨by rw[hE,hH],ai.mem hw⟩
  rw[if_neg h3]at bk;refine fc ?_;refine Gi ?_;exact aV (x:=(k,lf)) (k+1,lf -m.w) ⟨oF,by rw[az,bk],by simp only;omega,by simp only;omega⟩ (by simp only;omega) sb (fun w hw=>ai.mem hw)
 have FN:kP x.ms.xs (((h.toNat%(lL x.ms.xs).toNat):Nat):Int)=none:=by rw[az,List.drop_of_length_le oM];rfl
 have hE:hK (bt l.xs) n h.toNat=6:=by rw[eE,FN];rfl
 have hH:mz (bt l.xs) n h.toNat=0:=if_neg (by rw[hE];decide);refine aq ?_;refine Gr fun w1 hw=>?_;exact⟨by rw[hE,hH];rfl,ai.mem hw⟩
instance alA{l:Sl Gp}{n:UInt16}{h:UInt32}[hl:aO w0 L l]:bO Tryz.prog 16 w0 L [l.sv.val, .int .u16 (n.toNat:Nat), .int .u32 (h.toNat:Nat)] (.tuple #[.int .u16 ((mz (bt l.xs) n h.toNat).toNat:Nat), .int .i64 (hK (bt l.xs) n h.toNat)]) (True):=⟨fun hp w hw=>ab5 w l n h (hl.h w hw)⟩
theorem ab6{zs:List Gp}{i:Nat}{z:Gp}(h:zs[i]? =some z)(s:Sv):bt (zs.set i ⟨z.num,⟨s,z.ms.xs⟩⟩)=bt zs:=by
 rw[bt,List.map_set];have:jG ⟨z.num,⟨s,z.ms.xs⟩⟩=jG z:=rfl;rw[this];obtain⟨hi,rfl⟩:=List.getElem?_eq_some_iff.1 h;refine List.ext_getElem? fun j=>?_;rw[List.getElem?_set]
 by_cases hj:i=j
 ·
  subst hj;rw[if_pos rfl,if_pos (by simpa using hi)];simp[hi,bt]
 rw[if_neg hj];rfl
theorem ab7(w:World)(s:Sv)(ss:List Gp)(hs:bI dh 2 (hp w) s ss)(aP:ss.length<=1000000):Calls Tryz.prog 134 #[s.val] w fun e w'=> ∃U:Sv,e= .returned (U.val)/\(True)/\Mem w [own dh 2 U ss] w':=by
 have r8:Gv w s dh 2 ss:=⟨hs⟩;refine bS Tryz.func134 rfl Tryz.ntmps134 rfl ?_;refine aq ?_;refine ag (oU Tryz.underlying23 rfl) ?_;refine Gc ?_;refine Gb (fun h0=>?_) fun h0=>?_
 ·
  have e0:ss=[]:=List.length_eq_zero_iff.1 (by have:=hs.ok.nil h0;have:=hs.len;omega);refine ak ?_;refine Gr fun w1 hw=>?_;exact⟨Sv.none,rfl,trivial,by rw[e0];exact(ai.mem hw:Mem w [] _).cR dh 2⟩
 refine Gc ?_;refine qe dh fun b5=>?_;refine Gs ?_;refine iS (s:=⟨false,b5,0,0,0,none⟩) (enc:=dh) (ys:=ss) rfl rfl (by decide) (fun w hw=>gM (s:=s) Tryz.underlying23 (by decide) ((inferInstance:cz _ _ dh 2 s ss).h w hw)) (by simp only[List.length_nil];omega) (by simp only[List.length_nil];omega) fun s7 r9 qJ=>?_;refine au ?_;refine Gr fun w1 hw=>?_;exact⟨s7,rfl,trivial,by rw[List.nil_append]at hw;exact ai.mem hw⟩
instance alB{s:Sv}{ss:List Gp}[hs:cz w0 L dh 2 s ss]:bJ Tryz.prog 134 w0 L [s.val] (Sv) (fun U=>U.val) (fun U=>own dh 2 U ss::L) (fun U=>True) (ss.length<=1000000):=⟨fun hp w hw=>(ab7 w s ss (hs.h w hw) hp).mono fun e w' ⟨x,h1,h2,h3⟩=>⟨x,h1,h2,hw.call h3⟩⟩
theorem ab8(w:World)(s:Sv)(ss:List Mr)(hs:bI gn 2 (hp w) s ss)(aP:ss.length<=140737488355328/100):Calls Tryz.prog 135 #[s.val] w fun e w'=> ∃U:Sv,e= .returned (U.val)/\(True)/\Mem w [own gn 2 U ss] w':=by
 have r8:Gv w s gn 2 ss:=⟨hs⟩;refine bS Tryz.func135 rfl Tryz.ntmps135 rfl ?_;refine aq ?_;refine ag (oU Tryz.underlying131 rfl) ?_;refine Gc ?_;refine Gb (fun h0=>?_) fun h0=>?_
 ·
  have e0:ss=[]:=List.length_eq_zero_iff.1 (by have:=hs.ok.nil h0;have:=hs.len;omega);refine ak ?_;refine Gr fun w1 hw=>?_;exact⟨Sv.none,rfl,trivial,by rw[e0];exact(ai.mem hw:Mem w [] _).cR gn 2⟩
 refine Gc ?_;refine qe gn fun b5=>?_;refine Gs ?_;refine iS (s:=⟨false,b5,0,0,0,none⟩) (ys:=ss) rfl rfl (by decide) (fun w hw=>gM (s:=s) Tryz.underlying131 (by decide) ((inferInstance:Hd _ _ s gn 2 ss).h w hw)) (by simp only[List.length_nil];omega) (by simp only[List.length_nil];omega) fun s7 r9 qJ=>?_;refine au ?_;refine Gr fun w1 hw=>?_;exact⟨s7,rfl,trivial,by rw[List.nil_append]at hw;exact ai.mem hw⟩
instance alC{s:Sv}{ss:List Mr}[hs:cz w0 L gn 2 s ss]:bJ Tryz.prog 135 w0 L [s.val] (Sv) (fun U=>U.val) (fun U=>own gn 2 U ss::L) (fun U=>True) (ss.length<=140737488355328/100):=⟨fun hp w hw=>(ab8 w s ss (hs.h w hw) hp).mono fun e w' ⟨x,h1,h2,h3⟩=>⟨x,h1,h2,hw.call h3⟩⟩
theorem ab9(w:World)(l:Sl Gp)(hl:Deep.aU (hp w) l)(aP:l.xs.length<=1000000/\ ∀x∈l.xs,x.ms.xs.length<=1000000):Calls Tryz.prog 65 #[l.sv.val] w fun e w'=> ∃U:Sl Gp×List ah,e= .returned (U.1.sv.val)/\(ql U.1.xs U.2/\bt U.1.xs=bt l.xs)/\Mem w [own dh 2 U.1.sv U.1.xs,ah.all U.2] w':=by
 have jh:bQ w l:=⟨hl⟩;obtain⟨fh,fQ⟩:=aP;refine bS Tryz.func65 rfl Tryz.ntmps65 rfl ?_;refine aq ?_;refine bf rfl oM fun x5 CK=>?_;refine aS ?_;refine bA (X:=Nat×List Gp×List ah) (fun U=>[(8, .int .i64 (U.1:Nat)),(0,x5.val),(7, .int .i64 (l.xs.length:Nat))]) (fun U=>[own dh 2 x5 U.2.1,ah.all U.2.2]) (fun U=>U.1<=l.xs.length/\U.2.1.length=l.xs.length/\bt U.2.1=bt l.xs/\(∀j,U.1<=j->U.2.1[j]? =l.xs[j]?)/\ ∀z∈U.2.1.take U.1,Deep.bE z∈U.2.2) (fun U=>l.xs.length -U.1) (0,l.xs,[]) ⟨Nat.zero_le _,rfl,rfl,fun j _=>rfl,by simp⟩ sb (fun w hw=>ai.mem (Mem.rr hw)) ?_;rintro⟨i,zs,es⟩ ⟨aT,az,ba,ck,sk⟩;dsimp only;simp only at aT az ba ck sk;refine ak ?_;refine Gb (fun h0=>?_) fun h0=>?_
 ·
  obtain⟨z,hz⟩:=get_some (xs:=zs) (i:=i) oM;have qI:l.xs[i]? =some z:=by rw[←ck i (Nat.le_refl _)];exact hz
  have sa:Mb z l:=⟨List.mem_of_getElem? qI⟩;have Hy:=fQ z (List.mem_of_getElem? qI);refine dr ?_;refine ag (aR rfl rfl i rfl oM) ?_;refine ag (aN rfl rfl) ?_;refine ag (bw (j:=1) rfl i hz rfl (by decide)) ?_;refine bf rfl oM fun bD qP=>?_;refine ag (aR rfl rfl i rfl oM) ?_;refine ag (aN rfl rfl) ?_;refine iz (n:=1) (k:=i) (j:=1) (a:=z) (a':=(⟨z.num,⟨bD,z.ms.xs⟩⟩:Gp)) (xs:=zs) (enc:=dh) (c:=2) (v:=bD.val) oK rfl rfl rfl hz (by rw[Sv.fY];simp[Sv.one]) (by rw[Sv.fY];rfl) (by decide) (by rw[Sv.fY];rfl) ?_;refine ak ?_;refine Gi ?_;exact aV (x:=(i,zs,es)) (i+1,zs.set i (⟨z.num,⟨bD,z.ms.xs⟩⟩:Gp),Deep.bE (⟨bD,z.ms.xs⟩:Sl Mr)::es) ⟨oF,by rw[List.length_set];exact az,by rw[ab6 hz];exact ba,fun j hj=>by simp only at hj;rw[List.getElem?_set_ne oF];exact ck j oF,fun y hy=>by
   have fa:(zs.set i (⟨z.num,⟨bD,z.ms.xs⟩⟩:Gp))[i]? =some (⟨z.num,⟨bD,z.ms.xs⟩⟩:Gp):=List.getElem?_set_self oF;rw[List.take_add_one,fa,List.take_set_of_le (Nat.le_refl _)]at hy;rcases List.mem_append.1 hy with h|h
   ·
    exact List.mem_cons_of_mem _ (sk y h)
   rw[show y=(⟨z.num,⟨bD,z.ms.xs⟩⟩:Gp) by simpa using h];exact List.mem_cons_self⟩ (by simp only;omega) sb (fun w hw=>ai.mem (Mem.EX (ai.mem (Mem.BC (ai.mem hw:Mem _ [own gn 2 bD z.ms.xs,own dh 2 x5 (zs.set i (⟨z.num,⟨bD,z.ms.xs⟩⟩:Gp)),ah.all es] _)):Mem _ [Deep.bE (⟨bD,z.ms.xs⟩:Sl Mr),ah.all es,own dh 2 x5 (zs.set i (⟨z.num,⟨bD,z.ms.xs⟩⟩:Gp))] _)))
 obtain rfl:i=l.xs.length:=by omega
 have ku: ∀z∈zs,Deep.bE z∈es:=fun z hz=>sk z (by rw[List.take_of_length_le oM];exact hz);refine aq ?_;refine Gr fun w1 hw=>?_;exact⟨(⟨x5,zs⟩,es),rfl,⟨⟨ku⟩,ba⟩,ai.mem hw⟩
instance alD{l:Sl Gp}[hl:aO w0 L l]:bJ Tryz.prog 65 w0 L [l.sv.val] (Sl Gp×List ah) (fun U=>U.1.sv.val) (fun U=>own dh 2 U.1.sv U.1.xs::ah.all U.2::L) (fun U=>ql U.1.xs U.2/\bt U.1.xs=bt l.xs) (l.xs.length<=1000000/\ ∀x∈l.xs,x.ms.xs.length<=1000000):=⟨fun hp w hw=>(ab9 w l (hl.h w hw) hp).mono fun e w' ⟨x,h1,h2,h3⟩=>⟨x,h1,h2,hw.call h3⟩⟩
theorem aca(w:World)(l:Sl Gp)(h:UInt16)(hl:Deep.aU (hp w) l)(aP:l.xs.length<=1000000/\(∀x∈l.xs,x.ms.xs.length<=1000000)):Calls Tryz.prog 17 #[l.sv.val, .int .u16 (h.toNat:Nat)] w fun e w'=> ∃U:Sl Gp×List ah,e= .returned (U.1.sv.val)/\(ql U.1.xs U.2/\bt U.1.xs=jH (bt l.xs) h)/\Mem w [own dh 2 U.1.sv U.1.xs,ah.all U.2] w':=by
 have jh:bQ w l:=⟨hl⟩;obtain⟨fh,fQ⟩:=aP;have oA:=yc l.xs;refine cl Tryz.func17 rfl Tryz.ntmps17 rfl ?_;refine cw ?_;refine Gb (fun h0=>?_) fun h0=>?_
 ·
  have hL:jH (bt l.xs) h=bt l.xs:=if_neg (by rw[h0];simp);refine au ?_;refine bf rfl ⟨fh,fQ⟩ fun Ak Dc=>?_;refine au ?_;refine Gr fun w1 hw=>?_;exact⟨Ak,rfl,⟨Dc.1,by rw[hL,Dc.2]⟩,ai.mem hw⟩
 have hg:fT (bt l.xs)=true:=by simpa using h0
 have hL:jH (bt l.xs) h=(bt l.xs).filterMap (lost h):=if_pos hg;refine cw ?_;refine bA (X:=Nat×Sv×List Gp×List ah) (fun U=>[(18, .int .i64 (U.1:Nat)),(5,U.2.1.val),(1, .int .u16 (h.toNat:Nat)),(16,l.sv.val),(17, .int .i64 (l.xs.length:Nat))]) (fun U=>[own dh 2 U.2.1 U.2.2.1,ah.all U.2.2.2]) (fun U=>U.1<=l.xs.length/\bt U.2.2.1=((bt l.xs).take U.1).filterMap (lost h)/\ql U.2.2.1 U.2.2.2/\U.2.2.1.length<=U.1) (fun U=>l.xs.length -U.1) (0,Sv.none,[],[]) ⟨Nat.zero_le _,by simp[bt],ql.nil,Nat.le_refl _⟩ sb (fun w hw=>Mem.cR dh 2 (Mem.rr (ai.mem hw))) ?_;rintro⟨i,o,zs,es⟩ ⟨aT,az,ba,ck⟩;dsimp only;simp only at aT az ba ck;refine ak ?_;refine Gb (fun h1=>?_) fun h1=>?_
 ·
  obtain⟨x,hx⟩:=get_some (xs:=l.xs) (i:=i) oM;have CN:Mb x _:=⟨List.mem_of_getElem? hx⟩;have FP:=fQ x (List.mem_of_getElem? hx);have bk:((bt l.xs).take (i+1)).filterMap (lost h)=((bt l.xs).take i).filterMap (lost h)++(lost h (jG x)).toList:=by rw[List.take_add_one,Dn hx,List.filterMap_append];cases mG:lost h (jG x)<;>simp[mG]
  refine Gc ?_;refine ag (aR rfl rfl i rfl oM) ?_;refine ag (dO rfl i hx rfl) ?_;have alE:Mb x l:=⟨List.mem_of_getElem? hx⟩;refine bj fun b7=>?_;refine fc ?_;refine bA (X:=Nat×Sv×List Mr) (fun U=>[(25, .int .i64 (U.1:Nat)),(8,U.2.1.val),(1, .int .u16 (h.toNat:Nat)),(5,o.val),(7, .pointer (some ⟨b7,0,none⟩)),(16,l.sv.val),(17, .int .i64 (l.xs.length:Nat)),(18, .int .i64 (i:Nat)),(23,x.ms.sv.val),(24, .int .i64 (x.ms.xs.length:Nat))]) (fun U=>[own gn 2 U.2.1 U.2.2,an b7 (dh x) 133,own dh 2 o zs,ah.all es]) (fun U=>U.1<=x.ms.xs.length/\U.2.2=nT h (x.ms.xs.take U.1)) (fun U=>x.ms.xs.length -U.1) (0,Sv.none,[]) ⟨Nat.zero_le _,rfl⟩ sb (fun w hw=>Mem.cR gn 2 (ai.mem hw)) ?_;rintro⟨k,v,ys⟩ ⟨lC,dz⟩;dsimp only;simp only at lC dz;have N6:ys.length<=x.ms.xs.length:=by rw[dz];exact Nat.le_trans (List.length_filter_le _ _) (by rw[List.length_take];omega)
  refine ak ?_;refine Gb (fun h2=>?_) fun h2=>?_
  ·
   obtain⟨m,hm⟩:=get_some (xs:=x.ms.xs) (i:=k) oM;refine Gc ?_;refine ag (aR rfl rfl k rfl oM) ?_;refine ag (dO rfl k hm rfl) ?_;refine bj fun vI=>?_;refine cw ?_;refine Gb (fun h3=>?_) fun h3=>?_
   ·
    refine Gi ?_;refine au ?_;refine kx (enc:=gn) (vals:=[_]) [m] rfl rfl rfl (by decide) (by decide) fun zS=>?_;refine iS (s:=v) (ys:=[m]) rfl rfl (by decide) (fun w hw=>gM (s:=⟨false,zS,0,1,1,none⟩) Tryz.underlying131 (by decide) ((inferInstance:Hd _ _ ⟨false,zS,0,1,1,none⟩ gn 2 [m]).h w hw)) (by simp only[List.length_cons,List.length_nil];omega) (by simp only[List.length_cons,List.length_nil];omega) fun CS XK XL=>?_;refine aq ?_;refine Gi ?_;exact aV (x:=(k,v,ys)) (k+1,CS,ys++[m]) ⟨oF,by rw[nT,OD hm,if_pos (by rw[decide_eq_true_eq];intro e;rw[e]at h3;omega),dz];rfl⟩ (by simp only;omega) sb (fun w hw=>ai.mem hw)
   refine ak ?_;refine Gi ?_;exact aV (x:=(k,v,ys)) (k+1,v,ys) ⟨oF,by rw[nT,OD hm,if_neg (by rw[decide_eq_true_eq,Classical.not_not];exact UInt16.toNat_inj.1 oF),List.append_nil,dz];rfl⟩ (by simp only;omega) sb (fun w hw=>ai.mem hw)
  obtain rfl:k=x.ms.xs.length:=by omega
  rw[List.take_length]at dz;refine aK ?_;refine Gb (fun h4=>?_) fun h4=>?_
  ·
   have mG:lost h (jG x)=some (x.num,ys):=by rw[lost,if_neg (by rw[show(jG x).2=x.ms.xs from rfl,←dz];omega),dz];rfl
   rw[mG]at bk;refine Gi ?_;refine aq ?_;refine ag (cy (v:= .agg (dh (⟨x.num,⟨v,ys⟩⟩:Gp))) rfl (abS x.num v ys)) ?_;refine kx (enc:=dh) (vals:=[_]) [(⟨x.num,⟨v,ys⟩⟩:Gp)] rfl rfl rfl (by decide) (by decide) fun OI=>?_;refine iS (s:=o) (enc:=dh) (ys:=[(⟨x.num,⟨v,ys⟩⟩:Gp)]) rfl rfl (by decide) (fun w hw=>gM (s:=(⟨false,OI,0,1,1,none⟩:Sv)) Tryz.underlying23 (by decide) ((inferInstance:cz _ _ dh 2 (⟨false,OI,0,1,1,none⟩:Sv) [(⟨x.num,⟨v,ys⟩⟩:Gp)]).h w hw)) (by simp only[List.length_cons,List.length_nil];omega) (by simp only[List.length_cons,List.length_nil];omega) fun HV alF alG=>?_;refine aq ?_;refine Gi ?_;exact aV (x:=(i,o,zs,es)) (i+1,HV,zs++[(⟨x.num,⟨v,ys⟩⟩:Gp)],Deep.bE (⟨v,ys⟩:Sl Mr)::es) ⟨oF,by rw[bk,←az];simp[bt,jG],⟨fun y hy=>by rcases List.mem_append.1 hy with h|h;(exact List.mem_cons_of_mem _ (ba.h y h));(rw[show y=(⟨x.num,⟨v,ys⟩⟩:Gp) by simpa using h];exact List.mem_cons_self)⟩,by simp only[List.length_append,List.length_singleton];omega⟩ (by simp only;omega) sb (fun w hw=>ai.mem (Mem.EX (ai.mem (Mem.BC (ai.mem hw:Mem _ [own gn 2 v ys,own dh 2 HV (zs++[(⟨x.num,⟨v,ys⟩⟩:Gp)]),ah.all es] _)):Mem _ [Deep.bE (⟨v,ys⟩:Sl Mr),ah.all es,own dh 2 HV (zs++[(⟨x.num,⟨v,ys⟩⟩:Gp)])] _)))
  have mG:lost h (jG x)=none:=by rw[lost,if_pos (by rw[show(jG x).2=x.ms.xs from rfl,←dz];omega)]
  rw[mG]at bk;refine ak ?_;refine Gi ?_;exact aV (x:=(i,o,zs,es)) (i+1,o,zs,es) ⟨oF,by rw[bk,←az];simp,ba,by simp only;omega⟩ (by simp only;omega) sb (fun w hw=>ai.mem hw)
 obtain rfl:i=l.xs.length:=by omega
 have hz:bt zs=jH (bt l.xs) h:=by rw[hL,az,List.take_of_length_le oM]
 refine aq ?_;refine Gr fun w1 hw=>?_;exact⟨(⟨o,zs⟩,es),rfl,⟨ba,hz⟩,ai.mem hw⟩
instance alH{l:Sl Gp}{h:UInt16}[hl:aO w0 L l]:bJ Tryz.prog 17 w0 L [l.sv.val, .int .u16 (h.toNat:Nat)] (Sl Gp×List ah) (fun U=>U.1.sv.val) (fun U=>own dh 2 U.1.sv U.1.xs::ah.all U.2::L) (fun U=>ql U.1.xs U.2/\bt U.1.xs=jH (bt l.xs) h) (l.xs.length<=1000000/\(∀x∈l.xs,x.ms.xs.length<=1000000)):=⟨fun hp w hw=>(aca w l h (hl.h w hw) hp).mono fun e w' ⟨x,h1,h2,h3⟩=>⟨x,h1,h2,hw.call h3⟩⟩
end Go.Proofs.YtkggjjnhnjjokaaGreatDoor
namespace Go.Kb
theorem acb{t:List Rt}{k:Key}{bits:Int}(h: ¬rW t k bits=0):km t k bits=fu:=by
 unfold rW at h;unfold km
 by_cases h1:vA t k bits=true
 ·
  rw[if_pos h1]at h;rw[if_pos h1]
  cases hb:pG t k bits bits.toNat with
  |none=>rfl
  |some r=>rw[hb]at h;simp at h
 rw[if_neg h1]
theorem acd{ms:List Mr}(hm:ir ms=true)(h:Nat):Ao ms h∈ms.map Mr.aY:=HQ (HS hm h)
theorem OJ{l:List GV}(h:fT l=true)(n aY:UInt16)(hs:Nat):
  (hK l n hs=0/\(hK (jH l aY) n hs=6/\mz l n hs=aY\/hK (jH l aY) n hs=0/\mz (jH l aY) n hs≠aY))\/(hK l n hs=6/\hK (jH l aY) n hs=6):=by
 obtain⟨g1,_,g3⟩:=abN h aY;have ug:jH l aY=l.filterMap (lost aY):=by rw[jH,if_pos h]
 by_cases hx: ∃x∈l,x.1=n
 ·
  obtain⟨x,hx,rfl⟩:=hx;obtain⟨p1,p2⟩:=HT h hx hs;have bZ:ir x.2=true:=(oL.1 h).2.1 x hx;refine .inl ⟨p1,?_⟩
  by_cases hk:(nT aY x.2).length=0
  ·
   refine .inl ⟨HU g1 ?_ hs,?_⟩
   ·
    intro y hy e;rw[ug,List.mem_filterMap]at hy;obtain⟨z,hz,sG⟩:=hy;unfold lost at sG;split at sG
    ·
     cases sG
    ·
     rename_i hn
     cases sG
     have q1:=HP h hx;have q2:=HP h hz;rw[show z.1=x.1 from e]at q2;rw[q1.1]at q2;have hxz:x=z:=Option.some.inj q2.1;exact hn (hxz▸hk)
   ·
    rw[p2];obtain⟨m,hm,hmh⟩:=List.mem_map.1 (acd bZ hs);rw[←hmh];have he:nT aY x.2=[]:=List.length_eq_zero_iff.1 hk;have:=List.filter_eq_nil_iff.1 he m hm;simpa using this
  ·
   have hm:(x.1,nT aY x.2)∈jH l aY:=by
    rw[ug,List.mem_filterMap];exact⟨x,hx,by rw[lost,if_neg hk]⟩
   obtain⟨q1,_⟩:=HT g1 hm hs;exact .inr ⟨q1,abO g1 g3 hm hs⟩
 ·
  have hn: ∀x∈l,x.1≠n:=fun x uY e=>hx ⟨x,uY,e⟩;refine .inr ⟨HU h hn hs,HU g1 ?_ hs⟩;intro y hy e;rw[ug,List.mem_filterMap]at hy;obtain⟨z,hz,sG⟩:=hy;unfold lost at sG;split at sG
  ·
   cases sG
  ·
   cases sG
   exact hn z hz e
end Go.Kb
namespace Go.Proofs.YtkggjjnhnjjokaaGreatDoor
open Go.aA Go.Kb Go.RowKit
theorem ace(w:World)[tb:kz w](t:Sv)(ts:List Rt)(l:Sl Gp)(k:Key)(bits:Int)(hash:UInt32)(aY:UInt16)(ht:bI av 19 (hp w) t ts)(hl:Deep.aU (hp w) l):Calls Tryz.prog 3 #[t.val,l.sv.val, .agg (bF k), .int .i64 bits, .int .u32 (hash.toNat:Nat), .int .u16 (aY.toNat:Nat)] w fun e w'=>e= .returned (.bool true)/\Mem w [] w':=by
 have qM:Gv w t av 19 ts:=⟨ht⟩;have jh:bQ w l:=⟨hl⟩;have oA:=yc l.xs;refine RL Tryz.func3 rfl Tryz.ntmps3 rfl ?_;refine Gc ?_;refine bM rfl fun b8=>?_;refine aK ?_;refine iw rfl (fun h0=>?_) (fun h0=>?_)
 ·
  exfalso;simp at h0
 replace h0:=bz h0;refine k7 ?_;refine bp rfl rfl rfl (fun hg=>bV (di (ay hg rfl) fF) trivial) ?_;refine bp rfl rfl rfl (fun hg=>(Ry.yl (jJ (ay hg rfl)))) ?_;refine ak ?_;refine bp rfl rfl rfl (fun hg=>bV (di (ay hg rfl) fF) trivial) ?_;refine bp rfl rfl rfl (fun hg=>(Ry.yl (jJ (ay hg rfl)))) ?_;refine au ?_;refine Gb (fun h1=>?_) fun h1=>?_
 ·
  refine ak ?_;refine Gr fun w1 hw=>?_;exact⟨rfl,ai.mem hw⟩
 have y0:fT (bt l.xs)=true:=by simpa using h1.2
 have hlen:l.xs.length<=60:=by omega
 have fwl:=abQ y0;refine aS ?_;refine ag (aL (v:= .agg (av (km ts k bits))) rfl rfl) ?_;refine ag (aL (v:= .int .i64 (rW ts k bits)) rfl rfl) ?_;refine bj fun gT=>?_;refine aS ?_;refine Gb (fun h2=>?_) fun h2=>?_
 ·
  have hz:km ts k bits=fu:=acb h2;refine au ?_;refine ag (fo rfl) ?_;refine ag (DG rfl rfl) ?_;refine au ?_;refine Gr fun w1 hw=>?_;exact Ge ((by rw[hz];simp)) hw
 have he:rW ts k bits=0:=by omega
 refine cw ?_;refine ag (aL (v:= .int .u16 ((mz (bt l.xs) ((km ts k bits).aY) hash.toNat).toNat:Nat)) rfl rfl) ?_;refine ag (aL (v:= .int .i64 (hK (bt l.xs) ((km ts k bits).aY) hash.toNat)) rfl rfl) ?_;refine aK ?_;refine bf rfl ⟨by omega,fwl.2⟩ fun yf OK=>?_;have alI:ql yf.1.xs yf.2:=OK.1;have OL:bt yf.1.xs=jH (bt l.xs) aY:=OK.2;refine dr ?_;refine ag (aL (v:= .int .u16 ((mz (bt yf.1.xs) ((km ts k bits).aY) hash.toNat).toNat:Nat)) rfl rfl) ?_;refine ag (aL (v:= .int .i64 (hK (bt yf.1.xs) ((km ts k bits).aY) hash.toNat)) rfl rfl) ?_;refine aS ?_;refine Gb (fun h3=>?_) fun h3=>?_
 ·
  have hp:hK (bt l.xs) (km ts k bits).aY hash.toNat=6/\hK (jH (bt l.xs) aY) (km ts k bits).aY hash.toNat=6:=by rcases OJ y0 (km ts k bits).aY aY hash.toNat with h|h;(exact absurd h.1 h3);exact h
  refine fc ?_;refine Gr fun w1 hw=>?_;exact Ge ((by rw[OL];simp[hp])) hw
 have hp:=OJ y0 (km ts k bits).aY aY hash.toNat;rw[←OL]at hp;refine aS ?_;refine bp rfl rfl rfl (fun hg=>(Ry.yl (aZ (ay hg rfl)))) ?_;refine kd rfl rfl rfl (fun hg=>(Ry.yl (aZ rfl))) ?_;refine kd rfl rfl rfl (fun hg=>(Ry.yl (aZ rfl))) ?_;refine kd rfl rfl rfl (fun hg=>(Ry.yl (c2 (ay hg rfl) (ay hg rfl) rfl))) ?_;refine bp rfl rfl rfl (fun hg=>(Ry.yl (ux (ay hg rfl) (q6 hg rfl) rfl))) ?_;refine aK ?_;refine fq rfl rfl rfl (fun hg=>(Ry.yl (aZ (ay hg rfl)))) ?_;refine oR rfl rfl rfl (fun hg=>(Ry.yl (aZ rfl))) ?_;refine oR rfl rfl rfl (fun hg=>(Ry.yl (c2 (ay hg rfl) rfl rfl))) ?_;refine fq rfl rfl rfl (fun hg=>(Ry.yl (uy (ay hg rfl) rfl (q6 hg rfl)))) ?_;refine ak ?_;refine Gr fun w1 hw=>?_;exact⟨congrArg (fun b=>Ending.returned (Value.bool b)) ((by
  rcases hp with⟨p1,p2⟩|⟨p1,_⟩
  ·
   rcases p2 with⟨p2,p3⟩|⟨p2,p3⟩
   ·
    rw[p2,p3];simp
   have p4: ¬((mz (bt yf.1.xs) (km ts k bits).aY hash.toNat).toNat:Int)=(aY.toNat:Int):=fun e=>p3 (UInt16.toNat_inj.1 oM);rw[p2];simp[p4]
  omega)),ai.mem hw⟩
end Go.Proofs.YtkggjjnhnjjokaaGreatDoor
