/- Part of a proof. -/
import Derived.Test.YtaipiecplldinaaGreatE4
import Derived.Test.YtaipiecplldinaaGreatE3
import Derived.Test.YtaipiecplldinaaGreatE1
import Derived.Test.YtaipiecplldinaaGreatE2
set_option maxRecDepth 20000
set_option linter.unusedSimpArgs false
set_option linter.unusedVariables false
namespace Go.Proofs.YtaipiecplldinaaGreat
open Go.aA Go.Kb
open Go.RowKit
theorem Df(w:World):(Instr.build 50 #[(3, .bool true)]).run Tryz.prog w= .ok (.agg (bw bl)) w:=by kernel_rfl
theorem XA(w:World)(xb:Nat)(xc:Cp)(xa:Sl Int)(xg:UInt64)(xl:Int)(xy:Bool)(l:Sl (Sl Int))(dR:w.heap[xb]? =Option.some (.cells (aM (⟨⟨xc,xa,xg,xl⟩,xy⟩:aR)) 141 (0,0)))(dY:Deep.bb (hp w) xc)(hl:Deep.bb (hp w) l)(bc:qv (cv xc) (aw l.xs)):Calls Tryz.prog 165 #[.pointer (some ⟨xb,0,none⟩),l.sv.val] w fun e w'=> ∃zz:Sv,e= .returned (zz.val)∧(True)∧Mem w [own bw 4 zz (av (cv xc) (aw l.xs))] w':=by
 have sU:pW w xb (aM (⟨⟨xc,xa,xg,xl⟩,xy⟩:aR)) 141:=⟨dR⟩
 have sV:cm w xc:=⟨dY⟩
 have oX:cm w l:=⟨hl⟩
 refine ba (args:=[_,_]) Tryz.func165 rfl Tryz.ntmps165 rfl ?_
 change Cw _ _ _ _ _ [(0, .pointer (some ⟨xb,0,none⟩)),(1,l.sv.val)] []
 refine Gc ?_
 refine Gs ?_
 refine Gc ?_
 iterate 4 refine Gs ?_
 refine ag (Ry.to (v':= .agg (aD xc)) (Wo rfl) rfl) ?_
 refine Gs ?_
 refine bo rfl (by assumption) fun Hh aiL=> ?_
 have zj:(iU (cv xc) (aw l.xs)).length=(cv xc).blocks.length -2:=by rw[iU,xm]
 have ia:=jW.1 (eZ.1 bc.1.1).1
 have oV: ∀i,i≤(iU (cv xc) (aw l.xs)).length→(((iU (cv xc) (aw l.xs)).take i).map nw++(iU (cv xc) (aw l.xs)).drop i).length=(iU (cv xc) (aw l.xs)).length:=fun i hi=>by rw[List.length_append,List.length_map,List.length_take,List.length_drop];omega
 refine Gs ?_
 refine Gc ?_
 iterate 3 refine Gs ?_
 refine Gc ?_
 refine cc (X:=Nat) (fun zz=>[(16, .int .i64 (zz:Nat)),(5,Hh.val),(15, .int .i64 ((iU (cv xc) (aw l.xs)).length:Nat))]) (fun zz=>[own bw 4 Hh (((iU (cv xc) (aw l.xs)).take zz).map nw++(iU (cv xc) (aw l.xs)).drop zz)]) (fun zz=>zz≤(iU (cv xc) (aw l.xs)).length) (fun zz=>(iU (cv xc) (aw l.xs)).length -zz) 0 (Nat.zero_le _) (Sub.cons rfl (Sub.cons rfl (Sub.cons rfl (Sub.nil _)))) (fun w hw=>by simp only[List.take_zero,List.map_nil,List.nil_append,List.drop_zero];exact ah.mem hw) ?_
 rintro i bj
 have od:=oV i bj
 refine Gc ?_
 refine Gs ?_
 refine Gc ?_
 refine au rfl (fun h0=> ?_) (fun h0=> ?_)
 ·
  replace h0:=bz h0
  obtain⟨z,hz⟩:=get_some (xs:=(iU (cv xc) (aw l.xs))) (i:=i) (by omega)
  have Ag:=LD (f:=nw) hz
  refine Gc ?_
  iterate 2 refine Gs ?_
  refine Gc ?_
  iterate 2 refine Gs ?_
  refine ag (bk rfl rfl i rfl (by omega)) ?_
  refine ag (aI rfl rfl) ?_
  refine ag (bP (j:=3) rfl i Ag rfl (by decide)) ?_
  refine Gc ?_
  refine au rfl (fun h1=> ?_) (fun h1=> ?_)
  ·
   replace h1:=bz h1
   have hf:nw z=bl:=by rw[nw,if_pos h1]
   refine Gi ?_
   iterate 2 refine Gs ?_
   refine ag (cS (v:= .agg (bw bl)) rfl Df) ?_
   refine ag (bk rfl rfl i rfl (by omega)) ?_
   refine kX (n:=4) (k:=i) (j:=0) (a:=z) (a':=bl) (xs:=(((iU (cv xc) (aw l.xs)).take i).map nw++(iU (cv xc) (aw l.xs)).drop i)) (enc:=bw) (c:=4) (v:= .agg (bw bl)) (by kernel_rfl) rfl rfl rfl Ag (bD.one (enc:=bw) (c:=4) _) rfl (by decide) (by rfl) ?_
   refine Gc ?_
   iterate 2 refine Gs ?_
   refine Gi ?_
   exact bA (x:=(i)) (i+1) (by first|omega|(simp only[];omega)) (by first|omega|(simp only[];omega)) (Sub.cons rfl (Sub.cons rfl (Sub.cons rfl (Sub.nil _)))) (fun w hw=>by rw[←LB hz,hf];exact ah.mem hw)
  ·
   replace h1:=bz h1
   have hf:nw z=z:=by rw[nw,if_neg (by rw[h1];simp)]
   refine Gc ?_
   iterate 2 refine Gs ?_
   refine Gi ?_
   exact bA (x:=(i)) (i+1) (by first|omega|(simp only[];omega)) (by first|omega|(simp only[];omega)) (Sub.cons rfl (Sub.cons rfl (Sub.cons rfl (Sub.nil _)))) (fun w hw=>by rw[←LC hz hf];exact ah.mem hw)
 ·
  replace h0:=bz h0
  obtain rfl:i=(iU (cv xc) (aw l.xs)).length:=by omega
  have hE:av (cv xc) (aw l.xs)=(((iU (cv xc) (aw l.xs)).take (iU (cv xc) (aw l.xs)).length).map nw++(iU (cv xc) (aw l.xs)).drop (iU (cv xc) (aw l.xs)).length):=by rw[av,List.take_length,List.drop_length,List.append_nil]
  refine Gc ?_
  iterate 2 refine Gs ?_
  refine Gc ?_
  refine aq (.inl rfl) (aJ rfl (al rfl)) (fun w1 hw=> ?_)
  exact⟨Hh,rfl,trivial,by rw[hE];exact ah.mem hw⟩
instance Hi{w0:World}{L:List ai}{xb:Nat}{xc:Cp}{xa:Sl Int}{xg:UInt64}{xl:Int}{xy:Bool}{l:Sl (Sl Int)}[dR:lI w0 L xb (aM (⟨⟨xc,xa,xg,xl⟩,xy⟩:aR)) 141][dY:aW w0 L xc][hl:aW w0 L l]:cn Tryz.prog 165 w0 L [.pointer (some ⟨xb,0,none⟩),l.sv.val] (Sv) (fun zz=>zz.val) (fun zz=>own bw 4 zz (av (cv xc) (aw l.xs))::L) (fun zz=>True) (qv (cv xc) (aw l.xs)):=⟨fun hp w hw=>(XA w xb xc xa xg xl xy l (dR.h w hw) (dY.h w hw) (hl.h w hw) hp).mono fun e w' ⟨x,h1,h2,h3⟩=>⟨x,h1,h2,hw.call h3⟩⟩
theorem XB(w:World)(s:Sv)(ss:List ay)(hs:bQ bw 4 (hp w) s ss)(bc:ss.length≤1000000):Calls Tryz.prog 180 #[s.val] w fun e w'=> ∃zz:Sv,e= .returned (zz.val)∧(True)∧Mem w [own bw 4 zz ss] w':=by
 have vH:Gv w s bw 4 ss:=⟨hs⟩
 refine ba (args:=[_]) Tryz.func180 rfl Tryz.ntmps180 rfl ?_
 change Cw _ _ _ _ _ [(0,s.val)] []
 refine Gc ?_
 refine Gs ?_
 refine Gc ?_
 refine Gs ?_
 refine ag (sq Tryz.underlying43 rfl) ?_
 refine Gc ?_
 refine au rfl (fun h0=> ?_) (fun h0=> ?_)
 ·
  replace h0:=bz h0
  have e0:ss=[]:=List.length_eq_zero_iff.1 (by have:=hs.ok.nil h0;have:=hs.len;omega)
  refine Gc ?_
  refine Gs ?_
  refine Gc ?_
  refine aq (.inl rfl) (aJ rfl (al rfl)) (fun w1 hw=> ?_)
  exact⟨Sv.none,rfl,trivial,by rw[e0];exact(ah.mem hw:Mem w [] _).dZ bw 4⟩
 ·
  replace h0:=bz h0
  refine Gc ?_
  refine tC bw fun b5=> ?_
  refine Gs ?_
  refine my (s:=⟨false,b5,0,0,0,none⟩) (enc:=bw) (ys:=ss) rfl rfl (by decide) (fun w hw=>kW (s:=s) Tryz.underlying43 (by decide) ((inferInstance:df _ _ bw 4 s ss).h w hw)) (by simp only[List.length_nil];omega) (by simp only[List.length_nil];omega) fun s7 vI ub=> ?_
  refine Gs ?_
  refine Gc ?_
  refine aq (.inl rfl) (aJ rfl (al rfl)) (fun w1 hw=> ?_)
  exact⟨s7,rfl,trivial,by rw[List.nil_append]at hw;exact ah.mem hw⟩
instance aiM{w0:World}{L:List ai}{s:Sv}{ss:List ay}[hs:df w0 L bw 4 s ss]:cn Tryz.prog 180 w0 L [s.val] (Sv) (fun zz=>zz.val) (fun zz=>own bw 4 zz ss::L) (fun zz=>True) (ss.length≤1000000):=⟨fun hp w hw=>(XB w s ss (hs.h w hw) hp).mono fun e w' ⟨x,h1,h2,h3⟩=>⟨x,h1,h2,hw.call h3⟩⟩
theorem XC(w:World)(f:FuncId)(kb:Array Value)(R:ay→Bool)(hr:qO Tryz.prog w [] f kb bw R)(l:Sv)(ls:List ay)(hl:bQ bw 4 (hp w) l ls)(bc:ls.length≤1000000):Calls Tryz.prog 169 #[l.val, .func (.func f) #[] kb] w fun e w'=> ∃zz:Sv,e= .returned (zz.val)∧(True)∧Mem w [own bw 4 zz (bS R ls)] w':=by
 have oX:Gv w l bw 4 ls:=⟨hl⟩
 have WG:=hr.fn
 have oV: ∀i,i≤ls.length→((ls.take i).map (gV R)++ls.drop i).length=ls.length:=fun i hi=>by rw[List.length_append,List.length_map,List.length_take,List.length_drop];omega
 refine ba (args:=[_,_]) Tryz.func169 rfl Tryz.ntmps169 rfl ?_
 change Cw _ _ _ _ _ [(0,l.val),(1, .func (.func f) #[] kb)] []
 refine Gc ?_
 refine Gs ?_
 refine Gc ?_
 refine Gs ?_
 refine bo rfl (by omega) fun x9 zZ=> ?_
 refine Gs ?_
 refine Gc ?_
 iterate 3 refine Gs ?_
 refine Gc ?_
 refine cc (X:=Nat) (fun zz=>[(12, .int .i64 (zz:Nat)),(5,x9.val),(10,x9.val),(1, .func (.func f) #[] kb),(11, .int .i64 (ls.length:Nat))]) (fun zz=>[own bw 4 x9 ((ls.take zz).map (gV R)++ls.drop zz)]) (fun zz=>zz≤ls.length) (fun zz=>ls.length -zz) 0 (Nat.zero_le _) (Sub.cons rfl (Sub.cons rfl (Sub.cons rfl (Sub.cons rfl (Sub.cons rfl (Sub.nil _)))))) (fun w hw=>by simp only[List.take_zero,List.map_nil,List.nil_append,List.drop_zero];exact ah.mem hw) ?_
 rintro i bj
 have od:=oV i bj
 refine Gc ?_
 refine Gs ?_
 refine Gc ?_
 refine au rfl (fun h0=> ?_) (fun h0=> ?_)
 ·
  replace h0:=bz h0
  obtain⟨z,hz⟩:=get_some (xs:=ls) (i:=i) (by omega)
  have Ag:=LD (f:=gV R) hz
  refine Gc ?_
  refine Gs ?_
  refine ag (bk rfl rfl i rfl (by omega)) ?_
  refine ag (gR rfl i Ag rfl) ?_
  refine bH fun b7=> ?_
  iterate 2 refine Gs ?_
  refine Gc ?_
  iterate 3 refine Gs ?_
  refine Gg ?_
  refine bM rfl rfl rfl (fun hg=>(Ry.yl (eJ rfl))) ?_
  refine bM rfl rfl rfl (fun hg=>C5 (f:=f) (vs:=[.agg (bw z)]) (aG hg rfl) (dy (aG hg rfl) gB) (fun w1 mq=>hr.h w1 (ah.mem mq) z)) ?_
  refine bM rfl rfl rfl (fun hg=>(Ry.yl (iq (aG hg rfl)))) ?_
  refine Gs ?_
  refine Gc ?_
  refine au rfl (fun h1=> ?_) (fun h1=> ?_)
  ·
   replace h1:=bz h1
   have hf:gV R z=bl:=by rw[gV,if_pos (by simpa using h1)]
   refine Gi ?_
   iterate 2 refine Gs ?_
   refine ag (cS (v:= .agg (bw bl)) rfl Df) ?_
   refine ag (bk rfl rfl i rfl (by omega)) ?_
   refine kX (n:=4) (k:=i) (j:=0) (a:=z) (a':=bl) (xs:=((ls.take i).map (gV R)++ls.drop i)) (enc:=bw) (c:=4) (v:= .agg (bw bl)) (by kernel_rfl) rfl rfl rfl Ag (bD.one (enc:=bw) (c:=4) _) rfl (by decide) (by rfl) ?_
   refine Gc ?_
   iterate 2 refine Gs ?_
   refine Gi ?_
   exact bA (x:=(i)) (i+1) (by first|omega|(simp only[];omega)) (by first|omega|(simp only[];omega)) (Sub.cons rfl (Sub.cons rfl (Sub.cons rfl (Sub.cons rfl (Sub.cons rfl (Sub.nil _)))))) (fun w hw=>by rw[←LB hz,hf];exact ah.mem hw)
  ·
   replace h1:=bz h1
   have hf:gV R z=z:=by rw[gV,if_neg (by simpa using h1)]
   refine Gc ?_
   iterate 2 refine Gs ?_
   refine Gi ?_
   exact bA (x:=(i)) (i+1) (by first|omega|(simp only[];omega)) (by first|omega|(simp only[];omega)) (Sub.cons rfl (Sub.cons rfl (Sub.cons rfl (Sub.cons rfl (Sub.cons rfl (Sub.nil _)))))) (fun w hw=>by rw[←LC hz hf];exact ah.mem hw)
 ·
  replace h0:=bz h0
  obtain rfl:i=ls.length:=by omega
  have hE:bS R ls=((ls.take ls.length).map (gV R)++ls.drop ls.length):=by rw[bS,List.take_length,List.drop_length,List.append_nil]
  refine Gc ?_
  iterate 2 refine Gs ?_
  refine Gc ?_
  refine aq (.inl rfl) (aJ rfl (al rfl)) (fun w1 hw=> ?_)
  exact⟨x9,rfl,trivial,by rw[hE];exact ah.mem hw⟩
instance aiN{w0:World}{L:List ai}{f:FuncId}{kb:Array Value}{R:ay→Bool}{l:Sv}{ls:List ay}[rq:qO Tryz.prog w0 L f kb bw R][hl:df w0 L bw 4 l ls]:cn Tryz.prog 169 w0 L [l.val, .func (.func f) #[] kb] (Sv) (fun zz=>zz.val) (fun zz=>own bw 4 zz (bS R ls)::L) (fun zz=>True) (ls.length≤1000000):=⟨fun hp w hw=>(XC w f kb R (rq.at hw) l ls (hl.h w hw) hp).mono fun e w' ⟨x,h1,h2,h3⟩=>⟨x,h1,h2,hw.call h3⟩⟩
open Go.aA Go.Kb
open Go.RowKit
instance:fk Tryz.prog 3 (.int .i64 0):=⟨by kernel_rfl⟩
theorem Ah(a:Sl Int):aw [a]=a.xs:=by simp[aw]
theorem Hj(a b:Sl Int):aw [a,b]=a.xs++b.xs:=by simp[aw]
theorem XD(w:World)(xb:Nat)(xc:Cp)(xa:Sl Int)(xg:UInt64)(xl:Int)(xy:Bool)(dR:w.heap[xb]? =Option.some (.cells (aM (⟨⟨xc,xa,xg,xl⟩,xy⟩:aR)) 141 (0,0)))(dY:Deep.bb (hp w) xc)(nz:Deep.bb (hp w) xa)(bc:qv (cv xc) xa.xs):Calls Tryz.prog 150 #[.pointer (some ⟨xb,0,none⟩)] w fun e w'=>e= .returned (.tuple #[.int .i64 ((jM (cv xc) xa.xs).1), .int .i64 ((jM (cv xc) xa.xs).2)])∧Mem w [] w':=by
 have sU:pW w xb (aM (⟨⟨xc,xa,xg,xl⟩,xy⟩:aR)) 141:=⟨dR⟩
 have sV:cm w xc:=⟨dY⟩
 have aiO:cm w xa:=⟨nz⟩
 have oY:qv (cv xc) (aw [xa]):=by rw[Ah];exact bc
 have hk:=bc.1.1
 have Nw: ∀z∈(av (cv xc) (aw [xa])),Cz (cv xc) (aw [xa]).length z:=fun z hz=>rE hk hz
 have ud:=LQ hk (av (cv xc) (aw [xa])) Nw
 have rU:=kL (cv xc) (aw [xa])
 have hd:=eE hk
 change _∧_∧1≤xc.pages∧xc.pages≤16∧_∧_ at hd
 refine ba (args:=[_]) Tryz.func150 rfl Tryz.ntmps150 rfl ?_
 change Cw _ _ _ _ _ [(0, .pointer (some ⟨xb,0,none⟩))] []
 refine Gc ?_
 iterate 2 refine Gs ?_
 refine Gc ?_
 iterate 2 refine Gs ?_
 refine Gc ?_
 iterate 5 refine Gs ?_
 refine ag (Ry.to (v':=xa.sv.val) (mT rfl) rfl) ?_
 refine pv (enc:=ca) (vals:=[xa.sv.val]) [xa] rfl (by simp only[List.map_cons,List.map_nil,Sv.jm];rfl) rfl (by decide) (by decide) fun XE=> ?_
 refine bo (hc:=Hi (l:=(⟨⟨false,XE,0,1,1,none⟩,[xa]⟩:Sl (Sl Int)))) rfl oY fun aB kv=> ?_
 iterate 2 refine Gs ?_
 refine Gc ?_
 refine cc (X:=Nat) (fun zz=>[(18, .int .i64 (zz:Nat)),(4, .int .i64 ((fw xc.pages ((av (cv xc) (aw [xa])).take zz)).1)),(5, .int .i64 ((fw xc.pages ((av (cv xc) (aw [xa])).take zz)).2)),(0, .pointer (some ⟨xb,0,none⟩)),(16,aB.val),(17, .int .i64 ((av (cv xc) (aw [xa])).length:Nat))]) (fun zz=>[own bw 4 aB (av (cv xc) (aw [xa]))]) (fun zz=>zz≤(av (cv xc) (aw [xa])).length) (fun zz=>(av (cv xc) (aw [xa])).length -zz) 0 (Nat.zero_le _) (Sub.cons rfl (Sub.cons (look_eq rfl (by rw[List.take_zero];rfl)) (Sub.cons (look_eq rfl (by rw[List.take_zero];rfl)) (Sub.cons rfl (Sub.cons rfl (Sub.cons rfl (Sub.nil _))))))) (fun w hw=>ah.mem hw) ?_
 rintro i bj
 refine Gc ?_
 refine Gs ?_
 refine Gc ?_
 refine au rfl (fun h0=> ?_) (fun h0=> ?_)
 ·
  replace h0:=bz h0
  obtain⟨z,hz⟩:=get_some (xs:=(av (cv xc) (aw [xa]))) (i:=i) (by omega)
  have eS:=LP (p:=xc.pages) hz
  have ht:=Nw z (List.mem_of_getElem? hz)
  have Ai:=ht.zM
  have uu:z.used≤xc.pages:=ht.xu
  have gL:0≤(fw xc.pages ((av (cv xc) (aw [xa])).take i)).1∧(fw xc.pages ((av (cv xc) (aw [xa])).take i)).1≤16*(i:Int)∧0≤(fw xc.pages ((av (cv xc) (aw [xa])).take i)).2∧(fw xc.pages ((av (cv xc) (aw [xa])).take i)).2≤16:=ud i (by omega)
  refine Gc ?_
  refine ag (bk rfl rfl i rfl (by omega)) ?_
  refine ag (gR rfl i hz rfl) ?_
  refine bH fun b7=> ?_
  refine Gs ?_
  refine Gc ?_
  iterate 2 refine Gs ?_
  refine Gc ?_
  refine au rfl (fun h1=> ?_) (fun h1=> ?_)
  ·
   replace h1:=bz h1
   have bB:(fw xc.pages ((av (cv xc) (aw [xa])).take (i+1)))=(fw xc.pages ((av (cv xc) (aw [xa])).take i)):=by rw[eS,qD,if_pos h1]
   refine Gc ?_
   iterate 2 refine Gs ?_
   refine Gi ?_
   exact bA (x:=(i)) (i+1) (by first|omega|(simp only[];omega)) (by first|omega|(simp only[];omega)) (Sub.cons rfl (Sub.cons (look_eq rfl (by rw[bB])) (Sub.cons (look_eq rfl (by rw[bB])) (Sub.cons rfl (Sub.cons rfl (Sub.cons rfl (Sub.nil _))))))) (fun w hw=>ah.mem hw)
  ·
   replace h1:=bz h1
   have ny: ¬z.bad=true:=by rw[h1];simp
   refine Gc ?_
   refine hG (by kernel_rfl) (by kernel_rfl) ?_
   iterate 5 refine Gq ?_
   refine bf (Ry.to (v':= .int .i64 xc.pages) (mT rfl) rfl) ?_
   iterate 4 refine Gq ?_
   refine Gc ?_
   iterate 3 refine Gs ?_
   refine Gc ?_
   refine au rfl (fun h2=> ?_) (fun h2=> ?_)
   ·
    replace h2:=bz h2
    refine Gc ?_
    iterate 2 refine Gs ?_
    refine Gc ?_
    refine au rfl (fun h3=> ?_) (fun h3=> ?_)
    ·
     replace h3:=bz h3
     have hN:kr xc.pages z=xc.pages:=by rw[kr,if_pos ⟨h2,h3⟩]
     have bB:(fw xc.pages ((av (cv xc) (aw [xa])).take (i+1)))=((fw xc.pages ((av (cv xc) (aw [xa])).take i)).1+xc.pages,max (fw xc.pages ((av (cv xc) (aw [xa])).take i)).2 xc.pages):=by rw[eS,qD,if_neg ny,if_pos h2,hN]
     refine Gi ?_
     iterate 5 refine Gs ?_
     refine ag (Ry.to (v':= .int .i64 xc.pages) (mT rfl) rfl) ?_
     refine Gs ?_
     refine Gc ?_
     iterate 2 refine Gs ?_
     refine ag (uS rfl rfl) ?_
     refine Gs ?_
     refine Gc ?_
     iterate 4 refine Gs ?_
     refine Gc ?_
     iterate 2 refine Gs ?_
     refine Gi ?_
     exact bA (x:=(i)) (i+1) (by first|omega|(simp only[];omega)) (by first|omega|(simp only[];omega)) (Sub.cons rfl (Sub.cons (look_eq rfl (by rw[bB])) (Sub.cons (look_eq rfl (by rw[bB])) (Sub.cons rfl (Sub.cons rfl (Sub.cons rfl (Sub.nil _))))))) (fun w hw=>ah.mem hw)
    ·
     replace h3:=bz h3
     have hN:kr xc.pages z=xc.pages -z.used:=by rw[kr,if_neg (fun h=>h3 h.2)]
     have bB:(fw xc.pages ((av (cv xc) (aw [xa])).take (i+1)))=((fw xc.pages ((av (cv xc) (aw [xa])).take i)).1+(xc.pages -z.used),max (fw xc.pages ((av (cv xc) (aw [xa])).take i)).2 (xc.pages -z.used)):=by rw[eS,qD,if_neg ny,if_pos h2,hN]
     refine Gc ?_
     iterate 2 refine Gs ?_
     refine ag (uS rfl rfl) ?_
     refine Gs ?_
     refine Gc ?_
     iterate 4 refine Gs ?_
     refine Gc ?_
     iterate 2 refine Gs ?_
     refine Gi ?_
     exact bA (x:=(i)) (i+1) (by first|omega|(simp only[];omega)) (by first|omega|(simp only[];omega)) (Sub.cons rfl (Sub.cons (look_eq rfl (by rw[bB])) (Sub.cons (look_eq rfl (by rw[bB])) (Sub.cons rfl (Sub.cons rfl (Sub.cons rfl (Sub.nil _))))))) (fun w hw=>ah.mem hw)
   ·
    replace h2:=bz h2
    have hN:kr xc.pages z=xc.pages -z.used:=by rw[kr,if_neg (fun h=>h2 h.1)]
    have bB:(fw xc.pages ((av (cv xc) (aw [xa])).take (i+1)))=((fw xc.pages ((av (cv xc) (aw [xa])).take i)).1+(xc.pages -z.used),(fw xc.pages ((av (cv xc) (aw [xa])).take i)).2):=by rw[eS,qD,if_neg ny,if_neg h2,hN]
    refine Gc ?_
    iterate 4 refine Gs ?_
    refine Gc ?_
    iterate 2 refine Gs ?_
    refine Gi ?_
    exact bA (x:=(i)) (i+1) (by first|omega|(simp only[];omega)) (by first|omega|(simp only[];omega)) (Sub.cons rfl (Sub.cons (look_eq rfl (by rw[bB])) (Sub.cons (look_eq rfl (by rw[bB])) (Sub.cons rfl (Sub.cons rfl (Sub.cons rfl (Sub.nil _))))))) (fun w hw=>ah.mem hw)
 ·
  replace h0:=bz h0
  obtain rfl:i=(av (cv xc) (aw [xa])).length:=by omega
  have hE:jM (cv xc) xa.xs=((fw xc.pages ((av (cv xc) (aw [xa])).take (av (cv xc) (aw [xa])).length)).1 -(fw xc.pages ((av (cv xc) (aw [xa])).take (av (cv xc) (aw [xa])).length)).2,(fw xc.pages ((av (cv xc) (aw [xa])).take (av (cv xc) (aw [xa])).length)).1):=by rw[jM,←Ah xa,List.take_length];rfl
  have gL:0≤(fw xc.pages ((av (cv xc) (aw [xa])).take (av (cv xc) (aw [xa])).length)).1∧(fw xc.pages ((av (cv xc) (aw [xa])).take (av (cv xc) (aw [xa])).length)).1≤16*((av (cv xc) (aw [xa])).length:Int)∧0≤(fw xc.pages ((av (cv xc) (aw [xa])).take (av (cv xc) (aw [xa])).length)).2∧(fw xc.pages ((av (cv xc) (aw [xa])).take (av (cv xc) (aw [xa])).length)).2≤16:=ud (av (cv xc) (aw [xa])).length (Nat.le_refl _)
  refine Gc ?_
  iterate 6 refine Gs ?_
  refine Gc ?_
  refine aq (.inl rfl) (bq rfl (al rfl) (al rfl)) (fun w1 hw=> ?_)
  exact⟨by rw[hE],ah.mem hw⟩
instance aiP{w0:World}{L:List ai}{xb:Nat}{xc:Cp}{xa:Sl Int}{xg:UInt64}{xl:Int}{xy:Bool}[dR:lI w0 L xb (aM (⟨⟨xc,xa,xg,xl⟩,xy⟩:aR)) 141][dY:aW w0 L xc][nz:aW w0 L xa]:cI Tryz.prog 150 w0 L [.pointer (some ⟨xb,0,none⟩)] (.tuple #[.int .i64 ((jM (cv xc) xa.xs).1), .int .i64 ((jM (cv xc) xa.xs).2)]) (qv (cv xc) xa.xs):=⟨fun hp w hw=>XD w xb xc xa xg xl xy (dR.h w hw) (dY.h w hw) (nz.h w hw) hp⟩
theorem XF(w:World)(x:ay):Calls Tryz.prog 175 #[.agg (bw x)] w fun e w'=>e= .returned (.bool (pM x))∧Mem w [] w':=by
 refine ba (args:=[_]) Tryz.func175 rfl Tryz.ntmps175 rfl ?_
 change Cw _ _ _ _ _ [(0, .agg (bw x))] []
 refine Gc ?_
 refine bY rfl fun b1=> ?_
 refine Gs ?_
 refine Gc ?_
 iterate 4 refine Gs ?_
 refine Gc ?_
 refine aq (.inl rfl) (aJ rfl (al rfl)) (fun w1 hw=> ?_)
 exact⟨congrArg (fun b=>Ending.returned (Value.bool b)) (rfl),ah.mem hw⟩
instance {w0:World}{L:List ai}:qO Tryz.prog w0 L 175 #[] bw pM:=⟨inferInstance,fun w _ x=>XF w x⟩
theorem XG(w:World)(x:ay):Calls Tryz.prog 176 #[.agg (bw x)] w fun e w'=>e= .returned (.bool (fS x))∧Mem w [] w':=by
 refine ba (args:=[_]) Tryz.func176 rfl Tryz.ntmps176 rfl ?_
 change Cw _ _ _ _ _ [(0, .agg (bw x))] []
 refine Gc ?_
 refine bY rfl fun b1=> ?_
 refine Gs ?_
 refine Gc ?_
 iterate 4 refine Gs ?_
 refine Gc ?_
 refine aq (.inl rfl) (aJ rfl (al rfl)) (fun w1 hw=> ?_)
 exact⟨congrArg (fun b=>Ending.returned (Value.bool b)) (rfl),ah.mem hw⟩
instance {w0:World}{L:List ai}:qO Tryz.prog w0 L 176 #[] bw fS:=⟨inferInstance,fun w _ x=>XG w x⟩
theorem XH(w0 w:World)(L:List ai)(k:Nat)(xc:Cp)(xa:Sl Int)(xg:UInt64)(xl:Int)(xy:Bool)(l:Sl (Sl Int))[hl:aW w0 L l](hw:Mem w0 (ar k (aM (⟨⟨xc,xa,xg,xl⟩,xy⟩:aR)) 141::fz xc::L) w)(bc:aV (cv xc)=true∧3≤(cv xc).blocks.length∧hU (cv xc) (aw l.xs)∧(aw l.xs).length≤1000):Calls Tryz.prog 153 #[.pointer (some ⟨k,0,none⟩),l.sv.val] w fun e w'=> ∃zz:Cp,e= .returned (.tuple #[.int .i64 ((bm (cv xc) (aw l.xs) xy).2.1), .int .i64 ((bm (cv xc) (aw l.xs) xy).2.2)])∧(cv zz=(bm (cv xc) (aw l.xs) xy).1)∧Mem w0 (ar k (aM (⟨⟨zz,xa,xg,xl⟩,xy⟩:aR)) 141::fz zz::L) w':=by
 obtain⟨hk,xZ,sY,lZ⟩:=bc
 have oY:=sY.kn hk (by omega) (by omega)
 have hd:=eE hk
 have rU:=kL (cv xc) (aw l.xs)
 refine kB (args:=[_,_]) Tryz.func153 rfl Tryz.ntmps153 rfl hw ?_
 change Cw _ _ _ _ _ [(0, .pointer (some ⟨k,0,none⟩)),(1,l.sv.val)] (ar k (aM (⟨⟨xc,xa,xg,xl⟩,xy⟩:aR)) 141::fz xc::L)
 refine Gc ?_
 iterate 2 refine Gs ?_
 refine Gc ?_
 refine jE [2] [[],[],[],[],[],[],[],[],[],[2],[2]] [0,1,3,4,5,6,7,8,2,9,10] [ar k (aM (⟨⟨xc,xa,xg,xl⟩,xy⟩:aR)) 141,fz xc] (fun _ hw=>ah.mem hw) (by kernel_rfl) (by kernel_rfl) ?_
 refine an rfl (aE rfl) ?_
 refine an rfl (aE rfl) ?_
 refine an rfl (aE rfl) ?_
 refine an rfl (jU rfl) ?_
 refine an rfl (aI (o':=0) rfl rfl) ?_
 refine an rfl (aI (o':=0) rfl rfl) ?_
 refine an rfl (aI (o':=0) rfl rfl) ?_
 refine an rfl (Ry.to (v':= .int .i64 xc.pages) (bJ rfl) rfl) ?_
 refine dN rfl (nZ rfl oY fun gY vK=>⟨fun _ hw=>ah.mem hw,?_⟩)
 refine an rfl (bp rfl) ?_
 refine an rfl (bp rfl) ?_
 refine Gc ?_
 refine Gs ?_
 refine bo rfl (by omega) fun xH GQ=> ?_
 iterate 3 refine Gs ?_
 refine ag (aU (v:= .int .i64 ((eM (bS pM (av (cv xc) (aw l.xs))) xc.pages).1)) rfl rfl) ?_
 refine ag (aU (v:= .bool ((eM (bS pM (av (cv xc) (aw l.xs))) xc.pages).2)) rfl rfl) ?_
 iterate 2 refine Gs ?_
 refine Gc ?_
 refine Gs ?_
 refine Gc ?_
 refine au rfl (fun h0=> ?_) (fun h0=> ?_)
 ·
  replace h0:=bz h0
  have ot:(ld (cv xc) (aw l.xs)).2=true:=h0
  have hE:(bm (cv xc) (aw l.xs) xy)=(cv xc,(ld (cv xc) (aw l.xs)).1+2,0):=by rw[bm,if_pos ot]
  have nF:=LL ot
  change 0≤(eM (bS pM (av (cv xc) (aw l.xs))) xc.pages).1∧(eM (bS pM (av (cv xc) (aw l.xs))) xc.pages).1<_∧_ at nF
  refine Gc ?_
  iterate 4 refine Gs ?_
  refine Gc ?_
  refine aq (.inl rfl) (bq rfl (al rfl) (al rfl)) (fun w1 hw=> ?_)
  exact⟨xc,by rw[hE];rfl,by rw[hE],ah.mem hw⟩
 ·
  replace h0:=bz h0
  have ot: ¬(ld (cv xc) (aw l.xs)).2=true:=fun h=>by rw[show(ld (cv xc) (aw l.xs)).2=false from h0]at h;cases h
  refine Gc ?_
  refine Gs ?_
  refine Gc ?_
  iterate 3 refine Gs ?_
  refine Gc ?_
  refine cc (X:=Nat) (fun zz=>[(39, .int .i64 (zz:Nat)),(10, .int .i64 ((((av (cv xc) (aw l.xs)).take zz).filter fun z=> !z.bad&&decide (z.live=0)).length:Nat)),(0, .pointer (some ⟨k,0,none⟩)),(6,gY.val),(7, .int .i64 xc.pages),(37,gY.val),(38, .int .i64 ((av (cv xc) (aw l.xs)).length:Nat))]) (fun zz=>ar k (aM (⟨⟨xc,xa,xg,xl⟩,xy⟩:aR)) 141::fz xc::own bw 4 gY (av (cv xc) (aw l.xs))::L) (fun zz=>zz≤(av (cv xc) (aw l.xs)).length) (fun zz=>(av (cv xc) (aw l.xs)).length -zz) 0 (Nat.zero_le _) (Sub.cons rfl (Sub.cons rfl (Sub.cons rfl (Sub.cons rfl (Sub.cons rfl (Sub.cons rfl (Sub.cons rfl (Sub.nil _)))))))) (fun w hw=>ah.mem hw) ?_
  rintro i bj
  refine Gc ?_
  refine Gs ?_
  refine Gc ?_
  refine au rfl (fun h1=> ?_) (fun h1=> ?_)
  ·
   replace h1:=bz h1
   obtain⟨z,hz⟩:=get_some (xs:=(av (cv xc) (aw l.xs))) (i:=i) (by omega)
   have eS:=Uf hz
   have hle:=Ug ((av (cv xc) (aw l.xs)).take i)
   rw[List.length_take]at hle
   refine Gc ?_
   refine ag (bk rfl rfl i rfl (by omega)) ?_
   refine ag (gR rfl i hz rfl) ?_
   refine bH fun uj=> ?_
   refine Gs ?_
   refine Gc ?_
   iterate 4 refine Gs ?_
   iterate 3 refine Gg ?_
   refine Gs ?_
   refine Gc ?_
   refine au rfl (fun h2=> ?_) (fun h2=> ?_)
   ·
    replace h2:=bz h2
    rw[if_pos (by simpa using h2)]at eS
    refine Gi ?_
    iterate 3 refine Gs ?_
    refine Gc ?_
    iterate 2 refine Gs ?_
    refine Gi ?_
    exact bA (x:=(i)) (i+1) (by first|omega|(simp only[];omega)) (by first|omega|(simp only[];omega)) (Sub.cons rfl (Sub.cons (look_eq rfl (by rw[eS];rfl)) (Sub.cons rfl (Sub.cons rfl (Sub.cons rfl (Sub.cons rfl (Sub.cons rfl (Sub.nil _)))))))) (fun w hw=>ah.mem hw)
   ·
    replace h2:=bz h2
    rw[if_neg (fun g=>h2.elim (fun h=>absurd (h.symm.trans g.1) (by simp)) (fun h=>h g.2))]at eS
    refine Gc ?_
    iterate 2 refine Gs ?_
    refine Gi ?_
    exact bA (x:=(i)) (i+1) (by first|omega|(simp only[];omega)) (by first|omega|(simp only[];omega)) (Sub.cons rfl (Sub.cons (look_eq rfl (by rw[eS,Nat.add_zero])) (Sub.cons rfl (Sub.cons rfl (Sub.cons rfl (Sub.cons rfl (Sub.cons rfl (Sub.nil _)))))))) (fun w hw=>ah.mem hw)
  ·
   replace h1:=bz h1
   obtain rfl:i=(av (cv xc) (aw l.xs)).length:=by omega
   have iB:dE (av (cv xc) (aw l.xs))=(((av (cv xc) (aw l.xs)).take (av (cv xc) (aw l.xs)).length).filter fun z=> !z.bad&&decide (z.live=0)).length:=by rw[dE,List.take_length]
   refine Gc ?_
   iterate 3 refine Gs ?_
   iterate 2 refine Gg ?_
   refine bM rfl rfl rfl (fun hg=>(Ry.yl (aE (aG hg rfl)))) ?_
   refine sh rfl rfl rfl (fun hg=>(Ry.yl (aE rfl))) ?_
   refine sh rfl rfl rfl (fun hg=>(Ry.yl (jU (aG hg rfl)))) ?_
   refine sh rfl rfl rfl (fun hg=>(Ry.yl (aI (o':=9) (aG hg rfl) rfl))) ?_
   refine sh rfl rfl rfl (fun hg=>(Ry.yl (Ry.to (v':= .bool xy) (bJ (aG hg rfl)) rfl))) ?_
   refine sh rfl rfl rfl (fun hg=>(Ry.yl (iq (aG hg rfl)))) ?_
   refine bM rfl rfl rfl (fun hg=>(Ry.yl (yO (aG hg rfl) (yV hg rfl) rfl))) ?_
   refine Gs ?_
   refine Gc ?_
   refine au rfl (fun h3=> ?_) (fun h3=> ?_)
   ·
    replace h3:=bz h3
    have ou:dE (av (cv xc) (aw l.xs))=0∨(dE (av (cv xc) (aw l.xs))=1∧xy=false):=by
     rw[iB]
     rcases h3 with h|h
     ·
      exact .inl (by omega)
     ·
      exact .inr ⟨by omega,h.2⟩
    have hE:(bm (cv xc) (aw l.xs) xy)=(cv xc,0,5):=by rw[bm,if_neg ot,if_pos ou]
    refine Gc ?_
    iterate 2 refine Gs ?_
    refine Gc ?_
    refine aq (.inl rfl) (bq rfl (al rfl) (al rfl)) (fun w1 hw=> ?_)
    exact⟨xc,by rw[hE],by rw[hE],ah.mem hw⟩
   ·
    replace h3:=bz h3
    have ou: ¬(dE (av (cv xc) (aw l.xs))=0∨(dE (av (cv xc) (aw l.xs))=1∧xy=false)):=by
     rw[iB]
     rintro(h|h)
     ·
      exact h3.1 (by omega)
     ·
      rcases h3.2 with g|g
      ·
       exact g (by omega)
      ·
       rw[h.2]at g;cases g
    refine Gc ?_
    refine Gs ?_
    refine bo rfl (by omega) fun eO Hk=> ?_
    refine Gs ?_
    refine Gc ?_
    iterate 4 refine Gs ?_
    refine ag (aU (v:= .int .i64 ((eM (bS fS (av (cv xc) (aw l.xs))) xc.pages).1)) rfl rfl) ?_
    refine ag (aU (v:= .bool ((eM (bS fS (av (cv xc) (aw l.xs))) xc.pages).2)) rfl rfl) ?_
    iterate 2 refine Gs ?_
    refine Gc ?_
    refine Gs ?_
    refine Gc ?_
    refine au rfl (fun h4=> ?_) (fun h4=> ?_)
    ·
     replace h4:=bz h4
     have jx:(jL (cv xc) (aw l.xs)).2=true:=h4
     have hE:(bm (cv xc) (aw l.xs) xy)=(cv xc,(jL (cv xc) (aw l.xs)).1+2,0):=by rw[bm,if_neg ot,if_neg ou,if_pos jx]
     have nF:=LM jx
     change 0≤(eM (bS fS (av (cv xc) (aw l.xs))) xc.pages).1∧(eM (bS fS (av (cv xc) (aw l.xs))) xc.pages).1<_∧_ at nF
     refine Gc ?_
     iterate 4 refine Gs ?_
     refine Gc ?_
     refine aq (.inl rfl) (bq rfl (al rfl) (al rfl)) (fun w1 hw=> ?_)
     exact⟨xc,by rw[hE];rfl,by rw[hE],ah.mem hw⟩
    ·
     replace h4:=bz h4
     have jx: ¬(jL (cv xc) (aw l.xs)).2=true:=fun h=>by rw[show(jL (cv xc) (aw l.xs)).2=false from h4]at h;cases h
     obtain⟨d1,d2,d3⟩:=LK hk xZ (fun e=>ou (.inl e)) jx
     change 0≤(eQ (bS fS (av (cv xc) (aw l.xs))) xc.pages).1 at d1
     change(eQ (bS fS (av (cv xc) (aw l.xs))) xc.pages).1<_ at d2
     have hE:(bm (cv xc) (aw l.xs) xy)=((cA (cv xc) (jf (cv xc) (aw l.xs)+2)).1,jf (cv xc) (aw l.xs)+2,(cA (cv xc) (jf (cv xc) (aw l.xs)+2)).2):=by rw[bm,if_neg ot,if_neg ou,if_neg jx]
     refine Gc ?_
     iterate 4 refine Gs ?_
     refine ag (aU (v:= .int .i64 ((eQ (bS fS (av (cv xc) (aw l.xs))) xc.pages).1)) rfl rfl) ?_
     refine ag (aU (v:= .bool ((eQ (bS fS (av (cv xc) (aw l.xs))) xc.pages).2)) rfl rfl) ?_
     iterate 2 refine Gs ?_
     refine Gc ?_
     iterate 5 refine Gs ?_
     refine bo rfl ⟨hk,by omega,by omega⟩ fun XI XJ=> ?_
     iterate 2 refine Gs ?_
     refine Gc ?_
     refine aq (.inl rfl) (bq rfl (al rfl) (al rfl)) (fun w1 hw=> ?_)
     exact⟨XI,by rw[hE];rfl,by rw[XJ,hE];rfl,ah.mem hw⟩
instance aiQ{w0:World}{L R1 L2:List ai}{i0 i1:Nat}{k:Nat}{xc:Cp}{xa:Sl Int}{xg:UInt64}{xl:Int}{xy:Bool}{l:Sl (Sl Int)}[q0:Has L k (aM (⟨⟨xc,xa,xg,xl⟩,xy⟩:aR)) 141 i0][d0:dw L i0 R1][q1:At R1 (fz xc) i1][d1:dw R1 i1 L2][hl:aW w0 L2 l]:cn Tryz.prog 153 w0 L [.pointer (some ⟨k,0,none⟩),l.sv.val] (Cp) (fun zz=> .tuple #[.int .i64 ((bm (cv xc) (aw l.xs) xy).2.1), .int .i64 ((bm (cv xc) (aw l.xs) xy).2.2)]) (fun zz=>ar k (aM (⟨⟨zz,xa,xg,xl⟩,xy⟩:aR)) 141::fz zz::L2) (fun zz=>cv zz=(bm (cv xc) (aw l.xs) xy).1) (aV (cv xc)=true∧3≤(cv xc).blocks.length∧hU (cv xc) (aw l.xs)∧(aw l.xs).length≤1000):=⟨fun hp w hw=>XH w0 w L2 k xc xa xg xl xy l (sP q0.h d0.h q1.h d1.h hw) hp⟩
open Go.aA Go.Kb
open Go.RowKit
theorem XK(w0 w:World)(L:List ai)(k:Nat)(xc:Cp)(xa:Sl Int)(xg:UInt64)(xl:Int)(xy:Bool)(q:eC)(l:Sl (Sl Int))[hq:aW w0 L q][hl:aW w0 L l](hw:Mem w0 (ar k (aM (⟨⟨xc,xa,xg,xl⟩,xy⟩:aR)) 141::fz xc::L) w)(bc:aV (cv xc)=true∧3≤(cv xc).blocks.length∧hU (cv xc) (aw l.xs)∧(aw l.xs).length≤1000):Calls Tryz.prog 127 #[.pointer (some ⟨k,0,none⟩), .agg (cN q),l.sv.val] w fun e w'=> ∃zz:Cp,e= .returned (.tuple #[.int .i64 ((c0 (cv xc) (aw l.xs) xy (cK q)).2.1), .int .i64 ((c0 (cv xc) (aw l.xs) xy (cK q)).2.2)])∧(cv zz=(c0 (cv xc) (aw l.xs) xy (cK q)).1)∧Mem w0 (ar k (aM (⟨⟨zz,xa,xg,xl⟩,xy⟩:aR)) 141::fz zz::L) w':=by
 obtain⟨hk,xZ,sY,lZ⟩:=bc
 have hd:=eE hk
 have va:1≤xc.pages∧xc.pages≤16:=⟨hd.2.2.1,hd.2.2.2.1⟩
 refine kB (args:=[_,_,_]) Tryz.func127 rfl Tryz.ntmps127 rfl hw ?_
 change Cw _ _ _ _ _ [(0, .pointer (some ⟨k,0,none⟩)),(1, .agg (cN q)),(2,l.sv.val)] (ar k (aM (⟨⟨xc,xa,xg,xl⟩,xy⟩:aR)) 141::fz xc::L)
 refine Gc ?_
 refine bY rfl fun b4=> ?_
 iterate 2 refine Gs ?_
 refine Gc ?_
 refine jE [7] [[],[],[],[],[],[],[],[],[7],[7],[7],[7],[7]] [0,1,2,3,4,5,6,7,8,9,10,11,12] [ar b4 (cN q) 110,ar k (aM (⟨⟨xc,xa,xg,xl⟩,xy⟩:aR)) 141,fz xc] (fun _ hw=>ah.mem hw) (by kernel_rfl) (by kernel_rfl) ?_
 refine an rfl (eJ rfl) ?_
 refine an rfl (aE rfl) ?_
 refine an rfl (jU rfl) ?_
 refine an rfl (aI (o':=0) rfl rfl) ?_
 refine an rfl (aI (o':=0) rfl rfl) ?_
 refine an rfl (aI (o':=1) rfl rfl) ?_
 refine an rfl (Ry.to (v':= .int .i64 xc.size) (bJ rfl) rfl) ?_
 refine dN rfl (nZ rfl trivial fun jy Hl=>⟨fun _ hw=>ah.mem hw,?_⟩)
 skip
 refine an rfl (aE rfl) ?_
 refine an rfl (aU (v:=jy.val) rfl rfl) ?_
 refine an rfl (aU (v:= .int .i64 ((dg (cK q) xc.size).2)) rfl rfl) ?_
 refine an rfl (bp rfl) ?_
 refine an rfl (bp rfl) ?_
 refine Gc ?_
 iterate 2 refine Gs ?_
 refine Gc ?_
 refine au rfl (fun h0=> ?_) (fun h0=> ?_)
 ·
  replace h0:=bz h0
  have hE:(c0 (cv xc) (aw l.xs) xy (cK q))=(cv xc,0,(dg (cK q) xc.size).2):=by rw[c0,if_pos (show(dg (cK q) (cv xc).size).2≠0 from h0)];rfl
  refine Gc ?_
  iterate 3 refine Gs ?_
  refine Gc ?_
  refine aq (.inl rfl) (bq rfl (al rfl) (al rfl)) (fun w1 hw=> ?_)
  exact⟨xc,by rw[hE],by rw[hE],ah.mem hw⟩
 ·
  replace h0:=bz h0
  refine Gc ?_
  refine cc (X:=Nat×Cp) (fun zz=>[(0, .pointer (some ⟨k,0,none⟩)),(2,l.sv.val),(8,jy.val)]) (fun zz=>ar k (aM (⟨⟨zz.2,xa,xg,xl⟩,xy⟩:aR)) 141::fz zz.2::own aN 1 jy (dg (cK q) xc.size).1::L) (fun zz=>(c0 (cv xc) (aw l.xs) xy (cK q))=iA zz.1 (cv zz.2) (aw l.xs) xy (dg (cK q) xc.size).1∧aV (cv zz.2)=true∧dx (cv xc) (cv zz.2)∧(cP -(cv zz.2).ops).toNat<zz.1) (fun zz=>zz.1) ((cP -(cv xc).ops).toNat+1,xc) ⟨by rw[c0,if_neg (show ¬(dg (cK q) (cv xc).size).2≠0 from fun h=>h h0)];rfl,hk, .cZ _,by simp only;omega⟩ (Sub.cons rfl (Sub.cons rfl (Sub.cons rfl (Sub.nil _)))) (fun w hw=>ah.mem hw) ?_
  rintro⟨m,d⟩ ⟨bj,aH,bG,di⟩
  dsimp only
  simp only at bj aH bG di
  obtain⟨n,rfl⟩: ∃n,m=n+1:=⟨m -1,by omega⟩
  refine Gc ?_
  iterate 2 refine Gs ?_
  refine bo rfl ⟨aH,by rw[bG.len];exact xZ,sY.bT bG,lZ⟩ fun mV vS=> ?_
  obtain⟨f1,f2,f3,f4,f5⟩:=F1 (c:=cv d) (fl:=(aw l.xs)) (aF:=xy) aH (by rw[bG.len];exact xZ)
  rw[←vS]at f1 f2 f3 f4 f5
  have f6:=bG.trans f2
  have dz:(cv mV).blocks.length=mV.blocks.xs.length:=fB _
  have VI:=f6.len
  have oo:mV.pages=xc.pages:=f6.pages
  have XL:=bG.len
  have Nv:=qC f1
  refine Gs ?_
  refine ag (aU (v:= .int .i64 ((bm (cv d) (aw l.xs) xy).2.1)) rfl rfl) ?_
  refine ag (aU (v:= .int .i64 ((bm (cv d) (aw l.xs) xy).2.2)) rfl rfl) ?_
  iterate 2 refine Gs ?_
  refine Gc ?_
  iterate 2 refine Gs ?_
  refine Gc ?_
  refine au rfl (fun h1=> ?_) (fun h1=> ?_)
  ·
   replace h1:=bz h1
   have eH:(bm (cv d) (aw l.xs) xy).2.2=0:=h1
   obtain⟨g1,g2,g3⟩:=f4 eH
   obtain⟨B,hB⟩:=get_some (xs:=mV.blocks.xs) (i:=(bm (cv d) (aw l.xs) xy).2.1.toNat) (by omega)
   have qN:Mb B mV.blocks:=⟨List.mem_of_getElem? hB⟩
   have eN:=rC hB
   have fV:=dV.1 (pL f1 (b:=(bm (cv d) (aw l.xs) xy).2.1) (by omega) (by omega))
   have o8:(aj (cv mV) (bm (cv d) (aw l.xs) xy).2.1).used=B.used:=by rw[eN];rfl
   rw[o8]at fV
   have XM:(cv mV).pages=xc.pages:=oo
   rw[XM]at fV
   have mg:0≤(bm (cv d) (aw l.xs) xy).2.1*xc.pages:=Int.mul_nonneg (by omega) (by omega)
   have nE:(bm (cv d) (aw l.xs) xy).2.1*xc.pages≤32*16:=Int.mul_le_mul (by omega) (by omega) (by omega) (by omega)
   refine Gi ?_
   refine hG (by kernel_rfl) (by kernel_rfl) ?_
   iterate 6 refine Gq ?_
   refine bf (Ry.to (v':= .int .i64 xc.pages) (bJ rfl) (by rw[←oo])) ?_
   refine bf (uQ rfl rfl (by omega)) ?_
   iterate 5 refine Gq ?_
   refine bf (Ry.to (v':=mV.blocks.sv.val) (bJ rfl) rfl) ?_
   refine Gq ?_
   refine bf (bk rfl rfl ((bm (cv d) (aw l.xs) xy).2.1.toNat) (by omega) (by omega)) ?_
   refine bf (aI rfl rfl) ?_
   refine bf (bP (j:=1) rfl ((bm (cv d) (aw l.xs) xy).2.1.toNat) hB rfl (by decide)) ?_
   iterate 3 refine Gq ?_
   refine Gc ?_
   iterate 3 refine Gs ?_
   refine bo rfl ⟨f1,by omega,by omega⟩ fun Hm ya=> ?_
   refine Gs ?_
   refine Gc ?_
   iterate 2 refine Gs ?_
   refine Gc ?_
   refine au rfl (fun h2=> ?_) (fun h2=> ?_)
   ·
    replace h2:=bz h2
    have fg:(bC (cv mV) (bm (cv d) (aw l.xs) xy).2.1 (dg (cK q) xc.size).1)=0:=h2
    have hE:(c0 (cv xc) (aw l.xs) xy (cK q))=(bn (cv mV) (bm (cv d) (aw l.xs) xy).2.1 (dg (cK q) xc.size).1,(bm (cv d) (aw l.xs) xy).2.1*xc.pages+B.used+1,0):=by
     rw[bj,iA,←vS,if_pos eH,if_pos fg,o8,show(cv d).pages=xc.pages from bG.pages]
    refine Gc ?_
    iterate 3 refine Gs ?_
    refine Gc ?_
    refine aq (.inl rfl) (bq rfl (al rfl) (al rfl)) (fun w1 hw=> ?_)
    exact⟨Hm,by rw[hE],by rw[hE,ya],ah.mem hw⟩
   ·
    replace h2:=bz h2
    have fg: ¬(bC (cv mV) (bm (cv d) (aw l.xs) xy).2.1 (dg (cK q) xc.size).1)=0:=h2
    refine Gc ?_
    iterate 2 refine Gs ?_
    refine Gc ?_
    refine au rfl (fun h3=> ?_) (fun h3=> ?_)
    ·
     replace h3:=bz h3
     refine Gc ?_
     iterate 3 refine Gs ?_
     refine Gc ?_
     refine aq (.inl rfl) (bq rfl (al rfl) (al rfl)) (fun w1 hw=> ?_)
     exact⟨Hm,by rw[bj,iA,←vS,if_pos eH,if_neg fg,if_pos (show(bC (cv mV) (bm (cv d) (aw l.xs) xy).2.1 (dg (cK q) xc.size).1)≠9 from h3)],by rw[ya,bj,iA,←vS,if_pos eH,if_neg fg,if_pos (show(bC (cv mV) (bm (cv d) (aw l.xs) xy).2.1 (dg (cK q) xc.size).1)≠9 from h3)],ah.mem hw⟩
    ·
     replace h3:=bz h3
     iterate 2 refine Gi ?_
     have ou:(bC (cv mV) (bm (cv d) (aw l.xs) xy).2.1 (dg (cK q) xc.size).1)=9:=h3
     have Aj:=rB g3 (p:=(dg (cK q) xc.size).1) (.inl ou)
     have Hn:=qC (kK f1 (bm (cv d) (aw l.xs) xy).2.1 (dg (cK q) xc.size).1)
     rw[Aj]at Hn
     exact bA (x:=(n+1,d)) (n,Hm) ⟨by rw[bj,iA,←vS,if_pos eH,if_neg fg,if_neg (by simpa using ou),ya],by rw[ya];exact kK f1 _ _,by rw[ya];exact f6.trans (gU _ _ _),by rw[ya,Aj];omega⟩ (by simp only;omega) (Sub.cons rfl (Sub.cons rfl (Sub.cons rfl (Sub.nil _)))) (fun w hw=>ah.mem hw)
  ·
   replace h1:=bz h1
   have eH: ¬(bm (cv d) (aw l.xs) xy).2.2=0:=h1
   refine Gc ?_
   iterate 2 refine Gs ?_
   refine Gc ?_
   refine au rfl (fun h3=> ?_) (fun h3=> ?_)
   ·
    replace h3:=bz h3
    refine Gc ?_
    iterate 3 refine Gs ?_
    refine Gc ?_
    refine aq (.inl rfl) (bq rfl (al rfl) (al rfl)) (fun w1 hw=> ?_)
    exact⟨mV,by rw[bj,iA,if_neg eH,if_pos (show(bm (cv d) (aw l.xs) xy).2.2≠9 from h3)],by rw[vS,bj,iA,if_neg eH,if_pos (show(bm (cv d) (aw l.xs) xy).2.2≠9 from h3)],ah.mem hw⟩
   ·
    replace h3:=bz h3
    iterate 2 refine Gi ?_
    have ou:(bm (cv d) (aw l.xs) xy).2.2=9:=h3
    exact bA (x:=(n+1,d)) (n,mV) ⟨by rw[bj,iA,if_neg eH,if_neg (by simpa using ou),vS],f1,f6,by have:=f5 ou;simp only;omega⟩ (by simp only;omega) (Sub.cons rfl (Sub.cons rfl (Sub.cons rfl (Sub.nil _)))) (fun w hw=>ah.mem hw)
instance XN{w0:World}{L R1 L2:List ai}{i0 i1:Nat}{k:Nat}{xc:Cp}{xa:Sl Int}{xg:UInt64}{xl:Int}{xy:Bool}{q:eC}{l:Sl (Sl Int)}[q0:Has L k (aM (⟨⟨xc,xa,xg,xl⟩,xy⟩:aR)) 141 i0][d0:dw L i0 R1][q1:At R1 (fz xc) i1][d1:dw R1 i1 L2][hq:aW w0 L2 q][hl:aW w0 L2 l]:cn Tryz.prog 127 w0 L [.pointer (some ⟨k,0,none⟩), .agg (cN q),l.sv.val] (Cp) (fun zz=> .tuple #[.int .i64 ((c0 (cv xc) (aw l.xs) xy (cK q)).2.1), .int .i64 ((c0 (cv xc) (aw l.xs) xy (cK q)).2.2)]) (fun zz=>ar k (aM (⟨⟨zz,xa,xg,xl⟩,xy⟩:aR)) 141::fz zz::L2) (fun zz=>cv zz=(c0 (cv xc) (aw l.xs) xy (cK q)).1) (aV (cv xc)=true∧3≤(cv xc).blocks.length∧hU (cv xc) (aw l.xs)∧(aw l.xs).length≤1000):=⟨fun hp w hw=>XK w0 w L2 k xc xa xg xl xy q l (sP q0.h d0.h q1.h d1.h hw) hp⟩
open Go.aA Go.Kb
open Go.RowKit
theorem XO(w0 w:World)(L:List ai)(k:Nat)(xc:Cp)(xa:Sl Int)(xg:UInt64)(xl:Int)(xy:Bool)(hw:Mem w0 (ar k (aM (⟨⟨xc,xa,xg,xl⟩,xy⟩:aR)) 141::fz xc::L) w)(bc:aV (cv xc)=true∧2≤(cv xc).blocks.length∧(xl=0∨xl=1)):Calls Tryz.prog 154 #[.pointer (some ⟨k,0,none⟩)] w fun e w'=> ∃zz:Cp,e= .returned (.tuple #[.int .i64 ((aX (cv xc) xl).2.1), .int .i64 ((aX (cv xc) xl).2.2)])∧(cv zz=(aX (cv xc) xl).1)∧Mem w0 (ar k (aM (⟨⟨zz,xa,xg,xl⟩,xy⟩:aR)) 141::fz zz::L) w':=by
 obtain⟨hk,qB,Nr⟩:=bc
 have dz:(cv xc).blocks.length=xc.blocks.xs.length:=fB _
 obtain⟨Bo,fV⟩:=get_some (xs:=xc.blocks.xs) (i:=(1 -xl).toNat) (by omega)
 have mbo:Mb Bo xc.blocks:=⟨List.mem_of_getElem? fV⟩
 have xT:=rC fV
 refine kB (args:=[_]) Tryz.func154 rfl Tryz.ntmps154 rfl hw ?_
 change Cw _ _ _ _ _ [(0, .pointer (some ⟨k,0,none⟩))] (ar k (aM (⟨⟨xc,xa,xg,xl⟩,xy⟩:aR)) 141::fz xc::L)
 refine Gc ?_
 iterate 2 refine Gs ?_
 refine Gc ?_
 iterate 4 refine Gs ?_
 refine ag (Ry.to (v':= .int .i64 xl) (bJ rfl) rfl) ?_
 iterate 2 refine Gs ?_
 refine Gc ?_
 iterate 4 refine Gs ?_
 refine ag (Ry.to (v':= .int .i64 xl) (bJ rfl) rfl) ?_
 refine Gs ?_
 refine pv (enc:=bK) (vals:=[_,_]) [xl,1 -xl] rfl rfl rfl (by decide) (by decide) fun pU=> ?_
 iterate 2 refine Gs ?_
 refine Gc ?_
 refine cc (X:=Nat) (fun zz=>[(21, .int .i64 (zz:Nat)),(0, .pointer (some ⟨k,0,none⟩)),(4, .int .i64 (1 -xl)),(19,(⟨false,pU,0,2,2,none⟩:Sv).val),(20, .int .i64 ([xl,1 -xl].length:Nat))]) (fun zz=>ar k (aM (⟨⟨xc,xa,xg,xl⟩,xy⟩:aR)) 141::fz xc::own bK 1 ⟨false,pU,0,2,2,none⟩ [xl,1 -xl]::L) (fun zz=>zz≤2∧ ∀(j:Nat) (y:Int),j<zz→[xl,1 -xl][j]? =Option.some y→ ¬0<dD (cv xc) y) (fun zz=>2 -zz) 0 ⟨Nat.zero_le _,fun j y hj=>by first|omega|(simp only[];omega)⟩ (Sub.cons rfl (Sub.cons rfl (Sub.cons rfl (Sub.cons rfl (Sub.cons rfl (Sub.nil _)))))) (fun w hw=>ah.mem hw) ?_
 rintro i ⟨bj,aH⟩
 refine Gc ?_
 refine Gs ?_
 refine Gc ?_
 refine au rfl (fun h0=> ?_) (fun h0=> ?_)
 ·
  replace h0:=bz h0
  obtain⟨y,hy⟩:=get_some (xs:=[xl,1 -xl]) (i:=i) (by simp only[List.length_cons,List.length_nil]at h0⊢;omega)
  have Ho:i=0∨i=1:=by simp only[List.length_cons,List.length_nil]at h0;omega
  have Wk:y=0∨y=1:=by
   have:=List.mem_of_getElem? hy
   simp only[List.mem_cons,List.not_mem_nil,or_false]at this
   omega
  refine Gc ?_
  refine ag (bk rfl rfl i rfl (by omega)) ?_
  refine ag (bP (j:=0) rfl i hy rfl (by decide)) ?_
  refine Gs ?_
  refine Gc ?_
  iterate 2 refine Gs ?_
  refine fH (cE rfl ⟨hk,by omega,by omega⟩) ?_
  refine Gs ?_
  refine Gc ?_
  refine au rfl (fun h1=> ?_) (fun h1=> ?_)
  ·
   replace h1:=bz h1
   have hE:(aX (cv xc) xl)=(cv xc,y,0):=by
    rcases Ho with rfl|rfl
    ·
     obtain rfl:xl=y:=by simpa using hy
     rw[aX,if_pos h1]
    ·
     obtain rfl:1 -xl=y:=by simpa using hy
     rw[aX,if_neg (aH 0 xl (by omega) rfl),if_pos h1]
   refine Gc ?_
   iterate 3 refine Gs ?_
   refine Gc ?_
   refine aq (.inl rfl) (bq rfl (al rfl) (al rfl)) (fun w1 hw=> ?_)
   exact⟨xc,by rw[hE],by rw[hE],ah.mem hw⟩
  ·
   replace h1:=bz h1
   refine Gc ?_
   iterate 2 refine Gs ?_
   refine Gi ?_
   exact bA (x:=(i)) (i+1) ⟨by first|omega|(simp only[];omega),fun j z hj hz=>if e:j=i then(by subst e;rw[hy]at hz;cases hz;exact h1)else aH j z (by first|omega|(simp only[];omega)) hz⟩ (by first|omega|(simp only[];omega)) (Sub.cons rfl (Sub.cons rfl (Sub.cons rfl (Sub.cons rfl (Sub.cons rfl (Sub.nil _)))))) (fun w hw=>ah.mem hw)
 ·
  replace h0:=bz h0
  have XP:i=2:=by simp only[List.length_cons,List.length_nil]at h0 bj;omega
  subst XP
  have uo:=aH 0 xl (by omega) rfl
  have xK:=aH 1 (1 -xl) (by omega) rfl
  refine Gc ?_
  iterate 5 refine Gs ?_
  refine ag (Ry.to (v':=xc.blocks.sv.val) (bJ rfl) rfl) ?_
  refine Gs ?_
  refine ag (bk rfl rfl ((1 -xl).toNat) (by omega) (by omega)) ?_
  refine ag (aI rfl rfl) ?_
  refine ag (bP (j:=3) rfl ((1 -xl).toNat) fV rfl (by decide)) ?_
  refine Gc ?_
  refine au rfl (fun h2=> ?_) (fun h2=> ?_)
  ·
   replace h2:=bz h2
   have hE:(aX (cv xc) xl)=(cv xc,0,9):=by rw[aX,if_neg uo,if_neg xK,xT,if_pos (show(bv Bo).bad=true from h2)]
   refine Gc ?_
   iterate 2 refine Gs ?_
   refine Gc ?_
   refine aq (.inl rfl) (bq rfl (al rfl) (al rfl)) (fun w1 hw=> ?_)
   exact⟨xc,by rw[hE],by rw[hE],ah.mem hw⟩
  ·
   replace h2:=bz h2
   have hE:(aX (cv xc) xl)=(cY (cv xc) (1 -xl),1 -xl,dG (cv xc) (1 -xl)):=by rw[aX,if_neg uo,if_neg xK,xT,if_neg (show ¬(bv Bo).bad=true by rw[show(bv Bo).bad=Bo.bad from rfl,h2];simp)]
   refine Gc ?_
   iterate 3 refine Gs ?_
   refine bo rfl ⟨hk,by omega,by omega⟩ fun XQ XR=> ?_
   iterate 2 refine Gs ?_
   refine Gc ?_
   refine aq (.inl rfl) (bq rfl (al rfl) (al rfl)) (fun w1 hw=> ?_)
   exact⟨XQ,by rw[hE],by rw[XR,hE],ah.mem hw⟩
instance aiR{w0:World}{L R1 L2:List ai}{i0 i1:Nat}{k:Nat}{xc:Cp}{xa:Sl Int}{xg:UInt64}{xl:Int}{xy:Bool}[q0:Has L k (aM (⟨⟨xc,xa,xg,xl⟩,xy⟩:aR)) 141 i0][d0:dw L i0 R1][q1:At R1 (fz xc) i1][d1:dw R1 i1 L2]:cn Tryz.prog 154 w0 L [.pointer (some ⟨k,0,none⟩)] (Cp) (fun zz=> .tuple #[.int .i64 ((aX (cv xc) xl).2.1), .int .i64 ((aX (cv xc) xl).2.2)]) (fun zz=>ar k (aM (⟨⟨zz,xa,xg,xl⟩,xy⟩:aR)) 141::fz zz::L2) (fun zz=>cv zz=(aX (cv xc) xl).1) (aV (cv xc)=true∧2≤(cv xc).blocks.length∧(xl=0∨xl=1)):=⟨fun hp w hw=>XO w0 w L2 k xc xa xg xl xy (sP q0.h d0.h q1.h d1.h hw) hp⟩
theorem Hp{g:UInt64}(h:g.toNat<281474976710656):(g+1).toNat=g.toNat+1:=by
 rw[UInt64.toNat_add,show(1:UInt64).toNat=1 from rfl,Nat.mod_eq_of_lt (by omega)]
theorem Nx(g:UInt64)(s:Sv)(xs:List Int)(w:World):(Instr.build 147 #[(0, .int .u64 (g.toNat:Int)),(1,s.val)]).run Tryz.prog w= .ok (.agg (dH ⟨g,⟨s,xs⟩⟩)) w:=by
 obtain⟨e,b,o,l,c,p⟩:=s
 unfold dH
 cases e<;>kernel_rfl
theorem XS(w0 w:World)(L:List ai)(k:Nat)(xc:Cp)(xa:Sl Int)(xg:UInt64)(xl:Int)(xy:Bool)(s:Sv)(ss:List Int)(hw:Mem w0 (ar k (aM (⟨⟨xc,xa,xg,xl⟩,xy⟩:aR)) 141::fz xc::fz xa::own bK 1 s ss::L) w)(bc:cV (⟨⟨cv xc,xa.xs,xg.toNat,xl⟩,xy⟩:WV)):Calls Tryz.prog 128 #[.pointer (some ⟨k,0,none⟩),s.val] w fun e w'=> ∃zz:Cp×Sl Int×UInt64×Int,e= .returned (.int .i64 ((dP (⟨⟨cv xc,xa.xs,xg.toNat,xl⟩,xy⟩:WV) ss).2))∧((⟨⟨cv zz.1,zz.2.1.xs,zz.2.2.1.toNat,zz.2.2.2⟩,xy⟩:WV)=(dP (⟨⟨cv xc,xa.xs,xg.toNat,xl⟩,xy⟩:WV) ss).1)∧Mem w0 (ar k (aM (⟨⟨zz.1,zz.2.1,zz.2.2.1,zz.2.2.2⟩,xy⟩:aR)) 141::fz zz.1::fz zz.2.1::L) w':=by
 have gA:=bc
 have hk:aV (cv xc)=true:=gA.ae
 have Ak:xg.toNat<281474976710656:=gA.gen
 have rV:=Hp Ak
 have yb:4≤(cv xc).blocks.length:=gA.qE
 have Dg:xl=0∨xl=1:=gA.last
 have yc:dm (⟨xg+1,⟨s,ss⟩⟩:dk)=⟨xg.toNat+1,ss⟩:=by simp only[dm,rV]
 refine kB (args:=[_,_]) Tryz.func128 rfl Tryz.ntmps128 rfl hw ?_
 change Cw _ _ _ _ _ [(0, .pointer (some ⟨k,0,none⟩)),(1,s.val)] (ar k (aM (⟨⟨xc,xa,xg,xl⟩,xy⟩:aR)) 141::fz xc::fz xa::own bK 1 s ss::L)
 refine Gc ?_
 refine Gs ?_
 refine Gc ?_
 iterate 4 refine Gs ?_
 refine ag (Ry.to (v':= .int .u64 (xg.toNat:Nat)) (bJ rfl) rfl) ?_
 refine ag (Ry.to (v':= .int .u64 ((xg+1).toNat:Int)) (yU (p:=xg.toNat) (q:=1) rfl rfl rfl rfl (by simp only[nb];omega)) (by rw[rV])) ?_
 refine Gs ?_
 refine Gc ?_
 iterate 2 refine Gs ?_
 refine ag (cS (v:= .agg (dH (⟨xg+1,⟨s,ss⟩⟩:dk))) rfl (Nx (xg+1) s ss)) ?_
 iterate 5 refine Gs ?_
 refine ag (Ry.to (v':= .int .i64 xc.size) (bJ rfl) rfl) ?_
 refine bo rfl trivial fun kx qP=> ?_
 refine Gs ?_
 refine ag (aU (v:=kx.val) rfl rfl) ?_
 refine ag (aU (v:= .int .i64 ((cO (dm (⟨xg+1,⟨s,ss⟩⟩:dk)) xc.size).2)) rfl rfl) ?_
 iterate 2 refine Gs ?_
 refine Gc ?_
 iterate 2 refine Gs ?_
 refine Gc ?_
 refine au rfl (fun h0=> ?_) (fun h0=> ?_)
 ·
  replace h0:=bz h0
  have hE:(dP (⟨⟨cv xc,xa.xs,xg.toNat,xl⟩,xy⟩:WV) ss)=((⟨⟨cv xc,xa.xs,xg.toNat,xl⟩,xy⟩:WV),(cO (dm (⟨xg+1,⟨s,ss⟩⟩:dk)) xc.size).2):=by rw[dP,if_pos (show(cO ⟨xg.toNat+1,ss⟩ (cv xc).size).2≠0 by rw[←yc];exact h0),yc];rfl
  refine Gc ?_
  iterate 2 refine Gs ?_
  refine Gc ?_
  refine aq (.inl rfl) (aJ rfl (al rfl)) (fun w1 hw=> ?_)
  exact⟨(xc,xa,xg,xl),by rw[hE],by rw[hE],ah.mem hw⟩
 ·
  replace h0:=bz h0
  refine Gc ?_
  refine cc (X:=Nat×Cp) (fun zz=>[(0, .pointer (some ⟨k,0,none⟩)),(1,s.val),(5, .int .u64 ((xg+1).toNat:Nat)),(6,kx.val)]) (fun zz=>ar k (aM (⟨⟨zz.2,xa,xg,xl⟩,xy⟩:aR)) 141::fz zz.2::fz xa::own bK 1 s ss::own aN 1 kx (cO (dm (⟨xg+1,⟨s,ss⟩⟩:dk)) xc.size).1::L) (fun zz=>(dP (⟨⟨cv xc,xa.xs,xg.toNat,xl⟩,xy⟩:WV) ss)=gw zz.1 ((⟨⟨cv xc,xa.xs,xg.toNat,xl⟩,xy⟩:WV).on (cv zz.2)) ss (cO (dm (⟨xg+1,⟨s,ss⟩⟩:dk)) xc.size).1∧aV (cv zz.2)=true∧dx (cv xc) (cv zz.2)∧(cP -(cv zz.2).ops).toNat<zz.1) (fun zz=>zz.1) ((cP -(cv xc).ops).toNat+1,xc) ⟨by rw[dP,if_neg (show ¬(cO ⟨xg.toNat+1,ss⟩ (cv xc).size).2≠0 by rw[←yc];exact fun h=>h h0),yc];rfl,hk, .cZ _,by simp only;omega⟩ (Sub.cons rfl (Sub.cons rfl (Sub.cons rfl (Sub.cons rfl (Sub.nil _))))) (fun w hw=>ah.mem hw) ?_
  rintro⟨m,d⟩ ⟨bj,aH,bG,di⟩
  dsimp only
  simp only at bj aH bG di
  obtain⟨n,rfl⟩: ∃n,m=n+1:=⟨m -1,by omega⟩
  refine Gc ?_
  refine Gs ?_
  refine bo rfl ⟨aH,by rw[bG.len];omega,Dg⟩ fun nI Hq=> ?_
  obtain⟨r1,r2,r3,r4⟩:=CD (c:=cv d) (last:=xl) aH Dg
  rw[←Hq]at r1 r2 r3 r4
  have r7:=bG.trans r2
  have ub:=r7.len
  have XL:=bG.len
  have Nv:=qC r1
  refine Gs ?_
  refine ag (aU (v:= .int .i64 ((aX (cv d) xl).2.1)) rfl rfl) ?_
  refine ag (aU (v:= .int .i64 ((aX (cv d) xl).2.2)) rfl rfl) ?_
  iterate 2 refine Gs ?_
  refine Gc ?_
  iterate 2 refine Gs ?_
  refine Gc ?_
  refine au rfl (fun h1=> ?_) (fun h1=> ?_)
  ·
   replace h1:=bz h1
   have hE:(dP (⟨⟨cv xc,xa.xs,xg.toNat,xl⟩,xy⟩:WV) ss)=((⟨⟨cv xc,xa.xs,xg.toNat,xl⟩,xy⟩:WV).on (cv nI),(aX (cv d) xl).2.2):=by
    rw[bj,gw]
    refine(if_pos h1).trans ?_
    rw[Hq];rfl
   refine Gc ?_
   iterate 2 refine Gs ?_
   refine Gc ?_
   refine aq (.inl rfl) (aJ rfl (al rfl)) (fun w1 hw=> ?_)
   exact⟨(nI,xa,xg,xl),by rw[hE],by rw[hE];rfl,ah.mem hw⟩
  ·
   replace h1:=bz h1
   have eH:(aX (cv d) xl).2.2=0:=h1
   obtain⟨r5,r6⟩:=r4 eH
   have bB:(dP (⟨⟨cv xc,xa.xs,xg.toNat,xl⟩,xy⟩:WV) ss)=(if(bC (cv nI) (aX (cv d) xl).2.1 (cO (dm (⟨xg+1,⟨s,ss⟩⟩:dk)) xc.size).1)=0 then((⟨⟨(bn (cv nI) (aX (cv d) xl).2.1 (cO (dm (⟨xg+1,⟨s,ss⟩⟩:dk)) xc.size).1),ss,xg.toNat+1,if gW (bn (cv nI) (aX (cv d) xl).2.1 (cO (dm (⟨xg+1,⟨s,ss⟩⟩:dk)) xc.size).1) 1=xg.toNat+1 then 1 else(aX (cv d) xl).2.1⟩,xy⟩:WV),(0:Int))else if(bC (cv nI) (aX (cv d) xl).2.1 (cO (dm (⟨xg+1,⟨s,ss⟩⟩:dk)) xc.size).1)≠9 then((⟨⟨cv xc,xa.xs,xg.toNat,xl⟩,xy⟩:WV).on (bn (cv nI) (aX (cv d) xl).2.1 (cO (dm (⟨xg+1,⟨s,ss⟩⟩:dk)) xc.size).1),(bC (cv nI) (aX (cv d) xl).2.1 (cO (dm (⟨xg+1,⟨s,ss⟩⟩:dk)) xc.size).1))else gw n ((⟨⟨cv xc,xa.xs,xg.toNat,xl⟩,xy⟩:WV).on (bn (cv nI) (aX (cv d) xl).2.1 (cO (dm (⟨xg+1,⟨s,ss⟩⟩:dk)) xc.size).1)) ss (cO (dm (⟨xg+1,⟨s,ss⟩⟩:dk)) xc.size).1):=by
    rw[bj,gw]
    refine(if_neg (fun h=>h eH)).trans ?_
    rw[Hq];rfl
   refine Gc ?_
   iterate 3 refine Gs ?_
   refine bo rfl ⟨r1,by omega,by omega⟩ fun jQ pZ=> ?_
   refine Gs ?_
   refine Gc ?_
   iterate 2 refine Gs ?_
   refine Gc ?_
   refine au rfl (fun h2=> ?_) (fun h2=> ?_)
   ·
    replace h2:=bz h2
    have fg:(bC (cv nI) (aX (cv d) xl).2.1 (cO (dm (⟨xg+1,⟨s,ss⟩⟩:dk)) xc.size).1)=0:=h2
    rw[if_pos fg]at bB
    refine Gc ?_
    refine Gs ?_
    refine fH (cE rfl ⟨by rw[pZ];exact kK r1 _ _,by omega,by rw[pZ,(gU _ _ _).len];omega⟩) ?_
    iterate 2 refine Gs ?_
    refine Gc ?_
    refine au rfl (fun h3=> ?_) (fun h3=> ?_)
    ·
     replace h3:=bz h3
     have hE:=bB
     rw[if_pos (show gW (bn (cv nI) (aX (cv d) xl).2.1 (cO (dm (⟨xg+1,⟨s,ss⟩⟩:dk)) xc.size).1) 1=xg.toNat+1 by rw[←pZ];omega)]at hE
     refine Gi ?_
     refine Gs ?_
     refine Gc ?_
     iterate 9 refine Gs ?_
     refine eV (cs':=aM (⟨⟨jQ,⟨s,ss⟩,xg,xl⟩,xy⟩:aR)) rfl rfl (by show 6<10;decide) (by first|rfl|exact Sv.one _) rfl ?_
     iterate 3 refine Gs ?_
     refine eV (cs':=aM (⟨⟨jQ,⟨s,ss⟩,(xg+1),xl⟩,xy⟩:aR)) rfl rfl (by show 7<10;decide) (by first|rfl|exact Sv.one _) rfl ?_
     iterate 3 refine Gs ?_
     refine eV (cs':=aM (⟨⟨jQ,⟨s,ss⟩,(xg+1),1⟩,xy⟩:aR)) rfl rfl (by show 8<10;decide) (by first|rfl|exact Sv.one _) rfl ?_
     refine Gc ?_
     refine Gs ?_
     refine Gc ?_
     refine aq (.inl rfl) (aJ rfl (al rfl)) (fun w1 hw=> ?_)
     exact⟨(jQ,⟨s,ss⟩,xg+1,1),by rw[hE],by rw[hE,pZ,rV],ah.mem (vp (a:=⟨s,ss⟩) (ah.mem hw:Mem w0 (own bK 1 s ss::ar k (aM (⟨⟨jQ,⟨s,ss⟩,xg+1,1⟩,xy⟩:aR)) 141::fz jQ::L) _))⟩
    ·
     replace h3:=bz h3
     have hE:=bB
     rw[if_neg (show ¬gW (bn (cv nI) (aX (cv d) xl).2.1 (cO (dm (⟨xg+1,⟨s,ss⟩⟩:dk)) xc.size).1) 1=xg.toNat+1 by rw[←pZ];omega)]at hE
     refine Gc ?_
     iterate 9 refine Gs ?_
     refine eV (cs':=aM (⟨⟨jQ,⟨s,ss⟩,xg,xl⟩,xy⟩:aR)) rfl rfl (by show 6<10;decide) (by first|rfl|exact Sv.one _) rfl ?_
     iterate 3 refine Gs ?_
     refine eV (cs':=aM (⟨⟨jQ,⟨s,ss⟩,(xg+1),xl⟩,xy⟩:aR)) rfl rfl (by show 7<10;decide) (by first|rfl|exact Sv.one _) rfl ?_
     iterate 3 refine Gs ?_
     refine eV (cs':=aM (⟨⟨jQ,⟨s,ss⟩,(xg+1),(aX (cv d) xl).2.1⟩,xy⟩:aR)) rfl rfl (by show 8<10;decide) (by first|rfl|exact Sv.one _) rfl ?_
     refine Gc ?_
     refine Gs ?_
     refine Gc ?_
     refine aq (.inl rfl) (aJ rfl (al rfl)) (fun w1 hw=> ?_)
     exact⟨(jQ,⟨s,ss⟩,xg+1,(aX (cv d) xl).2.1),by rw[hE],by rw[hE,pZ,rV],ah.mem (vp (a:=⟨s,ss⟩) (ah.mem hw:Mem w0 (own bK 1 s ss::ar k (aM (⟨⟨jQ,⟨s,ss⟩,xg+1,(aX (cv d) xl).2.1⟩,xy⟩:aR)) 141::fz jQ::L) _))⟩
   ·
    replace h2:=bz h2
    have fg: ¬(bC (cv nI) (aX (cv d) xl).2.1 (cO (dm (⟨xg+1,⟨s,ss⟩⟩:dk)) xc.size).1)=0:=h2
    refine Gc ?_
    iterate 2 refine Gs ?_
    refine Gc ?_
    refine au rfl (fun h4=> ?_) (fun h4=> ?_)
    ·
     replace h4:=bz h4
     have hE:=bB
     rw[if_neg fg,if_pos (show(bC (cv nI) (aX (cv d) xl).2.1 (cO (dm (⟨xg+1,⟨s,ss⟩⟩:dk)) xc.size).1)≠9 from h4)]at hE
     refine Gc ?_
     iterate 2 refine Gs ?_
     refine Gc ?_
     refine aq (.inl rfl) (aJ rfl (al rfl)) (fun w1 hw=> ?_)
     exact⟨(jQ,xa,xg,xl),by rw[hE],by rw[hE,pZ];rfl,ah.mem hw⟩
    ·
     replace h4:=bz h4
     iterate 2 refine Gi ?_
     have jx:(bC (cv nI) (aX (cv d) xl).2.1 (cO (dm (⟨xg+1,⟨s,ss⟩⟩:dk)) xc.size).1)=9:=h4
     have Aj:=rB r6 (p:=(cO (dm (⟨xg+1,⟨s,ss⟩⟩:dk)) xc.size).1) (.inl jx)
     have Hn:=qC (kK r1 (aX (cv d) xl).2.1 (cO (dm (⟨xg+1,⟨s,ss⟩⟩:dk)) xc.size).1)
     rw[Aj]at Hn
     exact bA (x:=(n+1,d)) (n,jQ) ⟨by rw[bB,if_neg fg,if_neg (fun h=>h jx),pZ],by rw[pZ];exact kK r1 _ _,by rw[pZ];exact r7.trans (gU _ _ _),by rw[pZ,Aj];omega⟩ (by simp only;omega) (Sub.cons rfl (Sub.cons rfl (Sub.cons rfl (Sub.cons rfl (Sub.nil _))))) (fun w hw=>ah.mem hw)
instance aiS{w0:World}{L R1 R2 R3 L2:List ai}{i0 i1 i2 i3:Nat}{k:Nat}{xc:Cp}{xa:Sl Int}{xg:UInt64}{xl:Int}{xy:Bool}{s:Sv}{ss:List Int}[q0:Has L k (aM (⟨⟨xc,xa,xg,xl⟩,xy⟩:aR)) 141 i0][d0:dw L i0 R1][q1:At R1 (fz xc) i1][d1:dw R1 i1 R2][q2:At R2 (fz xa) i2][d2:dw R2 i2 R3][q3:fJ R3 s bK 1 ss i3][d3:dw R3 i3 L2]:cn Tryz.prog 128 w0 L [.pointer (some ⟨k,0,none⟩),s.val] (Cp×Sl Int×UInt64×Int) (fun zz=> .int .i64 ((dP (⟨⟨cv xc,xa.xs,xg.toNat,xl⟩,xy⟩:WV) ss).2)) (fun zz=>ar k (aM (⟨⟨zz.1,zz.2.1,zz.2.2.1,zz.2.2.2⟩,xy⟩:aR)) 141::fz zz.1::fz zz.2.1::L2) (fun zz=>(⟨⟨cv zz.1,zz.2.1.xs,zz.2.2.1.toNat,zz.2.2.2⟩,xy⟩:WV)=(dP (⟨⟨cv xc,xa.xs,xg.toNat,xl⟩,xy⟩:WV) ss).1) (cV (⟨⟨cv xc,xa.xs,xg.toNat,xl⟩,xy⟩:WV)):=⟨fun hp w hw=>XS w0 w L2 k xc xa xg xl xy s ss (Wp q0.h d0.h q1.h d1.h q2.h d2.h q3.h d3.h hw) hp⟩
open Go.aA Go.Kb
open Go.RowKit
theorem XT(i:Int)(g:UInt64)(s:Sv)(xs:List UInt8)(w:World):(Instr.build 110 #[(0, .int .i64 1),(1, .int .i64 i),(2, .int .u64 (g.toNat:Int)),(3,s.val)]).run Tryz.prog w= .ok (.agg (cN ⟨1,i,g,⟨s,xs⟩⟩)) w:=by
 obtain⟨e,b,o,l,c,p⟩:=s
 unfold cN
 cases e<;>kernel_rfl
theorem XU(w0 w:World)(L:List ai)(k:Nat)(xc:Cp)(xa:Sl Int)(xg:UInt64)(xl:Int)(xy:Bool)(f:Int)(t:Int)(hw:Mem w0 (ar k (aM (⟨⟨xc,xa,xg,xl⟩,xy⟩:aR)) 141::fz xc::fz xa::L) w)(bc:cV (⟨⟨cv xc,xa.xs,xg.toNat,xl⟩,xy⟩:WV)∧2≤f∧f<(cv xc).blocks.length∧(0≤t→2≤t∧t<(cv xc).blocks.length)):Calls Tryz.prog 183 #[.pointer (some ⟨k,0,none⟩), .int .i64 f, .int .i64 t] w fun e w'=> ∃zz:Cp×Sl Int×UInt64×Int,e= .returned (.tuple #[.bool ((c5 (⟨⟨cv xc,xa.xs,xg.toNat,xl⟩,xy⟩:WV) f t).2.1), .int .i64 ((c5 (⟨⟨cv xc,xa.xs,xg.toNat,xl⟩,xy⟩:WV) f t).2.2)])∧((⟨⟨cv zz.1,zz.2.1.xs,zz.2.2.1.toNat,zz.2.2.2⟩,xy⟩:WV)=(c5 (⟨⟨cv xc,xa.xs,xg.toNat,xl⟩,xy⟩:WV) f t).1)∧Mem w0 (ar k (aM (⟨⟨zz.1,zz.2.1,zz.2.2.1,zz.2.2.2⟩,xy⟩:aR)) 141::fz zz.1::fz zz.2.1::L) w':=by
 obtain⟨gA,mw,wW,G8⟩:=bc
 have hk:aV (cv xc)=true:=gA.ae
 have yb:4≤(cv xc).blocks.length:=gA.qE
 have hd:=eE hk
 have Ak:xg.toNat<281474976710656:=gA.gen
 have rV:=Hp Ak
 have dJ:xa.xs.length≤64:=gA.j6
 have sY:hU (cv xc) xa.xs:=gA.sK
 have vT:1≤xc.pages∧xc.pages≤16:=⟨hd.2.2.1,hd.2.2.2.1⟩
 refine kB (args:=[_,_,_]) Tryz.func183 rfl Tryz.ntmps183 rfl hw ?_
 change Cw _ _ _ _ _ [(0, .pointer (some ⟨k,0,none⟩)),(1, .int .i64 f),(2, .int .i64 t)] (ar k (aM (⟨⟨xc,xa,xg,xl⟩,xy⟩:aR)) 141::fz xc::fz xa::L)
 refine Gc ?_
 iterate 2 refine Gs ?_
 refine Gc ?_
 iterate 5 refine Gs ?_
 refine ag (Ry.to (v':= .int .i64 xc.pages) (bJ rfl) rfl) ?_
 refine Gs ?_
 refine Gc ?_
 iterate 4 refine Gs ?_
 refine ag (Ry.to (v':=xa.sv.val) (bJ rfl) rfl) ?_
 refine bo rfl (by omega) fun az sX=> ?_
 refine Gs ?_
 refine Gc ?_
 iterate 4 refine Gs ?_
 refine ag (Ry.to (v':=xa.sv.val) (bJ rfl) rfl) ?_
 iterate 2 refine Gs ?_
 refine Gc ?_
 refine cc (X:=Nat×Cp×List Int) (fun zz=>[(39, .int .i64 (zz.1:Nat)),(0, .pointer (some ⟨k,0,none⟩)),(9,az.val),(1, .int .i64 f),(2, .int .i64 t),(8, .int .i64 xc.pages),(37,xa.sv.val),(38, .int .i64 (xa.xs.length:Nat))]) (fun zz=>ar k (aM (⟨⟨zz.2.1,xa,xg,xl⟩,xy⟩:aR)) 141::fz zz.2.1::fz xa::own bK 1 az zz.2.2::L) (fun zz=>zz.1≤xa.xs.length∧(bZ (⟨cv xc,xa.xs,xg.toNat,xl⟩:VV) f t xa.xs 0 (cv xc) xa.xs)=(bZ (⟨cv xc,xa.xs,xg.toNat,xl⟩:VV) f t (xa.xs.drop zz.1) zz.1 (cv zz.2.1) zz.2.2)∧aV (cv zz.2.1)=true∧dx (cv xc) (cv zz.2.1)∧zz.2.2.length=xa.xs.length∧hU (cv xc) zz.2.2) (fun zz=>xa.xs.length -zz.1) (0,xc,xa.xs) ⟨Nat.zero_le _,rfl,hk, .cZ _,rfl,sY⟩ (Sub.cons rfl (Sub.cons rfl (Sub.cons rfl (Sub.cons rfl (Sub.cons rfl (Sub.cons rfl (Sub.cons rfl (Sub.cons rfl (Sub.nil _))))))))) (fun w hw=>ah.mem hw) ?_
 rintro⟨i,d,zs⟩ ⟨bj,aH,bG,di,Al,Dh⟩
 dsimp only
 simp only at bj aH bG di Al Dh
 have Di:=di.len
 have Am:d.pages=xc.pages:=di.pages
 have jc:(cv d).blocks.length=d.blocks.xs.length:=fB _
 refine Gc ?_
 refine Gs ?_
 refine Gc ?_
 refine au rfl (fun h0=> ?_) (fun h0=> ?_)
 ·
  replace h0:=bz h0
  obtain⟨n,ui⟩:=get_some (xs:=xa.xs) (i:=i) (by omega)
  obtain⟨zi,od⟩:=get_some (xs:=zs) (i:=i) (by omega)
  have Hr:=sY n (List.mem_of_getElem? ui)
  have hnn:0≤n:=by rcases Hr with h|h<;>omega
  have hnp:n≤512:=by
   rcases Hr with h|h
   ·
    omega
   ·
    exact FX vT.1 vT.2 hd.2.1 h.2.2
  have bB:(bZ (⟨cv xc,xa.xs,xg.toNat,xl⟩:VV) f t (xa.xs.drop i) i (cv d) zs)=(if n=0∨(n -1)/xc.pages≠f then(bZ (⟨cv xc,xa.xs,xg.toNat,xl⟩:VV) f t (xa.xs.drop (i+1)) (i+1) (cv d) zs)else if(cg (cv d) xa.xs zs f t).2=false then(⟨cv d,zs,some 6⟩:MV)else if(dQ (cv d) ((xg.toNat:Int)+1) i n).2≠0 then⟨cv d,zs,some (dQ (cv d) ((xg.toNat:Int)+1) i n).2⟩else if(bC (cv d) (cg (cv d) xa.xs zs f t).1 (dQ (cv d) ((xg.toNat:Int)+1) i n).1)≠0 then⟨(bn (cv d) (cg (cv d) xa.xs zs f t).1 (dQ (cv d) ((xg.toNat:Int)+1) i n).1),zs,some (jr (bC (cv d) (cg (cv d) xa.xs zs f t).1 (dQ (cv d) ((xg.toNat:Int)+1) i n).1))⟩else(bZ (⟨cv xc,xa.xs,xg.toNat,xl⟩:VV) f t (xa.xs.drop (i+1)) (i+1) (bn (cv d) (cg (cv d) xa.xs zs f t).1 (dQ (cv d) ((xg.toNat:Int)+1) i n).1) (zs.set i ((cg (cv d) xa.xs zs f t).1*xc.pages+(aj (cv d) (cg (cv d) xa.xs zs f t).1).used+1)))):=by
   rw[xr ui,bZ];rfl
  refine Gc ?_
  refine Gs ?_
  refine ag (bk rfl rfl i rfl (by omega)) ?_
  refine ag (bP (j:=0) rfl i ui rfl (by decide)) ?_
  iterate 2 refine Gs ?_
  refine Gc ?_
  iterate 3 refine Gs ?_
  refine Gg ?_
  refine bM rfl rfl rfl (fun hg=>(Ry.yl (yQ (aG hg rfl) rfl (by simp only[Z0,Z1,Z2,Z3,Z4,Z5,Z6,Z7,Z8,Z9]at hg;omega)))) ?_
  refine Gg ?_
  refine bM rfl rfl rfl (fun hg=>(Ry.yl (oB (aG hg rfl) (aG hg rfl) (by simp only[Z0,Z1,Z2,Z3,Z4,Z5,Z6,Z7,Z8,Z9]at hg;omega) (by simp only[Z0,Z1,Z2,Z3,Z4,Z5,Z6,Z7,Z8,Z9]at hg;omega)))) ?_
  iterate 2 refine Gg ?_
  refine Gs ?_
  refine Gc ?_
  refine au rfl (fun h1=> ?_) (fun h1=> ?_)
  ·
   replace h1:=bz h1
   refine Gc ?_
   iterate 2 refine Gs ?_
   refine Gi ?_
   exact bA (x:=(i,d,zs)) (i+1,d,zs) ⟨by simp only;omega,by rw[aH,bB,if_pos h1],bG,di,Al,Dh⟩ (by simp only;omega) (Sub.cons rfl (Sub.cons rfl (Sub.cons rfl (Sub.cons rfl (Sub.cons rfl (Sub.cons rfl (Sub.cons rfl (Sub.cons rfl (Sub.nil _))))))))) (fun w hw=>ah.mem hw)
  ·
   replace h1:=bz h1
   have eH: ¬(n=0∨(n -1)/xc.pages≠f):=fun g=>g.elim h1.1 (fun g=>g h1.2)
   have Dj:1≤n∧n≤1000000∧2≤(n -1)/d.pages∧(n -1)/d.pages<((cv d).blocks.length:Int):=by
    rw[Am,Di]
    rcases Hr with h|h
    ·
     exact absurd (.inl h) eH
    ·
     exact⟨h.1,by omega,h.2.1,h.2.2⟩
   refine Gc ?_
   iterate 2 refine Gs ?_
   iterate 2 refine Gi ?_
   refine Bt (X:=Unit) (fun zz=>[(12, .int .i64 ((cg (cv d) xa.xs zs f t).1)),(0, .pointer (some ⟨k,0,none⟩)),(1, .int .i64 f),(2, .int .i64 t),(8, .int .i64 xc.pages),(9,az.val),(10, .int .i64 (i:Nat)),(37,xa.sv.val),(38, .int .i64 (xa.xs.length:Nat)),(39, .int .i64 (i:Nat))]) (fun zz=>ar k (aM (⟨⟨d,xa,xg,xl⟩,xy⟩:aR)) 141::fz d::fz xa::own bK 1 az zs::L) (fun zz=>(cg (cv d) xa.xs zs f t).2=true∧2≤(cg (cv d) xa.xs zs f t).1∧(cg (cv d) xa.xs zs f t).1<(cv d).blocks.length) ?_ ?_
   ·
    refine Gc ?_
    iterate 2 refine Gs ?_
    refine Gc ?_
    refine au rfl (fun h2=> ?_) (fun h2=> ?_)
    ·
     replace h2:=bz h2
     refine Gi ?_
     have eA:aw [xa,(⟨az,zs⟩:Sl Int)]=xa.xs++zs:=Hj _ _
     have rU:=kL (cv d) (aw [xa,(⟨az,zs⟩:Sl Int)])
     obtain⟨q,hq⟩:=get_some (xs:=(av (cv d) (aw [xa,(⟨az,zs⟩:Sl Int)]))) (i:=(f -2).toNat) (by rw[kL];omega)
     have oY:qv (cv d) (aw [xa,(⟨az,zs⟩:Sl Int)]):=by
      rw[Hj]
      exact((sY.bT di).append (Dh.bT di)).kn bG (by omega) (by rw[List.length_append];omega)
     refine Gi ?_
     iterate 5 refine Gs ?_
     refine ag (Ry.to (v':=xa.sv.val) (bJ rfl) rfl) ?_
     refine Gs ?_
     refine pv (enc:=ca) (vals:=[xa.sv.val,az.val]) [xa,(⟨az,zs⟩:Sl Int)] rfl (by simp only[List.map_cons,List.map_nil,Sv.jm];rfl) rfl (by decide) (by decide) fun XV=> ?_
     refine bo (hc:=Hi (l:=(⟨⟨false,XV,0,2,2,none⟩,[xa,⟨az,zs⟩]⟩:Sl (Sl Int)))) rfl oY fun XW aiT=> ?_
     refine Gs ?_
     refine Gc ?_
     iterate 3 refine Gs ?_
     refine ag (cS (v:= .agg (bw bl)) rfl Df) ?_
     refine ag (bk rfl rfl ((f -2).toNat) (by omega) (show(f -2).toNat<(av (cv d) (aw [xa,(⟨az,zs⟩:Sl Int)])).length by omega)) ?_
     refine kX (s:=XW) (n:=4) (k:=(f -2).toNat) (j:=0) (a:=q) (a':=bl) (xs:=(av (cv d) (aw [xa,(⟨az,zs⟩:Sl Int)]))) (enc:=bw) (c:=4) (v:= .agg (bw bl)) (by kernel_rfl) rfl rfl rfl hq (bD.one (enc:=bw) (c:=4) _) rfl (by decide) (by rfl) ?_
     refine Gc ?_
     iterate 4 refine Gs ?_
     refine ag (aU (v:= .int .i64 ((eM ((av (cv d) (aw [xa,(⟨az,zs⟩:Sl Int)])).set (f -2).toNat bl) xc.pages).1)) rfl rfl) ?_
     refine ag (aU (v:= .bool ((eM ((av (cv d) (aw [xa,(⟨az,zs⟩:Sl Int)])).set (f -2).toNat bl) xc.pages).2)) rfl rfl) ?_
     iterate 2 refine Gs ?_
     refine Gc ?_
     iterate 2 refine Gs ?_
     refine Gc ?_
     refine au rfl (fun h3=> ?_) (fun h3=> ?_)
     ·
      replace h3:=bz h3
      have xQ:(cg (cv d) xa.xs zs f t).2=false:=by rw[cg,if_pos h2,←eA,if_neg];rw[show(cv d).pages=xc.pages from Am,h3];simp
      have hE:=F8 (x:=(⟨⟨cv xc,xa.xs,xg.toNat,xl⟩,xy⟩:WV)) (src:=f) (to:=t) (show bZ _ _ _ _ _ _ _=_ from(aH.trans (bB.trans ((if_neg eH).trans (if_pos xQ)))))
      refine Gc ?_
      iterate 2 refine Gs ?_
      refine Gc ?_
      refine aq (.inl rfl) (bq rfl (al rfl) (al rfl)) (fun w1 hw=> ?_)
      exact⟨(d,xa,xg,xl),by rw[hE],by rw[hE];rfl,ah.mem hw⟩
     ·
      replace h3:=bz h3
      have pV:=xq (show(fu _ _ _ _).2=true from h3)
      have Dk:(cg (cv d) xa.xs zs f t)=((eM ((av (cv d) (aw [xa,(⟨az,zs⟩:Sl Int)])).set (f -2).toNat bl) xc.pages).1+2,true):=by rw[cg,if_pos h2,←eA,show(cv d).pages=xc.pages from Am,if_pos h3]
      have aiU:0≤(eM ((av (cv d) (aw [xa,(⟨az,zs⟩:Sl Int)])).set (f -2).toNat bl) xc.pages).1:=pV.2.1
      have XX:(eM ((av (cv d) (aw [xa,(⟨az,zs⟩:Sl Int)])).set (f -2).toNat bl) xc.pages).1<(((av (cv d) (aw [xa,(⟨az,zs⟩:Sl Int)])).set (f -2).toNat bl).length:Int):=pV.2.2.1
      rw[List.length_set,kL]at XX
      refine Gc ?_
      iterate 3 refine Gs ?_
      refine Gi ?_
      exact tr () ⟨by rw[Dk],by rw[Dk];simp only;omega,by rw[Dk];simp only;omega⟩ (Sub.cons (look_eq rfl (by rw[Dk])) (Sub.cons rfl (Sub.cons rfl (Sub.cons rfl (Sub.cons rfl (Sub.cons rfl (Sub.cons rfl (Sub.cons rfl (Sub.cons rfl (Sub.cons rfl (Sub.nil _))))))))))) (fun w hw=>ah.mem hw)
    ·
     replace h2:=bz h2
     refine Gi ?_
     exact tr () ⟨by rw[cg,if_neg h2],by rw[cg,if_neg h2];exact(G8 (by first|omega|(simp only[];omega))).1,by rw[cg,if_neg h2,Di];exact(G8 (by first|omega|(simp only[];omega))).2⟩ (Sub.cons (look_eq rfl (by rw[cg,if_neg h2])) (Sub.cons rfl (Sub.cons rfl (Sub.cons rfl (Sub.cons rfl (Sub.cons rfl (Sub.cons rfl (Sub.cons rfl (Sub.cons rfl (Sub.cons rfl (Sub.nil _))))))))))) (fun w hw=>ah.mem hw)
   ·
    rintro⟨⟩ ⟨sZ,uv,yd⟩
    obtain⟨B,hB⟩:=get_some (xs:=d.blocks.xs) (i:=(cg (cv d) xa.xs zs f t).1.toNat) (by omega)
    have qN:Mb B d.blocks:=⟨List.mem_of_getElem? hB⟩
    have eN:=rC hB
    have o8:(aj (cv d) (cg (cv d) xa.xs zs f t).1).used=B.used:=by rw[eN];rfl
    have fV:=dV.1 (pL bG (b:=(cg (cv d) xa.xs zs f t).1) (by omega) (by omega))
    rw[o8,show(cv d).pages=xc.pages from Am]at fV
    have mg:0≤(cg (cv d) xa.xs zs f t).1*xc.pages:=Int.mul_nonneg (by omega) (by omega)
    have nE:(cg (cv d) xa.xs zs f t).1*xc.pages≤32*16:=Int.mul_le_mul (by omega) (by omega) (by omega) (by omega)
    refine Gi ?_
    refine rv [12,14,15,2014,4012] [[],[],[],[],[],[],[],[],[],[],[],[],[],[12],[],[12,14]] [0,1,2,3,4,5,6,7,8,9,10,11,12,13,14,15] [ar k (aM (⟨⟨d,xa,xg,xl⟩,xy⟩:aR)) 141,fz d,fz xa] [(14,lW Tryz.prog 110)] (by kernel_rfl) (fun _ hw=>ah.mem hw) (by kernel_rfl) (by kernel_rfl) ?_
    refine an rfl (aE rfl) ?_
    refine an rfl (aE rfl) ?_
    refine an rfl (jU rfl) ?_
    refine an rfl (aI (o':=0) rfl rfl) ?_
    refine an rfl (aI (o':=7) rfl rfl) ?_
    refine an rfl (Ry.to (v':= .int .u64 (xg.toNat:Nat)) (bJ rfl) rfl) ?_
    refine an rfl (Ry.to (v':= .int .u64 ((xg+1).toNat:Int)) (yU (p:=xg.toNat) (q:=1) rfl rfl rfl rfl (by simp only[nb];omega)) (by rw[rV])) ?_
    refine an rfl (aE rfl) ?_
    refine an rfl (jU rfl) ?_
    refine an rfl (aI (o':=0) rfl rfl) ?_
    refine an rfl (Ry.to (v':= .agg (bI (⟨d,xa,xg,xl⟩:bO))) (gD rfl) rfl) ?_
    refine an rfl (aE rfl) ?_
    refine tH (hc:=Nn (v:=(⟨d,xa,xg,xl⟩:bO)) (id:=((i:Nat):Int))) (Ff:=fun e_=>Nn (v:=(⟨d,xa,xg,xl⟩:bO)) (id:=((i:Nat):Int))) rfl rfl ⟨bG,n,by rw[Int.toNat_natCast];exact ui,by omega,Dj.1,Dj.2.1,Dj.2.2.1,Dj.2.2.2⟩ (fun e x w hw=>ah.mem hw) (Cert.one (i:=14) rfl rfl rfl kZ (Cert.none rfl)) fun An aiV=>⟨fun _ hw=>ah.mem hw,?_⟩
    refine an rfl (cS (v:= .agg (cN (⟨1,((i:Nat):Int),xg+1,⟨An,(iT (cv d) (xa.xs.getD ((i:Nat):Int).toNat 0))⟩⟩:eC))) rfl (XT ((i:Nat):Int) (xg+1) An _)) ?_
    refine pA (m:=lW Tryz.prog 110) rfl rfl kZ (Cert.none rfl) fun vU=> ?_
    change Ln _ _ _ _ _ _ _ _ (cD _ _ (.pointer (some ⟨vU,0,none⟩))) (ar vU (cN nt) 110::_) _
    refine dN rfl (pz rfl rfl ⟨fun _ hw=>ah.mem hw,?_⟩)
    iterate 3 refine Gi ?_
    have lE:(dg (cK (⟨1,((i:Nat):Int),xg+1,⟨An,(iT (cv d) (xa.xs.getD ((i:Nat):Int).toNat 0))⟩⟩:eC)) d.size)=(dQ (cv d) ((xg.toNat:Int)+1) i n):=by
     have e1:xa.xs.getD ((i:Nat):Int).toNat 0=n:=by rw[Int.toNat_natCast];exact ob ui
     rw[dQ,e1]
     simp only[cK,rV]
     congr 2
    refine jE [7] [[],[],[],[],[],[],[],[],[7],[7],[7],[7],[7]] [0,1,2,3,4,5,6,7,8,9,10,11,12] [ar k (aM (⟨⟨d,xa,xg,xl⟩,xy⟩:aR)) 141,fz d,ar vU (cN (⟨1,((i:Nat):Int),xg+1,⟨An,(iT (cv d) (xa.xs.getD ((i:Nat):Int).toNat 0))⟩⟩:eC)) 110] (fun _ hw=>ah.mem hw) (by kernel_rfl) (by kernel_rfl) ?_
    refine an rfl (eJ rfl) ?_
    refine an rfl (aE rfl) ?_
    refine an rfl (jU rfl) ?_
    refine an rfl (aI (o':=0) rfl rfl) ?_
    refine an rfl (aI (o':=0) rfl rfl) ?_
    refine an rfl (aI (o':=1) rfl rfl) ?_
    refine an rfl (Ry.to (v':= .int .i64 d.size) (bJ rfl) rfl) ?_
    refine dN rfl (nZ rfl trivial fun XY aiW=>⟨fun _ hw=>ah.mem hw,?_⟩)
    refine an rfl (aE rfl) ?_
    refine an rfl (aU (v:=XY.val) rfl rfl) ?_
    refine an rfl (aU (v:= .int .i64 ((dg (cK (⟨1,((i:Nat):Int),xg+1,⟨An,(iT (cv d) (xa.xs.getD ((i:Nat):Int).toNat 0))⟩⟩:eC)) d.size).2)) rfl rfl) ?_
    refine an rfl (bp rfl) ?_
    refine an rfl (bp rfl) ?_
    refine Gc ?_
    iterate 2 refine Gs ?_
    refine Gc ?_
    refine au rfl (fun h4=> ?_) (fun h4=> ?_)
    ·
     replace h4:=bz h4
     have jx:(dQ (cv d) ((xg.toNat:Int)+1) i n).2≠0:=by rw[←lE];exact h4
     have hE:=F8 (x:=(⟨⟨cv xc,xa.xs,xg.toNat,xl⟩,xy⟩:WV)) (src:=f) (to:=t) (show bZ _ _ _ _ _ _ _=_ from(aH.trans (bB.trans ((if_neg eH).trans ((if_neg (by rw[sZ];simp)).trans (if_pos jx))))))
     refine Gc ?_
     iterate 3 refine Gs ?_
     refine Gc ?_
     refine aq (.inl rfl) (bq rfl (al rfl) (al rfl)) (fun w1 hw=> ?_)
     exact⟨(d,xa,xg,xl),by rw[hE,lE],by rw[hE];rfl,ah.mem hw⟩
    ·
     replace h4:=bz h4
     have jx:(dQ (cv d) ((xg.toNat:Int)+1) i n).2=0:=by rw[←lE];exact h4
     refine Gc ?_
     iterate 5 refine Gs ?_
     refine ag (Ry.to (v':=d.blocks.sv.val) (bJ rfl) rfl) ?_
     refine Gs ?_
     refine ag (bk rfl rfl ((cg (cv d) xa.xs zs f t).1.toNat) (by omega) (by omega)) ?_
     refine ag (aI rfl rfl) ?_
     refine ag (bP (j:=1) rfl ((cg (cv d) xa.xs zs f t).1.toNat) hB rfl (by decide)) ?_
     refine Gs ?_
     refine Gc ?_
     iterate 3 refine Gs ?_
     refine bo rfl ⟨bG,by omega,by omega⟩ fun Ny Ao=> ?_
     rw[lE]at Ao
     refine Gs ?_
     refine Gc ?_
     iterate 2 refine Gs ?_
     refine Gc ?_
     refine au rfl (fun h5=> ?_) (fun h5=> ?_)
     ·
      replace h5:=bz h5
      have nJ:(bC (cv d) (cg (cv d) xa.xs zs f t).1 (dQ (cv d) ((xg.toNat:Int)+1) i n).1)≠0:=by rw[←lE];exact h5
      have hE:=F8 (x:=(⟨⟨cv xc,xa.xs,xg.toNat,xl⟩,xy⟩:WV)) (src:=f) (to:=t) (show bZ _ _ _ _ _ _ _=_ from(aH.trans (bB.trans ((if_neg eH).trans ((if_neg (by rw[sZ];simp)).trans ((if_neg (fun h=>h jx)).trans (if_pos nJ)))))))
      refine Gc ?_
      iterate 4 refine Gs ?_
      refine Gc ?_
      refine aq (.inl rfl) (bq rfl (al rfl) (al rfl)) (fun w1 hw=> ?_)
      exact⟨(Ny,xa,xg,xl),by rw[hE,lE],by rw[hE,Ao];rfl,ah.mem hw⟩
     ·
      replace h5:=bz h5
      have nJ:(bC (cv d) (cg (cv d) xa.xs zs f t).1 (dQ (cv d) ((xg.toNat:Int)+1) i n).1)=0:=by rw[←lE];exact h5
      have fC:=iS.1 (nv nJ).1
      rw[o8,show(cv d).pages=xc.pages from Am]at fC
      have ye:((cg (cv d) xa.xs zs f t).1*xc.pages+B.used+1)=0∨(1≤((cg (cv d) xa.xs zs f t).1*xc.pages+B.used+1)∧2≤(((cg (cv d) xa.xs zs f t).1*xc.pages+B.used+1) -1)/(cv xc).pages∧(((cg (cv d) xa.xs zs f t).1*xc.pages+B.used+1) -1)/(cv xc).pages<((cv xc).blocks.length:Int)):=by
       have hq:(((cg (cv d) xa.xs zs f t).1*xc.pages+B.used+1) -1)/xc.pages=(cg (cv d) xa.xs zs f t).1:=by
        rw[Int.add_sub_cancel,Int.add_comm,Int.add_mul_ediv_right _ _ (by omega),Int.ediv_eq_zero_of_lt fC.2.1 fC.2.2.1,Int.zero_add]
       exact .inr ⟨by omega,by rw[show(cv xc).pages=xc.pages from rfl,hq];exact uv,by rw[show(cv xc).pages=xc.pages from rfl,hq];omega⟩
      refine Gc ?_
      iterate 4 refine Gs ?_
      refine ag (uQ rfl rfl (by omega)) ?_
      iterate 3 refine Gs ?_
      refine ag (bk rfl rfl i rfl (by omega)) ?_
      refine kX (s:=az) (n:=1) (k:=i) (j:=0) (a:=zi) (a':=((cg (cv d) xa.xs zs f t).1*xc.pages+B.used+1)) (xs:=zs) (enc:=bK) (c:=1) (v:= .int .i64 ((cg (cv d) xa.xs zs f t).1*xc.pages+B.used+1)) (by kernel_rfl) rfl rfl rfl od (by simp[Value.cells,Value.oneCell']) rfl (by decide) (by rfl) ?_
      refine Gc ?_
      iterate 2 refine Gs ?_
      refine Gi ?_
      exact bA (x:=(i,d,zs)) (i+1,Ny,zs.set i ((cg (cv d) xa.xs zs f t).1*xc.pages+B.used+1)) ⟨by simp only;omega,by rw[aH,bB,if_neg eH,if_neg (by rw[sZ];simp),if_neg (fun h=>h jx),if_neg (fun h=>h nJ),Ao,o8],by rw[Ao];exact kK bG _ _,by rw[Ao];exact di.trans (gU _ _ _),by rw[List.length_set];exact Al,fun y hy=>(List.mem_or_eq_of_mem_set hy).elim (Dh y) fun hy=>hy▸ye⟩ (by simp only;omega) (Sub.cons rfl (Sub.cons rfl (Sub.cons rfl (Sub.cons rfl (Sub.cons rfl (Sub.cons rfl (Sub.cons rfl (Sub.cons rfl (Sub.nil _))))))))) (fun w hw=>ah.mem hw)
 ·
  replace h0:=bz h0
  obtain rfl:i=xa.xs.length:=by omega
  have s8:(bZ (⟨cv xc,xa.xs,xg.toNat,xl⟩:VV) f t xa.xs 0 (cv xc) xa.xs)=⟨cv d,zs,none⟩:=by rw[aH,List.drop_length];rfl
  have hE:=Uj (x:=(⟨⟨cv xc,xa.xs,xg.toNat,xl⟩,xy⟩:WV)) (src:=f) (to:=t) s8
  have Hs:cV (⟨⟨cv d,xa.xs,xg.toNat,xl⟩,xy⟩:WV):=gA.on bG di
  refine Gc ?_
  iterate 2 refine Gs ?_
  refine bo rfl Hs fun Dl XZ=> ?_
  refine Gs ?_
  refine Gc ?_
  iterate 5 refine Gs ?_
  refine Gc ?_
  refine aq (.inl rfl) (bq rfl (al rfl) (al rfl)) (fun w1 hw=> ?_)
  exact⟨(Dl.1,Dl.2.1,Dl.2.2.1,Dl.2.2.2),by rw[hE];rfl,by rw[hE];exact XZ,ah.mem hw⟩
instance aiX{w0:World}{L R1 R2 L2:List ai}{i0 i1 i2:Nat}{k:Nat}{xc:Cp}{xa:Sl Int}{xg:UInt64}{xl:Int}{xy:Bool}{f:Int}{t:Int}[q0:Has L k (aM (⟨⟨xc,xa,xg,xl⟩,xy⟩:aR)) 141 i0][d0:dw L i0 R1][q1:At R1 (fz xc) i1][d1:dw R1 i1 R2][q2:At R2 (fz xa) i2][d2:dw R2 i2 L2]:cn Tryz.prog 183 w0 L [.pointer (some ⟨k,0,none⟩), .int .i64 f, .int .i64 t] (Cp×Sl Int×UInt64×Int) (fun zz=> .tuple #[.bool ((c5 (⟨⟨cv xc,xa.xs,xg.toNat,xl⟩,xy⟩:WV) f t).2.1), .int .i64 ((c5 (⟨⟨cv xc,xa.xs,xg.toNat,xl⟩,xy⟩:WV) f t).2.2)]) (fun zz=>ar k (aM (⟨⟨zz.1,zz.2.1,zz.2.2.1,zz.2.2.2⟩,xy⟩:aR)) 141::fz zz.1::fz zz.2.1::L2) (fun zz=>(⟨⟨cv zz.1,zz.2.1.xs,zz.2.2.1.toNat,zz.2.2.2⟩,xy⟩:WV)=(c5 (⟨⟨cv xc,xa.xs,xg.toNat,xl⟩,xy⟩:WV) f t).1) (cV (⟨⟨cv xc,xa.xs,xg.toNat,xl⟩,xy⟩:WV)∧2≤f∧f<(cv xc).blocks.length∧(0≤t→2≤t∧t<(cv xc).blocks.length)):=⟨fun hp w hw=>XU w0 w L2 k xc xa xg xl xy f t (xO q0.h d0.h q1.h d1.h q2.h d2.h hw) hp⟩
open Go.aA Go.Kb
open Go.RowKit
theorem X0(w:World)(xb:Nat)(xc:Cp)(xa:Sl Int)(xg:UInt64)(xl:Int)(xy:Bool)(l:Sv)(ls:List ay)(dR:w.heap[xb]? =Option.some (.cells (aM (⟨⟨xc,xa,xg,xl⟩,xy⟩:aR)) 141 (0,0)))(dY:Deep.bb (hp w) xc)(hl:bQ bw 4 (hp w) l ls)(bc:ls.length≤1000000∧ ∀x∈ls,0≤x.live∧x.live≤1000000∧0≤x.used∧x.used≤1000000):Calls Tryz.prog 166 #[.pointer (some ⟨xb,0,none⟩),l.val] w fun e w'=>e= .returned (.tuple #[.int .i64 ((gI ls xc.pages).1), .bool ((gI ls xc.pages).2)])∧Mem w [] w':=by
 have sU:pW w xb (aM (⟨⟨xc,xa,xg,xl⟩,xy⟩:aR)) 141:=⟨dR⟩
 have sV:cm w xc:=⟨dY⟩
 have oX:Gv w l bw 4 ls:=⟨hl⟩
 obtain⟨kP,je⟩:=bc
 have oO:cP=1099511627776:=rfl
 refine ba (args:=[_,_]) Tryz.func166 rfl Tryz.ntmps166 rfl ?_
 change Cw _ _ _ _ _ [(0, .pointer (some ⟨xb,0,none⟩)),(1,l.val)] []
 refine Gc ?_
 iterate 2 refine Gs ?_
 refine Gc ?_
 iterate 6 refine Gs ?_
 refine ag (Ry.to (v':= .int .i64 xc.pages) (mT rfl) rfl) ?_
 iterate 2 refine Gs ?_
 refine ag (aU (v:= .int .i64 ((qz ls xc.pages).1)) rfl rfl) ?_
 refine ag (aU (v:= .bool ((qz ls xc.pages).2)) rfl rfl) ?_
 iterate 2 refine Gs ?_
 refine Gc ?_
 refine Gs ?_
 refine Gc ?_
 refine au rfl (fun h0=> ?_) (fun h0=> ?_)
 ·
  replace h0:=bz h0
  have hE:gI ls xc.pages=((qz ls xc.pages).1,true):=by rw[gI,if_pos h0]
  refine Gc ?_
  iterate 3 refine Gs ?_
  refine Gc ?_
  refine aq (.inl rfl) (bq rfl (al rfl) (al rfl)) (fun w1 hw=> ?_)
  exact⟨by rw[hE],ah.mem hw⟩
 ·
  replace h0:=bz h0
  have hE:gI ls xc.pages=((fT ls ls.length).1,decide (0<(fT ls ls.length).2)):=by rw[gI,if_neg (by rw[h0];simp)]
  refine Gc ?_
  iterate 2 refine Gs ?_
  refine Gc ?_
  iterate 3 refine Gs ?_
  refine Gc ?_
  refine cc (X:=Nat) (fun zz=>[(28, .int .i64 (zz:Nat)),(8, .int .i64 ((fT ls zz).1)),(9, .int .i64 ((fT ls zz).2)),(26,l.val),(27, .int .i64 (ls.length:Nat))]) (fun zz=>[]) (fun zz=>zz≤ls.length) (fun zz=>ls.length -zz) 0 (Nat.zero_le _) (Sub.cons rfl (Sub.cons rfl (Sub.cons rfl (Sub.cons rfl (Sub.cons rfl (Sub.nil _)))))) (fun w hw=>ah.mem hw) ?_
  rintro i bj
  refine Gc ?_
  refine Gs ?_
  refine Gc ?_
  refine au rfl (fun h1=> ?_) (fun h1=> ?_)
  ·
   replace h1:=bz h1
   obtain⟨z,hz⟩:=get_some (xs:=ls) (i:=i) (by omega)
   have vV:ls.getD i dO=z:=by simp[List.getD,hz]
   have hzb:=je z (List.mem_of_getElem? hz)
   have xS:=F5 ls i
   have eS:(fT ls (i+1))=tV (fT ls i) i z:=by rw[fT,vV]
   refine Gc ?_
   refine Gs ?_
   refine ag (bk rfl rfl i rfl (by omega)) ?_
   refine ag (gR rfl i hz rfl) ?_
   refine bH fun oq=> ?_
   iterate 2 refine Gs ?_
   refine Gc ?_
   iterate 3 refine Gs ?_
   iterate 3 refine Gg ?_
   iterate 2 refine Gs ?_
   iterate 3 refine Gg ?_
   refine Gs ?_
   refine Gc ?_
   refine au rfl (fun h2=> ?_) (fun h2=> ?_)
   ·
    replace h2:=bz h2
    have bB:(fT ls (i+1))=(fT ls i):=by rw[eS,tV,if_pos (h2.elim (fun h=>h.elim (fun h=> .inl h) fun h=> .inr (.inl h)) fun h=> .inr (.inr (by omega)))]
    refine Gc ?_
    iterate 2 refine Gs ?_
    refine Gi ?_
    exact bA (x:=(i)) (i+1) (by first|omega|(simp only[];omega)) (by first|omega|(simp only[];omega)) (Sub.cons rfl (Sub.cons (look_eq rfl (by rw[bB])) (Sub.cons (look_eq rfl (by rw[bB])) (Sub.cons rfl (Sub.cons rfl (Sub.nil _)))))) (fun w hw=>ah.mem hw)
   ·
    replace h2:=bz h2
    have fg: ¬(z.bad=true∨z.live=0∨cP≤z.aT):=fun g=>g.elim (fun g=>absurd (h2.1.1.symm.trans g) (by simp)) (fun g=>g.elim h2.1.2 (fun g=>h2.2 (by omega)))
    refine Gc ?_
    iterate 6 refine Gs ?_
    refine Gc ?_
    iterate 3 refine Gs ?_
    refine Gc ?_
    refine au rfl (fun h3=> ?_) (fun h3=> ?_)
    ·
     replace h3:=bz h3
     have bB:(fT ls (i+1))=((i:Int),z.used -z.live):=by rw[eS,tV,if_neg fg,if_pos h3]
     refine Gi ?_
     iterate 4 refine Gs ?_
     refine Gc ?_
     iterate 2 refine Gs ?_
     refine Gi ?_
     exact bA (x:=(i)) (i+1) (by first|omega|(simp only[];omega)) (by first|omega|(simp only[];omega)) (Sub.cons rfl (Sub.cons (look_eq rfl (by rw[bB])) (Sub.cons (look_eq rfl (by rw[bB])) (Sub.cons rfl (Sub.cons rfl (Sub.nil _)))))) (fun w hw=>ah.mem hw)
    ·
     replace h3:=bz h3
     have bB:(fT ls (i+1))=(fT ls i):=by rw[eS,tV,if_neg fg,if_neg h3]
     refine Gc ?_
     iterate 2 refine Gs ?_
     refine Gi ?_
     exact bA (x:=(i)) (i+1) (by first|omega|(simp only[];omega)) (by first|omega|(simp only[];omega)) (Sub.cons rfl (Sub.cons (look_eq rfl (by rw[bB])) (Sub.cons (look_eq rfl (by rw[bB])) (Sub.cons rfl (Sub.cons rfl (Sub.nil _)))))) (fun w hw=>ah.mem hw)
  ·
   replace h1:=bz h1
   obtain rfl:i=ls.length:=by omega
   refine Gc ?_
   iterate 5 refine Gs ?_
   refine Gc ?_
   refine aq (.inl rfl) (bq rfl (al rfl) (al rfl)) (fun w1 hw=> ?_)
   exact⟨by rw[hE],ah.mem hw⟩
instance aiY{w0:World}{L:List ai}{xb:Nat}{xc:Cp}{xa:Sl Int}{xg:UInt64}{xl:Int}{xy:Bool}{l:Sv}{ls:List ay}[dR:lI w0 L xb (aM (⟨⟨xc,xa,xg,xl⟩,xy⟩:aR)) 141][dY:aW w0 L xc][hl:df w0 L bw 4 l ls]:cI Tryz.prog 166 w0 L [.pointer (some ⟨xb,0,none⟩),l.val] (.tuple #[.int .i64 ((gI ls xc.pages).1), .bool ((gI ls xc.pages).2)]) (ls.length≤1000000∧ ∀x∈ls,0≤x.live∧x.live≤1000000∧0≤x.used∧x.used≤1000000):=⟨fun hp w hw=>X0 w xb xc xa xg xl xy l ls (dR.h w hw) (dY.h w hw) (hl.h w hw) hp⟩
theorem X1(w:World)(x:ay):Calls Tryz.prog 192 #[.agg (bw x)] w fun e w'=>e= .returned (.bool (pO x))∧Mem w [] w':=by
 refine ba (args:=[_]) Tryz.func192 rfl Tryz.ntmps192 rfl ?_
 change Cw _ _ _ _ _ [(0, .agg (bw x))] []
 refine Gc ?_
 refine bY rfl fun b1=> ?_
 refine Gs ?_
 refine Gc ?_
 iterate 4 refine Gs ?_
 refine Gc ?_
 refine aq (.inl rfl) (aJ rfl (al rfl)) (fun w1 hw=> ?_)
 exact⟨congrArg (fun b=>Ending.returned (Value.bool b)) (rfl),ah.mem hw⟩
instance {w0:World}{L:List ai}:qO Tryz.prog w0 L 192 #[] bw pO:=⟨inferInstance,fun w _ x=>X1 w x⟩
theorem X2(w:World)(x:ay):Calls Tryz.prog 194 #[.agg (bw x)] w fun e w'=>e= .returned (.bool (qG x))∧Mem w [] w':=by
 refine ba (args:=[_]) Tryz.func194 rfl Tryz.ntmps194 rfl ?_
 change Cw _ _ _ _ _ [(0, .agg (bw x))] []
 refine Gc ?_
 refine bY rfl fun b1=> ?_
 refine Gs ?_
 refine Gc ?_
 iterate 4 refine Gs ?_
 refine Gc ?_
 refine aq (.inl rfl) (aJ rfl (al rfl)) (fun w1 hw=> ?_)
 exact⟨congrArg (fun b=>Ending.returned (Value.bool b)) (rfl),ah.mem hw⟩
instance {w0:World}{L:List ai}:qO Tryz.prog w0 L 194 #[] bw qG:=⟨inferInstance,fun w _ x=>X2 w x⟩
theorem X3(w:World)(cb:Nat)(cp:Int)(oT:w.cell? ⟨cb,0,none⟩=Option.some (.int .i64 cp))(x:ay):Calls Tryz.prog 193 #[.agg (bw x), .pointer (some ⟨cb,0,none⟩)] w fun e w'=>e= .returned (.bool (qF cp x))∧Mem w [] w':=by
 refine ba (args:=[_,_]) Tryz.func193 rfl Tryz.ntmps193 rfl ?_
 change Cw _ _ _ _ _ [(0, .agg (bw x)),(1, .pointer (some ⟨cb,0,none⟩))] []
 refine Gc ?_
 refine bY rfl fun b2=> ?_
 refine Gs ?_
 refine Gc ?_
 iterate 2 refine Gs ?_
 refine ag (MW rfl oT) ?_
 iterate 2 refine Gs ?_
 refine Gc ?_
 refine aq (.inl rfl) (aJ rfl (al rfl)) (fun w1 hw=> ?_)
 exact⟨congrArg (fun b=>Ending.returned (Value.bool b)) (rfl),ah.mem hw⟩
instance {w0:World}{L:List ai}{cb i:Nat}{cp:Int}{T:TypeId}[q:Has L cb #[.int .i64 cp] T i]:qO Tryz.prog w0 L 193 #[.pointer (some ⟨cb,0,none⟩)] bw (qF cp):=⟨inferInstance,fun w hw x=>X3 w cb cp (by rw[hw.cell q.h];rfl) x⟩
theorem X4(w0 w:World)(L:List ai)(k:Nat)(xc:Cp)(xa:Sl Int)(xg:UInt64)(xl:Int)(xy:Bool)(l:Sv)(ls:List ay)[hl:Hd w0 L l bw 4 ls](hw:Mem w0 (ar k (aM (⟨⟨xc,xa,xg,xl⟩,xy⟩:aR)) 141::fz xc::L) w)(bc:aV (cv xc)=true∧kt (cv xc) ls):Calls Tryz.prog 181 #[.pointer (some ⟨k,0,none⟩),l.val] w fun e w'=> ∃zz:Cp,e= .returned (.tuple #[.int .i64 ((bV (cv xc) ls).2.1), .int .i64 ((bV (cv xc) ls).2.2)])∧(cv zz=(bV (cv xc) ls).1)∧Mem w0 (ar k (aM (⟨⟨zz,xa,xg,xl⟩,xy⟩:aR)) 141::fz zz::L) w':=by
 have hk:=bc.1
 have jj:=bc.2.1
 have hd:=eE hk
 refine kB (args:=[_,_]) Tryz.func181 rfl Tryz.ntmps181 rfl hw ?_
 change Cw _ _ _ _ _ [(0, .pointer (some ⟨k,0,none⟩)),(1,l.val)] (ar k (aM (⟨⟨xc,xa,xg,xl⟩,xy⟩:aR)) 141::fz xc::L)
 refine Gc ?_
 iterate 2 refine Gs ?_
 refine Gc ?_
 iterate 5 refine Gs ?_
 refine ag (Ry.to (v':= .int .i64 xc.pages) (bJ rfl) rfl) ?_
 refine Vp (z:= .int .i64 0) rfl fun b6=> ?_
 refine Vq (by first|rfl|exact Sv.one _) rfl rfl ?_
 refine Gc ?_
 refine Gs ?_
 refine bo rfl (by omega) fun mP C7=> ?_
 refine Gs ?_
 refine Gc ?_
 iterate 4 refine Gs ?_
 refine ag (aU (v:= .int .i64 ((eM (bS pO ls) xc.pages).1)) rfl rfl) ?_
 refine ag (aU (v:= .bool ((eM (bS pO ls) xc.pages).2)) rfl rfl) ?_
 iterate 2 refine Gs ?_
 refine Gc ?_
 refine Gs ?_
 refine Gc ?_
 refine au rfl (fun h0=> ?_) (fun h0=> ?_)
 ·
  replace h0:=bz h0
  have ot:(lf (cv xc) ls).2=true:=h0
  have hE:(bV (cv xc) ls)=(cv xc,(lf (cv xc) ls).1+2,0):=by rw[bV,if_pos ot]
  have nF:=tW bc.2 (fun x h=>(qA h).1) ot
  change 0≤(eM (bS pO ls) xc.pages).1∧(eM (bS pO ls) xc.pages).1<_∧_ at nF
  refine Gc ?_
  iterate 4 refine Gs ?_
  refine Gc ?_
  refine aq (.inl rfl) (bq rfl (al rfl) (al rfl)) (fun w1 hw=> ?_)
  exact⟨xc,by rw[hE];rfl,by rw[hE],ah.mem hw⟩
 ·
  replace h0:=bz h0
  have ot: ¬(lf (cv xc) ls).2=true:=fun h=>by rw[show(lf (cv xc) ls).2=false from h0]at h;cases h
  refine Gc ?_
  refine Gs ?_
  refine ag (GP rfl) ?_
  refine bo rfl (by omega) fun Ap Nz=> ?_
  refine Gs ?_
  refine Gc ?_
  iterate 4 refine Gs ?_
  refine ag (aU (v:= .int .i64 ((eQ (bS (qF xc.pages) ls) xc.pages).1)) rfl rfl) ?_
  refine ag (aU (v:= .bool ((eQ (bS (qF xc.pages) ls) xc.pages).2)) rfl rfl) ?_
  iterate 2 refine Gs ?_
  refine Gc ?_
  refine Gs ?_
  refine Gc ?_
  refine au rfl (fun h1=> ?_) (fun h1=> ?_)
  ·
   replace h1:=bz h1
   have eH:(jt (cv xc) ls).2=true:=h1
   have hE:(bV (cv xc) ls)=((cA (cv xc) ((jt (cv xc) ls).1+2)).1,(jt (cv xc) ls).1+2,(cA (cv xc) ((jt (cv xc) ls).1+2)).2):=by rw[bV,if_neg ot,if_pos eH]
   have nF:=tW bc.2 (fun x h=>(kM h).1) eH
   change 0≤(eQ (bS (qF xc.pages) ls) xc.pages).1∧(eQ (bS (qF xc.pages) ls) xc.pages).1<_∧_ at nF
   refine Gc ?_
   iterate 5 refine Gs ?_
   refine bo rfl ⟨hk,by omega,by omega⟩ fun uw NA=> ?_
   iterate 2 refine Gs ?_
   refine Gc ?_
   refine aq (.inl rfl) (bq rfl (al rfl) (al rfl)) (fun w1 hw=> ?_)
   exact⟨uw,by rw[hE];rfl,by rw[NA,hE];rfl,ah.mem hw⟩
  ·
   replace h1:=bz h1
   have eH: ¬(jt (cv xc) ls).2=true:=fun h=>by rw[show(jt (cv xc) ls).2=false from h1]at h;cases h
   refine Gc ?_
   refine Gs ?_
   refine bo rfl (by omega) fun oh vO=> ?_
   refine Gs ?_
   refine Gc ?_
   iterate 4 refine Gs ?_
   refine ag (aU (v:= .int .i64 ((eQ (bS qG ls) xc.pages).1)) rfl rfl) ?_
   refine ag (aU (v:= .bool ((eQ (bS qG ls) xc.pages).2)) rfl rfl) ?_
   iterate 2 refine Gs ?_
   refine Gc ?_
   refine Gs ?_
   refine Gc ?_
   refine au rfl (fun h2=> ?_) (fun h2=> ?_)
   ·
    replace h2:=bz h2
    have fg:(ju (cv xc) ls).2=true:=h2
    have hE:(bV (cv xc) ls)=((cA (cv xc) ((ju (cv xc) ls).1+2)).1,(ju (cv xc) ls).1+2,(cA (cv xc) ((ju (cv xc) ls).1+2)).2):=by rw[bV,if_neg ot,if_neg eH,if_pos fg]
    have nF:=tW bc.2 (fun x h=>(kM h).1) fg
    change 0≤(eQ (bS qG ls) xc.pages).1∧(eQ (bS qG ls) xc.pages).1<_∧_ at nF
    refine Gc ?_
    iterate 5 refine Gs ?_
    refine bo rfl ⟨hk,by omega,by omega⟩ fun X5 X6=> ?_
    iterate 2 refine Gs ?_
    refine Gc ?_
    refine aq (.inl rfl) (bq rfl (al rfl) (al rfl)) (fun w1 hw=> ?_)
    exact⟨X5,by rw[hE];rfl,by rw[X6,hE];rfl,ah.mem hw⟩
   ·
    replace h2:=bz h2
    have fg: ¬(ju (cv xc) ls).2=true:=fun h=>by rw[show(ju (cv xc) ls).2=false from h2]at h;cases h
    refine Gc ?_
    iterate 2 refine Gs ?_
    refine Gc ?_
    refine aq (.inl rfl) (bq rfl (al rfl) (al rfl)) (fun w1 hw=> ?_)
    exact⟨xc,by rw[bV,if_neg ot,if_neg eH,if_neg fg],by rw[bV,if_neg ot,if_neg eH,if_neg fg],ah.mem hw⟩
instance aiZ{w0:World}{L R1 L2:List ai}{i0 i1:Nat}{k:Nat}{xc:Cp}{xa:Sl Int}{xg:UInt64}{xl:Int}{xy:Bool}{l:Sv}{ls:List ay}[q0:Has L k (aM (⟨⟨xc,xa,xg,xl⟩,xy⟩:aR)) 141 i0][d0:dw L i0 R1][q1:At R1 (fz xc) i1][d1:dw R1 i1 L2][hl:Hd w0 L2 l bw 4 ls]:cn Tryz.prog 181 w0 L [.pointer (some ⟨k,0,none⟩),l.val] (Cp) (fun zz=> .tuple #[.int .i64 ((bV (cv xc) ls).2.1), .int .i64 ((bV (cv xc) ls).2.2)]) (fun zz=>ar k (aM (⟨⟨zz,xa,xg,xl⟩,xy⟩:aR)) 141::fz zz::L2) (fun zz=>cv zz=(bV (cv xc) ls).1) (aV (cv xc)=true∧kt (cv xc) ls):=⟨fun hp w hw=>X4 w0 w L2 k xc xa xg xl xy l ls (sP q0.h d0.h q1.h d1.h hw) hp⟩
open Go.aA Go.Kb
open Go.RowKit
theorem X7(w0 w:World)(L:List ai)(k:Nat)(xc:Cp)(xa:Sl Int)(xg:UInt64)(xl:Int)(xy:Bool)(l:Sv)(ls:List ay)(i:Int)[hl:Hd w0 L l bw 4 ls](hw:Mem w0 (ar k (aM (⟨⟨xc,xa,xg,xl⟩,xy⟩:aR)) 141::fz xc::fz xa::L) w)(bc:cV (⟨⟨cv xc,xa.xs,xg.toNat,xl⟩,xy⟩:WV)∧kt (cv xc) ls∧0≤i∧i<ls.length):Calls Tryz.prog 168 #[.pointer (some ⟨k,0,none⟩),l.val, .int .i64 i] w fun e w'=> ∃zz:Cp×Sl Int×UInt64×Int,e= .returned (.int .i64 ((ff (⟨⟨cv xc,xa.xs,xg.toNat,xl⟩,xy⟩:WV) ls i).2))∧((⟨⟨cv zz.1,zz.2.1.xs,zz.2.2.1.toNat,zz.2.2.2⟩,xy⟩:WV)=(ff (⟨⟨cv xc,xa.xs,xg.toNat,xl⟩,xy⟩:WV) ls i).1)∧Mem w0 (ar k (aM (⟨⟨zz.1,zz.2.1,zz.2.2.1,zz.2.2.2⟩,xy⟩:aR)) 141::fz zz.1::fz zz.2.1::L) w':=by
 obtain⟨gA,qQ,yK,bj⟩:=bc
 have hk:aV (cv xc)=true:=gA.ae
 have yb:4≤(cv xc).blocks.length:=gA.qE
 have hd:=eE hk
 have jj:=qQ.1
 obtain⟨z,hz⟩:=get_some (xs:=ls) (i:=i.toNat) (by omega)
 have vV:ls.getD i.toNat dO=z:=by simp[List.getD,hz]
 have xI:(ls.set i.toNat bl).length=ls.length:=List.length_set
 refine kB (args:=[_,_,_]) Tryz.func168 rfl Tryz.ntmps168 rfl hw ?_
 change Cw _ _ _ _ _ [(0, .pointer (some ⟨k,0,none⟩)),(1,l.val),(2, .int .i64 i)] (ar k (aM (⟨⟨xc,xa,xg,xl⟩,xy⟩:aR)) 141::fz xc::fz xa::L)
 refine Gc ?_
 refine Gs ?_
 refine Gc ?_
 refine Gs ?_
 refine bo rfl (by omega) fun p0 Ht=> ?_
 refine Gs ?_
 refine Gc ?_
 iterate 2 refine Gs ?_
 refine ag (cS (v:= .agg (bw bl)) rfl Df) ?_
 refine ag (bk rfl rfl i.toNat (by omega) (by omega)) ?_
 refine kX (s:=p0) (n:=4) (k:=i.toNat) (j:=0) (a:=z) (a':=bl) (xs:=ls) (enc:=bw) (c:=4) (v:= .agg (bw bl)) (by kernel_rfl) rfl rfl rfl hz (bD.one (enc:=bw) (c:=4) _) rfl (by decide) (by rfl) ?_
 refine Gc ?_
 iterate 2 refine Gs ?_
 refine bo rfl ⟨hk,qQ.set i.toNat⟩ fun gY vK=> ?_
 obtain⟨t1,t2,t3,t4,t5,t6⟩:=F7 hk (qQ.set i.toNat)
 rw[←vK]at t1 t2 t3 t4 t5 t6
 have pf:cV (⟨⟨cv gY,xa.xs,xg.toNat,xl⟩,xy⟩:WV):=gA.on t1 t2
 refine Gs ?_
 refine ag (aU (v:= .int .i64 ((bV (cv xc) (ls.set i.toNat bl)).2.1)) rfl rfl) ?_
 refine ag (aU (v:= .int .i64 ((bV (cv xc) (ls.set i.toNat bl)).2.2)) rfl rfl) ?_
 iterate 2 refine Gs ?_
 iterate 2 refine Gi ?_
 refine Bt (X:=Unit) (fun zz=>[(8, .int .i64 ((cQ (cv xc) ls i).1)),(9, .int .i64 ((cQ (cv xc) ls i).2)),(0, .pointer (some ⟨k,0,none⟩)),(1,l.val),(2, .int .i64 i)]) (fun zz=>ar k (aM (⟨⟨gY,xa,xg,xl⟩,xy⟩:aR)) 141::fz gY::fz xa::L) (fun zz=>True) ?_ ?_
 ·
  refine Gi ?_
  refine hG (by kernel_rfl) (by kernel_rfl) ?_
  iterate 3 refine Gq ?_
  iterate 2 refine Gh ?_
  refine fI rfl rfl rfl (fun hg=>(Ry.yl (jU (aG hg rfl)))) ?_
  refine fI rfl rfl rfl (fun hg=>(Ry.yl (aI (o':=0) (aG hg rfl) rfl))) ?_
  refine fI rfl rfl rfl (fun hg=>(Ry.yl (aI (o':=0) (aG hg rfl) rfl))) ?_
  refine fI rfl rfl rfl (fun hg=>(Ry.yl (aI (o':=0) (aG hg rfl) rfl))) ?_
  refine fI rfl rfl rfl (fun hg=>(Ry.yl (Ry.to (v':= .int .i64 gY.pages) (bJ (aG hg rfl)) rfl))) ?_
  refine fI rfl rfl rfl (fun hg=>cE (dy (aG hg rfl) (dy (aG hg rfl) gB)) trivial) ?_
  iterate 2 refine Gh ?_
  refine fI rfl rfl rfl (fun hg=>(Ry.yl (bk (aG hg rfl) (aG hg rfl) i.toNat (by omega) (by omega)))) ?_
  refine fI rfl rfl rfl (fun hg=>(Ry.yl (aI (aG hg rfl) rfl))) ?_
  refine fI rfl rfl rfl (fun hg=>(Ry.yl (bP (j:=0) (aG hg rfl) i.toNat hz rfl (by decide)))) ?_
  refine Gh ?_
  refine Gq ?_
  refine Gc ?_
  refine au rfl (fun h0=> ?_) (fun h0=> ?_)
  ·
   replace h0:=bz h0
   have hA:oQ (cv xc) ls i=true:=by
    rw[oQ,vV,Bool.and_eq_true,decide_eq_true_eq,decide_eq_true_eq,←show gY.pages=(cv xc).pages from t2.pages];exact h0
   refine Gi ?_
   iterate 2 refine Gs ?_
   refine Gi ?_
   exact tr () trivial (Sub.cons (look_eq rfl (by rw[cQ,if_pos hA])) (Sub.cons (look_eq rfl (by rw[cQ,if_pos hA])) (Sub.cons rfl (Sub.cons rfl (Sub.cons rfl (Sub.nil _)))))) (fun w hw=>ah.mem hw)
  ·
   replace h0:=bz h0
   have hA: ¬oQ (cv xc) ls i=true:=by
    rw[oQ,vV,Bool.and_eq_true,decide_eq_true_eq,decide_eq_true_eq,←show gY.pages=(cv xc).pages from t2.pages]
    rintro⟨ga,gb⟩
    rcases h0 with h|h
    ·
     exact h ga
    ·
     exact h gb
   refine Gi ?_
   exact tr () trivial (Sub.cons (look_eq rfl (by rw[cQ,if_neg hA])) (Sub.cons (look_eq rfl (by rw[cQ,if_neg hA])) (Sub.cons rfl (Sub.cons rfl (Sub.cons rfl (Sub.nil _)))))) (fun w hw=>ah.mem hw)
 ·
  rintro⟨⟩ _
  refine Gc ?_
  iterate 2 refine Gs ?_
  refine Gc ?_
  refine au rfl (fun h1=> ?_) (fun h1=> ?_)
  ·
   replace h1:=bz h1
   have hE:(ff (⟨⟨cv xc,xa.xs,xg.toNat,xl⟩,xy⟩:WV) ls i)=(((⟨⟨cv xc,xa.xs,xg.toNat,xl⟩,xy⟩:WV).on (cv gY)),jr (cQ (cv xc) ls i).2):=by rw[ff,if_pos h1,show((⟨⟨cv xc,xa.xs,xg.toNat,xl⟩,xy⟩:WV)).v.ae=cv xc from rfl,←vK]
   refine Gc ?_
   iterate 3 refine Gs ?_
   refine Gc ?_
   refine aq (.inl rfl) (aJ rfl (al rfl)) (fun w1 hw=> ?_)
   exact⟨(gY,xa,xg,xl),by rw[hE],by rw[hE];rfl,ah.mem hw⟩
  ·
   replace h1:=bz h1
   have eH: ¬(cQ (cv xc) ls i).2≠0:=fun h=>h h1
   have bB:(ff (⟨⟨cv xc,xa.xs,xg.toNat,xl⟩,xy⟩:WV) ls i)=(if(c5 (⟨⟨cv gY,xa.xs,xg.toNat,xl⟩,xy⟩:WV) (i+2) (cQ (cv xc) ls i).1).2.1=false∨z.used=xc.pages then((c5 (⟨⟨cv gY,xa.xs,xg.toNat,xl⟩,xy⟩:WV) (i+2) (cQ (cv xc) ls i).1).1,(c5 (⟨⟨cv gY,xa.xs,xg.toNat,xl⟩,xy⟩:WV) (i+2) (cQ (cv xc) ls i).1).2.2)else((c5 (⟨⟨cv gY,xa.xs,xg.toNat,xl⟩,xy⟩:WV) (i+2) (cQ (cv xc) ls i).1).1.on (cA (c5 (⟨⟨cv gY,xa.xs,xg.toNat,xl⟩,xy⟩:WV) (i+2) (cQ (cv xc) ls i).1).1.v.ae (i+2)).1,jr (cA (c5 (⟨⟨cv gY,xa.xs,xg.toNat,xl⟩,xy⟩:WV) (i+2) (cQ (cv xc) ls i).1).1.v.ae (i+2)).2)):=by
    rw[ff]
    refine(if_neg eH).trans ?_
    rw[vV,show((⟨⟨cv xc,xa.xs,xg.toNat,xl⟩,xy⟩:WV)).v.ae=cv xc from rfl,←vK];rfl
   refine Gc ?_
   iterate 4 refine Gs ?_
   refine bo rfl ⟨pf,by omega,by rw[t2.len];omega,fun h=>by rw[t2.len];have:=CI (i:=i) hk qQ h1 h;exact⟨this.1,this.2.1⟩⟩ fun oh vO=> ?_
   have hm:=Ul (x:=(⟨⟨cv gY,xa.xs,xg.toNat,xl⟩,xy⟩:WV)) (src:=i+2) (to:=(cQ (cv xc) ls i).1) pf (fun h=>by
    have:=CI (i:=i) hk qQ h1 h
    exact⟨this.1,by rw[show((⟨⟨cv gY,xa.xs,xg.toNat,xl⟩,xy⟩:WV)).v.ae.blocks.length=(cv xc).blocks.length from t2.len];exact this.2.1,by rw[show((⟨⟨cv gY,xa.xs,xg.toNat,xl⟩,xy⟩:WV)).v.ae=(bV (cv xc) (ls.set i.toNat bl)).1 from vK];exact this.2.2⟩)
   rw[←vO]at hm
   obtain⟨X8,NB⟩:=hm
   have oo:oh.1.pages=xc.pages:=NB.pages.trans t2.pages
   refine Gs ?_
   refine ag (aU (v:= .bool ((c5 (⟨⟨cv gY,xa.xs,xg.toNat,xl⟩,xy⟩:WV) (i+2) ((cQ (cv xc) ls i).1)).2.1)) rfl rfl) ?_
   refine ag (aU (v:= .int .i64 ((c5 (⟨⟨cv gY,xa.xs,xg.toNat,xl⟩,xy⟩:WV) (i+2) ((cQ (cv xc) ls i).1)).2.2)) rfl rfl) ?_
   iterate 2 refine Gs ?_
   refine Gc ?_
   refine hG (by kernel_rfl) (by kernel_rfl) ?_
   iterate 3 refine Gq ?_
   iterate 2 refine Gh ?_
   refine ja rfl rfl rfl (fun hg=>(Ry.yl (bk (aG hg rfl) (aG hg rfl) i.toNat (by omega) (by omega)))) ?_
   refine ja rfl rfl rfl (fun hg=>(Ry.yl (aI (aG hg rfl) rfl))) ?_
   refine ja rfl rfl rfl (fun hg=>(Ry.yl (bP (j:=1) (aG hg rfl) i.toNat hz rfl (by decide)))) ?_
   refine Gh ?_
   refine ja rfl rfl rfl (fun hg=>(Ry.yl (jU (aG hg rfl)))) ?_
   refine ja rfl rfl rfl (fun hg=>(Ry.yl (aI (o':=0) (aG hg rfl) rfl))) ?_
   refine ja rfl rfl rfl (fun hg=>(Ry.yl (aI (o':=0) (aG hg rfl) rfl))) ?_
   refine ja rfl rfl rfl (fun hg=>(Ry.yl (aI (o':=0) (aG hg rfl) rfl))) ?_
   refine ja rfl rfl rfl (fun hg=>(Ry.yl (Ry.to (v':= .int .i64 oh.1.pages) (bJ (aG hg rfl)) rfl))) ?_
   refine Gh ?_
   refine Gq ?_
   refine Gc ?_
   refine au rfl (fun h2=> ?_) (fun h2=> ?_)
   ·
    replace h2:=bz h2
    have hE:=bB
    rw[if_pos (by rw[←oo];exact h2),←vO]at hE
    refine Gc ?_
    iterate 2 refine Gs ?_
    refine Gc ?_
    refine aq (.inl rfl) (aJ rfl (al rfl)) (fun w1 hw=> ?_)
    exact⟨(oh.1,oh.2.1,oh.2.2.1,oh.2.2.2),by rw[hE],by rw[hE],ah.mem hw⟩
   ·
    replace h2:=bz h2
    have hE:=bB
    rw[if_neg (by rw[←oo];rintro(g|g)
                  ·exact absurd (h2.1.symm.trans g) (by simp)
                  ·exact h2.2 g),←vO]at hE
    refine Gc ?_
    iterate 3 refine Gs ?_
    refine bo rfl ⟨X8.ae,by omega,by rw[NB.len,t2.len];omega⟩ fun X9 Ya=> ?_
    iterate 2 refine Gs ?_
    refine Gc ?_
    refine aq (.inl rfl) (aJ rfl (al rfl)) (fun w1 hw=> ?_)
    exact⟨(X9,oh.2.1,oh.2.2.1,oh.2.2.2),by rw[hE],by rw[hE,Ya];rfl,ah.mem hw⟩
instance ai0{w0:World}{L R1 R2 L2:List ai}{i0 i1 i2:Nat}{k:Nat}{xc:Cp}{xa:Sl Int}{xg:UInt64}{xl:Int}{xy:Bool}{l:Sv}{ls:List ay}{i:Int}[q0:Has L k (aM (⟨⟨xc,xa,xg,xl⟩,xy⟩:aR)) 141 i0][d0:dw L i0 R1][q1:At R1 (fz xc) i1][d1:dw R1 i1 R2][q2:At R2 (fz xa) i2][d2:dw R2 i2 L2][hl:Hd w0 L2 l bw 4 ls]:cn Tryz.prog 168 w0 L [.pointer (some ⟨k,0,none⟩),l.val, .int .i64 i] (Cp×Sl Int×UInt64×Int) (fun zz=> .int .i64 ((ff (⟨⟨cv xc,xa.xs,xg.toNat,xl⟩,xy⟩:WV) ls i).2)) (fun zz=>ar k (aM (⟨⟨zz.1,zz.2.1,zz.2.2.1,zz.2.2.2⟩,xy⟩:aR)) 141::fz zz.1::fz zz.2.1::L2) (fun zz=>(⟨⟨cv zz.1,zz.2.1.xs,zz.2.2.1.toNat,zz.2.2.2⟩,xy⟩:WV)=(ff (⟨⟨cv xc,xa.xs,xg.toNat,xl⟩,xy⟩:WV) ls i).1) (cV (⟨⟨cv xc,xa.xs,xg.toNat,xl⟩,xy⟩:WV)∧kt (cv xc) ls∧0≤i∧i<ls.length):=⟨fun hp w hw=>X7 w0 w L2 k xc xa xg xl xy l ls i (xO q0.h d0.h q1.h d1.h q2.h d2.h hw) hp⟩
theorem Yb(w:World)(cb k:Nat)(xc:Cp)(xa:Sl Int)(xg:UInt64)(xl:Int)(xy:Bool)(oT:w.cell? ⟨cb,0,none⟩=Option.some (.pointer (some ⟨k,0,none⟩)))(rW:w.heap[k]? =Option.some (.cells (aM (⟨⟨xc,xa,xg,xl⟩,xy⟩:aR)) 141 (0,0)))(x:ay):Calls Tryz.prog 170 #[.agg (bw x), .pointer (some ⟨cb,0,none⟩)] w fun e w'=>e= .returned (.bool (mc xc.pages x))∧Mem w [] w':=by
 have gkb:pW w k (aM (⟨⟨xc,xa,xg,xl⟩,xy⟩:aR)) 141:=⟨rW⟩
 have oO:cP=1099511627776:=rfl
 refine ba (args:=[_,_]) Tryz.func170 rfl Tryz.ntmps170 rfl ?_
 change Cw _ _ _ _ _ [(0, .agg (bw x)),(1, .pointer (some ⟨cb,0,none⟩))] []
 refine Gc ?_
 refine bY rfl fun b2=> ?_
 refine Gs ?_
 refine Gc ?_
 refine hG (by kernel_rfl) (by kernel_rfl) ?_
 iterate 2 refine Gq ?_
 refine bf (MW rfl oT) ?_
 iterate 4 refine Gq ?_
 refine bf (Ry.to (v':= .int .i64 xc.pages) (mT rfl) rfl) ?_
 iterate 2 refine Gq ?_
 iterate 3 refine Gh ?_
 iterate 2 refine Gq ?_
 refine Gc ?_
 refine aq (.inl rfl) (aJ rfl (al rfl)) (fun w1 hw=> ?_)
 exact⟨congrArg (fun b=>Ending.returned (Value.bool b)) (rfl),ah.mem hw⟩
instance {w0:World}{L:List ai}{cb k i j:Nat}{xc:Cp}{xa:Sl Int}{xg:UInt64}{xl:Int}{xy:Bool}{T:TypeId}[q:Has L cb #[.pointer (some ⟨k,0,none⟩)] T i][q2:Has L k (aM (⟨⟨xc,xa,xg,xl⟩,xy⟩:aR)) 141 j]:qO Tryz.prog w0 L 170 #[.pointer (some ⟨cb,0,none⟩)] bw (mc xc.pages):=⟨inferInstance,fun w hw x=>Yb w cb k xc xa xg xl xy (by rw[hw.cell q.h];rfl) (hw.block q2.h) x⟩
theorem Yc(w0 w:World)(L:List ai)(k:Nat)(xc:Cp)(xa:Sl Int)(xg:UInt64)(xl:Int)(xy:Bool)(hw:Mem w0 (ar k (aM (⟨⟨xc,xa,xg,xl⟩,xy⟩:aR)) 141::fz xc::fz xa::L) w)(bc:cV (⟨⟨cv xc,xa.xs,xg.toNat,xl⟩,xy⟩:WV)):Calls Tryz.prog 152 #[.pointer (some ⟨k,0,none⟩)] w fun e w'=> ∃zz:Cp×Sl Int×UInt64×Int,e= .returned (.int .i64 ((eF (⟨⟨cv xc,xa.xs,xg.toNat,xl⟩,xy⟩:WV)).2))∧((⟨⟨cv zz.1,zz.2.1.xs,zz.2.2.1.toNat,zz.2.2.2⟩,xy⟩:WV)=(eF (⟨⟨cv xc,xa.xs,xg.toNat,xl⟩,xy⟩:WV)).1)∧Mem w0 (ar k (aM (⟨⟨zz.1,zz.2.1,zz.2.2.1,zz.2.2.2⟩,xy⟩:aR)) 141::fz zz.1::fz zz.2.1::L) w':=by
 have gA:=bc
 have hk:aV (cv xc)=true:=gA.ae
 have yb:4≤(cv xc).blocks.length:=gA.qE
 have hd:=eE hk
 have Ak:xg.toNat<281474976710656:=gA.gen
 have oY:qv (cv xc) (aw [xa]):=by rw[Ah];exact(show hU (cv xc) xa.xs from gA.sK).kn hk (by omega) (by have:xa.xs.length≤64:=gA.j6;omega)
 have qQ:kt (cv xc) (av (cv xc) (aw [xa])):=vD _ _
 have jj:=qQ.1
 have eA:(aw [xa]).length≤64:=by rw[Ah];exact gA.j6
 have jc: ∀x∈(av (cv xc) (aw [xa])),0≤x.live∧x.live≤1000000∧0≤x.used∧x.used≤1000000:=fun x hx=>by
  have t:=rE hk hx
  have:=t.LF;have:=t.Ud;have:=t.zM;have:=t.xu
  exact⟨by omega,by omega,by omega,by omega⟩
 have Hu:(eF (⟨⟨cv xc,xa.xs,xg.toNat,xl⟩,xy⟩:WV))=(if(gI (av (cv xc) (aw [xa])) xc.pages).2=true∧vB xg.toNat=false then(if(ff (⟨⟨cv xc,xa.xs,xg.toNat,xl⟩,xy⟩:WV) (av (cv xc) (aw [xa])) (gI (av (cv xc) (aw [xa])) xc.pages).1).2≠6 then(ff (⟨⟨cv xc,xa.xs,xg.toNat,xl⟩,xy⟩:WV) (av (cv xc) (aw [xa])) (gI (av (cv xc) (aw [xa])) xc.pages).1)else j7 (ff (⟨⟨cv xc,xa.xs,xg.toNat,xl⟩,xy⟩:WV) (av (cv xc) (aw [xa])) (gI (av (cv xc) (aw [xa])) xc.pages).1).1 (av (cv xc) (aw [xa])))else j7 (⟨⟨cv xc,xa.xs,xg.toNat,xl⟩,xy⟩:WV) (av (cv xc) (aw [xa]))):=by
  have e:(av (cv xc) (aw [xa]))=c6 (⟨⟨cv xc,xa.xs,xg.toNat,xl⟩,xy⟩:WV):=by rw[Ah];rfl
  rw[e];rfl
 refine kB (args:=[_]) Tryz.func152 rfl Tryz.ntmps152 rfl hw ?_
 change Cw _ _ _ _ _ [(0, .pointer (some ⟨k,0,none⟩))] (ar k (aM (⟨⟨xc,xa,xg,xl⟩,xy⟩:aR)) 141::fz xc::fz xa::L)
 refine Gc ?_
 refine Vo (by first|rfl|exact Sv.jm _) rfl fun b1=> ?_
 refine Gs ?_
 refine Gc ?_
 refine jE [6,7] [[],[],[],[],[],[],[],[6],[6,7]] [0,1,2,3,4,5,6,7,8] [ar b1 #[.pointer (some ⟨k,0,none⟩)] 139,ar k (aM (⟨⟨xc,xa,xg,xl⟩,xy⟩:aR)) 141,fz xa] (fun _ hw=>ah.mem hw) (by kernel_rfl) (by kernel_rfl) ?_
 refine an rfl (bJ rfl) ?_
 refine an rfl (bJ rfl) ?_
 refine an rfl (jU rfl) ?_
 refine an rfl (aI (o':=0) rfl rfl) ?_
 refine an rfl (aI (o':=6) rfl rfl) ?_
 refine an rfl (Ry.to (v':=xa.sv.val) (bJ rfl) rfl) ?_
 refine dN rfl (Kf (enc:=ca) (vals:=[xa.sv.val]) [xa] rfl (by simp only[List.map_cons,List.map_nil,Sv.jm];rfl) rfl (by decide) (by decide) fun vU=>⟨fun _ hw=>ah.mem hw,?_⟩)
 refine dN rfl (nZ (hc:=Hi (l:=(⟨⟨false,vU,0,1,1,none⟩,[xa]⟩:Sl (Sl Int)))) rfl oY fun fO Aq=>⟨fun _ hw=>ah.mem hw,?_⟩)
 refine an rfl (bp rfl) ?_
 iterate 2 refine Gi ?_
 refine Bt (X:=Cp×Sl Int×UInt64×Int) (fun zz=>[(1, .pointer (some ⟨b1,0,none⟩)),(3,fO.val)]) (fun zz=>ar b1 #[.pointer (some ⟨k,0,none⟩)] 139::ar k (aM (⟨⟨zz.1,zz.2.1,zz.2.2.1,zz.2.2.2⟩,xy⟩:aR)) 141::fz zz.1::fz zz.2.1::own bw 4 fO (av (cv xc) (aw [xa]))::L) (fun zz=>(eF (⟨⟨cv xc,xa.xs,xg.toNat,xl⟩,xy⟩:WV))=j7 (⟨⟨cv zz.1,zz.2.1.xs,zz.2.2.1.toNat,zz.2.2.2⟩,xy⟩:WV) (av (cv xc) (aw [xa]))∧cV (⟨⟨cv zz.1,zz.2.1.xs,zz.2.2.1.toNat,zz.2.2.2⟩,xy⟩:WV)∧kt (cv zz.1) (av (cv xc) (aw [xa]))) ?_ ?_
 ·
  refine Gc ?_
  iterate 2 refine Gs ?_
  refine fH (cE rfl ⟨show(av (cv xc) (aw [xa])).length≤1000000 by omega,jc⟩) ?_
  refine Gs ?_
  refine ag (aU (v:= .int .i64 ((gI (av (cv xc) (aw [xa])) xc.pages).1)) rfl rfl) ?_
  refine ag (aU (v:= .bool ((gI (av (cv xc) (aw [xa])) xc.pages).2)) rfl rfl) ?_
  iterate 2 refine Gs ?_
  refine Gc ?_
  iterate 2 refine Gs ?_
  refine g9 rfl rfl rfl (fun hg=>(Ry.yl (bJ rfl))) ?_
  refine g9 rfl rfl rfl (fun hg=>cE (dy (aG hg rfl) gB) Ak) ?_
  refine g9 rfl rfl rfl (fun hg=>(Ry.yl (iq (aG hg rfl)))) ?_
  refine Gs ?_
  refine Gc ?_
  refine au rfl (fun h0=> ?_) (fun h0=> ?_)
  ·
   replace h0:=bz h0
   have hv:=F6 h0.1
   refine Gc ?_
   iterate 3 refine Gs ?_
   refine bo rfl ⟨gA,qQ,hv.1,hv.2⟩ fun kf uq=> ?_
   refine Gs ?_
   refine Gc ?_
   iterate 2 refine Gs ?_
   refine Gc ?_
   refine au rfl (fun h1=> ?_) (fun h1=> ?_)
   ·
    replace h1:=bz h1
    have hE:(eF (⟨⟨cv xc,xa.xs,xg.toNat,xl⟩,xy⟩:WV))=(ff (⟨⟨cv xc,xa.xs,xg.toNat,xl⟩,xy⟩:WV) (av (cv xc) (aw [xa])) (gI (av (cv xc) (aw [xa])) xc.pages).1):=by rw[Hu,if_pos h0,if_pos h1]
    refine Gc ?_
    iterate 2 refine Gs ?_
    refine Gc ?_
    refine aq (.inl rfl) (aJ rfl (al rfl)) (fun w1 hw=> ?_)
    exact⟨(kf.1,kf.2.1,kf.2.2.1,kf.2.2.2),by rw[hE],by rw[hE];exact uq,ah.mem hw⟩
   ·
    replace h1:=bz h1
    have eH:(ff (⟨⟨cv xc,xa.xs,xg.toNat,xl⟩,xy⟩:WV) (av (cv xc) (aw [xa])) (gI (av (cv xc) (aw [xa])) xc.pages).1).2=6:=h1
    obtain⟨r1,r2,r3⟩:=Ge (i:=(gI (av (cv xc) (aw [xa])) xc.pages).1) gA qQ
    refine Gi ?_
    exact tr (kf.1,kf.2.1,kf.2.2.1,kf.2.2.2) ⟨by rw[Hu,if_pos h0,if_neg (fun h=>h eH),←uq],by rw[uq];exact r1.ok,qQ.bT (by have:=r1.bT;rw[←uq]at this;exact this) (by have:=r3 eH;rw[←uq]at this;exact this)⟩ (Sub.cons rfl (Sub.cons rfl (Sub.nil _))) (fun w hw=>ah.mem hw)
  ·
   replace h0:=bz h0
   have uo: ¬((gI (av (cv xc) (aw [xa])) xc.pages).2=true∧vB xg.toNat=false):=fun g=>h0.elim (fun h=>absurd (h.symm.trans g.1) (by simp)) (fun h=>absurd (h.symm.trans g.2) (by simp))
   refine Gi ?_
   exact tr (xc,xa,xg,xl) ⟨by rw[Hu,if_neg uo],gA,qQ⟩ (Sub.cons rfl (Sub.cons rfl (Sub.nil _))) (fun w hw=>ah.mem hw)
 ·
  rintro⟨c,a,g,m⟩ ⟨sZ,uv,yd⟩
  dsimp only
  simp only at sZ uv yd
  have Yd:4≤(cv c).blocks.length:=uv.qE
  have hdc:=eE (show aV (cv c)=true from uv.ae)
  refine Gc ?_
  refine Gs ?_
  refine ag (GP rfl) ?_
  refine bo rfl (by omega) fun x39 ai1=> ?_
  refine Gs ?_
  refine Gc ?_
  iterate 6 refine Gs ?_
  refine ag (Ry.to (v':= .int .i64 c.pages) (bJ rfl) rfl) ?_
  iterate 2 refine Gs ?_
  refine ag (aU (v:= .int .i64 ((eQ (bS (mc c.pages) (av (cv xc) (aw [xa]))) c.pages).1)) rfl rfl) ?_
  refine ag (aU (v:= .bool ((eQ (bS (mc c.pages) (av (cv xc) (aw [xa]))) c.pages).2)) rfl rfl) ?_
  iterate 2 refine Gs ?_
  refine Gc ?_
  iterate 2 refine Gs ?_
  refine Gc ?_
  refine au rfl (fun h2=> ?_) (fun h2=> ?_)
  ·
   replace h2:=bz h2
   have hE:j7 (⟨⟨cv c,a.xs,g.toNat,m⟩,xy⟩:WV) (av (cv xc) (aw [xa]))=((⟨⟨cv c,a.xs,g.toNat,m⟩,xy⟩:WV),6):=by
    rw[j7]
    exact if_pos (show(eQ (bS (mc c.pages) (av (cv xc) (aw [xa]))) c.pages).2=false from h2)
   refine Gc ?_
   refine Gs ?_
   refine Gc ?_
   refine aq (.inl rfl) (aJ rfl (al rfl)) (fun w1 hw=> ?_)
   exact⟨(c,a,g,m),by rw[sZ,hE],by rw[sZ,hE],ah.mem hw⟩
  ·
   replace h2:=bz h2
   have nF:=tW yd (fun x h=>(kM h).1) (show(eQ (bS (mc c.pages) (av (cv xc) (aw [xa]))) c.pages).2=true from h2)
   change 0≤(eQ (bS (mc c.pages) (av (cv xc) (aw [xa]))) c.pages).1∧(eQ (bS (mc c.pages) (av (cv xc) (aw [xa]))) c.pages).1<_∧_ at nF
   have hE:j7 (⟨⟨cv c,a.xs,g.toNat,m⟩,xy⟩:WV) (av (cv xc) (aw [xa]))=((⟨⟨cv c,a.xs,g.toNat,m⟩,xy⟩:WV).on (cA (cv c) ((eQ (bS (mc c.pages) (av (cv xc) (aw [xa]))) c.pages).1+2)).1,jr (cA (cv c) ((eQ (bS (mc c.pages) (av (cv xc) (aw [xa]))) c.pages).1+2)).2):=by
    rw[j7]
    exact if_neg (fun g=>absurd ((show(eQ (bS (mc c.pages) (av (cv xc) (aw [xa]))) c.pages).2=true from h2).symm.trans g) (by simp))
   refine Gc ?_
   iterate 3 refine Gs ?_
   refine bo rfl ⟨uv.ae,by omega,by omega⟩ fun Dm Hv=> ?_
   iterate 2 refine Gs ?_
   refine Gc ?_
   refine aq (.inl rfl) (aJ rfl (al rfl)) (fun w1 hw=> ?_)
   exact⟨(Dm,a,g,m),by rw[sZ,hE],by rw[sZ,hE,Hv];rfl,ah.mem hw⟩
instance ai2{w0:World}{L R1 R2 L2:List ai}{i0 i1 i2:Nat}{k:Nat}{xc:Cp}{xa:Sl Int}{xg:UInt64}{xl:Int}{xy:Bool}[q0:Has L k (aM (⟨⟨xc,xa,xg,xl⟩,xy⟩:aR)) 141 i0][d0:dw L i0 R1][q1:At R1 (fz xc) i1][d1:dw R1 i1 R2][q2:At R2 (fz xa) i2][d2:dw R2 i2 L2]:cn Tryz.prog 152 w0 L [.pointer (some ⟨k,0,none⟩)] (Cp×Sl Int×UInt64×Int) (fun zz=> .int .i64 ((eF (⟨⟨cv xc,xa.xs,xg.toNat,xl⟩,xy⟩:WV)).2)) (fun zz=>ar k (aM (⟨⟨zz.1,zz.2.1,zz.2.2.1,zz.2.2.2⟩,xy⟩:aR)) 141::fz zz.1::fz zz.2.1::L2) (fun zz=>(⟨⟨cv zz.1,zz.2.1.xs,zz.2.2.1.toNat,zz.2.2.2⟩,xy⟩:WV)=(eF (⟨⟨cv xc,xa.xs,xg.toNat,xl⟩,xy⟩:WV)).1) (cV (⟨⟨cv xc,xa.xs,xg.toNat,xl⟩,xy⟩:WV)):=⟨fun hp w hw=>Yc w0 w L2 k xc xa xg xl xy (xO q0.h d0.h q1.h d1.h q2.h d2.h hw) hp⟩
open Go.aA Go.Kb
open Go.RowKit
theorem Ye(w0 w:World)(L:List ai)(k:Nat)(xc:Cp)(xa:Sl Int)(xg:UInt64)(xl:Int)(xy:Bool)(n:Int)(hw:Mem w0 (ar k (aM (⟨⟨xc,xa,xg,xl⟩,xy⟩:aR)) 141::fz xc::fz xa::L) w)(bc:cV (⟨⟨cv xc,xa.xs,xg.toNat,xl⟩,xy⟩:WV)):Calls Tryz.prog 126 #[.pointer (some ⟨k,0,none⟩), .int .i64 n] w fun e w'=> ∃zz:Cp×Sl Int×UInt64×Int×Bool,e= .returned (.int .i64 ((j8 (⟨⟨cv xc,xa.xs,xg.toNat,xl⟩,xy⟩:WV) n).2))∧((⟨⟨cv zz.1,zz.2.1.xs,zz.2.2.1.toNat,zz.2.2.2.1⟩,zz.2.2.2.2⟩:WV)=(j8 (⟨⟨cv xc,xa.xs,xg.toNat,xl⟩,xy⟩:WV) n).1)∧Mem w0 (ar k (aM (⟨⟨zz.1,zz.2.1,zz.2.2.1,zz.2.2.2.1⟩,zz.2.2.2.2⟩:aR)) 141::fz zz.1::fz zz.2.1::L) w':=by
 refine kB (args:=[_,_]) Tryz.func126 rfl Tryz.ntmps126 rfl hw ?_
 change Cw _ _ _ _ _ [(0, .pointer (some ⟨k,0,none⟩)),(1, .int .i64 n)] (ar k (aM (⟨⟨xc,xa,xg,xl⟩,xy⟩:aR)) 141::fz xc::fz xa::L)
 refine Gc ?_
 refine Gs ?_
 refine Gc ?_
 refine cc (X:=Nat×Cp×Sl Int×UInt64×Int) (fun zz=>[(0, .pointer (some ⟨k,0,none⟩)),(1, .int .i64 n)]) (fun zz=>ar k (aM (⟨⟨zz.2.1,zz.2.2.1,zz.2.2.2.1,zz.2.2.2.2⟩,xy⟩:aR)) 141::fz zz.2.1::fz zz.2.2.1::L) (fun zz=>(j8 (⟨⟨cv xc,xa.xs,xg.toNat,xl⟩,xy⟩:WV) n)=me zz.1 (⟨⟨cv zz.2.1,zz.2.2.1.xs,zz.2.2.2.1.toNat,zz.2.2.2.2⟩,xy⟩:WV) n∧cV (⟨⟨cv zz.2.1,zz.2.2.1.xs,zz.2.2.2.1.toNat,zz.2.2.2.2⟩,xy⟩:WV)∧(cP -(cv zz.2.1).ops).toNat<zz.1) (fun zz=>zz.1) ((cP -(cv xc).ops).toNat+1,xc,xa,xg,xl) ⟨rfl,bc,by simp only;omega⟩ (Sub.cons rfl (Sub.cons rfl (Sub.nil _))) (fun w hw=>ah.mem hw) ?_
 rintro⟨m,c,a,g,q⟩ ⟨bj,aH,bG⟩
 dsimp only
 simp only at bj aH bG
 obtain⟨r,rfl⟩: ∃r,m=r+1:=⟨m -1,by omega⟩
 have hk:aV (cv c)=true:=aH.ae
 have yb:4≤(cv c).blocks.length:=aH.qE
 have oY:qv (cv c) a.xs:=(show hU (cv c) a.xs from aH.sK).kn hk (by omega) (by have:a.xs.length≤64:=aH.j6;omega)
 have Dg:q=0∨q=1:=aH.last
 have bB:(j8 (⟨⟨cv xc,xa.xs,xg.toNat,xl⟩,xy⟩:WV) n)=(if n≤(jM (cv c) a.xs).1 then((⟨⟨cv c,a.xs,g.toNat,q⟩,xy⟩:WV),0)else if n≤(jM (cv c) a.xs).2∧rD (cv c) q<2 then({(⟨⟨cv c,a.xs,g.toNat,q⟩,xy⟩:WV)with beyond:=true},0)else if(eF (⟨⟨cv c,a.xs,g.toNat,q⟩,xy⟩:WV)).2=0 then me r (eF (⟨⟨cv c,a.xs,g.toNat,q⟩,xy⟩:WV)).1 n else if(eF (⟨⟨cv c,a.xs,g.toNat,q⟩,xy⟩:WV)).2≠6 then(eF (⟨⟨cv c,a.xs,g.toNat,q⟩,xy⟩:WV))else if n≤(jM (cv c) a.xs).2 then({(eF (⟨⟨cv c,a.xs,g.toNat,q⟩,xy⟩:WV)).1 with beyond:=true},0)else((eF (⟨⟨cv c,a.xs,g.toNat,q⟩,xy⟩:WV)).1,5)):=by rw[bj,me]
 refine Gc ?_
 refine Gs ?_
 refine fH (cE rfl oY) ?_
 refine Gs ?_
 refine ag (aU (v:= .int .i64 ((jM (cv c) a.xs).1)) rfl rfl) ?_
 refine ag (aU (v:= .int .i64 ((jM (cv c) a.xs).2)) rfl rfl) ?_
 iterate 2 refine Gs ?_
 refine Gc ?_
 iterate 3 refine Gs ?_
 refine Gc ?_
 refine au rfl (fun h0=> ?_) (fun h0=> ?_)
 ·
  replace h0:=bz h0
  have hE:(j8 (⟨⟨cv xc,xa.xs,xg.toNat,xl⟩,xy⟩:WV) n)=((⟨⟨cv c,a.xs,g.toNat,q⟩,xy⟩:WV),0):=by rw[bB,if_pos h0]
  refine Gc ?_
  refine Gs ?_
  refine Gc ?_
  refine aq (.inl rfl) (aJ rfl (al rfl)) (fun w1 hw=> ?_)
  exact⟨(c,a,g,q,xy),by rw[hE],by rw[hE],ah.mem hw⟩
 ·
  replace h0:=bz h0
  refine Gc ?_
  iterate 4 refine Gs ?_
  refine Gg ?_
  refine g9 rfl rfl rfl (fun hg=>cE (dy (aG hg rfl) gB) ⟨hk,by omega,Dg⟩) ?_
  refine Gg ?_
  refine Gs ?_
  refine Gc ?_
  refine au rfl (fun h1=> ?_) (fun h1=> ?_)
  ·
   replace h1:=bz h1
   have hE:(j8 (⟨⟨cv xc,xa.xs,xg.toNat,xl⟩,xy⟩:WV) n)=({(⟨⟨cv c,a.xs,g.toNat,q⟩,xy⟩:WV)with beyond:=true},0):=by rw[bB,if_neg h0,if_pos h1]
   refine Gc ?_
   iterate 3 refine Gs ?_
   refine eV (cs':=aM (⟨⟨c,a,g,q⟩,true⟩:aR)) rfl rfl (by show 9<10;decide) (by first|rfl|exact Sv.one _) rfl ?_
   refine Gc ?_
   refine Gs ?_
   refine Gc ?_
   refine aq (.inl rfl) (aJ rfl (al rfl)) (fun w1 hw=> ?_)
   exact⟨(c,a,g,q,true),by rw[hE],by rw[hE],ah.mem hw⟩
  ·
   replace h1:=bz h1
   have eH: ¬(n≤(jM (cv c) a.xs).2∧rD (cv c) q<2):=fun g=>h1.elim (fun h=>h g.1) (fun h=>h g.2)
   refine Gc ?_
   refine Gs ?_
   refine bo rfl aH fun dB mU=> ?_
   obtain⟨k1,k2⟩:=CJ aH
   refine Gs ?_
   refine Gc ?_
   iterate 3 refine Gs ?_
   refine Gc ?_
   refine au rfl (fun h2=> ?_) (fun h2=> ?_)
   ·
    replace h2:=bz h2
    refine Gi ?_
    refine Rc rfl ?_
    iterate 2 refine Gi ?_
    have fg:(eF (⟨⟨cv c,a.xs,g.toNat,q⟩,xy⟩:WV)).2=0:=h2
    have ho:(cv c).ops<(eF (⟨⟨cv c,a.xs,g.toNat,q⟩,xy⟩:WV)).1.v.ae.ops:=k2 fg
    rw[←mU]at ho
    have hle:=qC (show aV (cv dB.1)=true by have:=k1.ok.ae;rw[←mU]at this;exact this)
    change(cv c).ops<(cv dB.1).ops at ho
    exact bA (x:=(r+1,c,a,g,q)) (r,dB.1,dB.2.1,dB.2.2.1,dB.2.2.2) ⟨by rw[bB,if_neg h0,if_neg eH,if_pos fg,←mU],by have:=k1.ok;rw[←mU]at this;exact this,by simp only;omega⟩ (by simp only;omega) (Sub.cons rfl (Sub.cons rfl (Sub.nil _))) (fun w hw=>ah.mem hw)
   ·
    replace h2:=bz h2
    have fg: ¬(eF (⟨⟨cv c,a.xs,g.toNat,q⟩,xy⟩:WV)).2=0:=h2
    refine Gc ?_
    iterate 3 refine Gs ?_
    refine Gc ?_
    refine au rfl (fun h3=> ?_) (fun h3=> ?_)
    ·
     replace h3:=bz h3
     have hE:(j8 (⟨⟨cv xc,xa.xs,xg.toNat,xl⟩,xy⟩:WV) n)=(eF (⟨⟨cv c,a.xs,g.toNat,q⟩,xy⟩:WV)):=by rw[bB,if_neg h0,if_neg eH,if_neg fg,if_pos h3]
     refine Gc ?_
     iterate 2 refine Gs ?_
     refine Gc ?_
     refine aq (.inl rfl) (aJ rfl (al rfl)) (fun w1 hw=> ?_)
     exact⟨(dB.1,dB.2.1,dB.2.2.1,dB.2.2.2,xy),by rw[hE],by rw[hE];exact mU,ah.mem hw⟩
    ·
     replace h3:=bz h3
     have ou: ¬(eF (⟨⟨cv c,a.xs,g.toNat,q⟩,xy⟩:WV)).2≠6:=fun h=>h h3
     refine Gc ?_
     iterate 4 refine Gs ?_
     refine Gc ?_
     refine au rfl (fun h4=> ?_) (fun h4=> ?_)
     ·
      replace h4:=bz h4
      have hE:(j8 (⟨⟨cv xc,xa.xs,xg.toNat,xl⟩,xy⟩:WV) n)=({(eF (⟨⟨cv c,a.xs,g.toNat,q⟩,xy⟩:WV)).1 with beyond:=true},0):=by rw[bB,if_neg h0,if_neg eH,if_neg fg,if_neg ou,if_pos h4]
      refine Gc ?_
      iterate 3 refine Gs ?_
      refine eV (cs':=aM (⟨⟨dB.1,dB.2.1,dB.2.2.1,dB.2.2.2⟩,true⟩:aR)) rfl rfl (by show 9<10;decide) (by first|rfl|exact Sv.one _) rfl ?_
      refine Gc ?_
      refine Gs ?_
      refine Gc ?_
      refine aq (.inl rfl) (aJ rfl (al rfl)) (fun w1 hw=> ?_)
      exact⟨(dB.1,dB.2.1,dB.2.2.1,dB.2.2.2,true),by rw[hE],by rw[hE,←mU],ah.mem hw⟩
     ·
      replace h4:=bz h4
      have hE:(j8 (⟨⟨cv xc,xa.xs,xg.toNat,xl⟩,xy⟩:WV) n)=((eF (⟨⟨cv c,a.xs,g.toNat,q⟩,xy⟩:WV)).1,5):=by rw[bB,if_neg h0,if_neg eH,if_neg fg,if_neg ou,if_neg h4]
      refine Gc ?_
      refine Gs ?_
      refine Gc ?_
      refine aq (.inl rfl) (aJ rfl (al rfl)) (fun w1 hw=> ?_)
      exact⟨(dB.1,dB.2.1,dB.2.2.1,dB.2.2.2,xy),by rw[hE],by rw[hE];exact mU,ah.mem hw⟩
instance ai3{w0:World}{L R1 R2 L2:List ai}{i0 i1 i2:Nat}{k:Nat}{xc:Cp}{xa:Sl Int}{xg:UInt64}{xl:Int}{xy:Bool}{n:Int}[q0:Has L k (aM (⟨⟨xc,xa,xg,xl⟩,xy⟩:aR)) 141 i0][d0:dw L i0 R1][q1:At R1 (fz xc) i1][d1:dw R1 i1 R2][q2:At R2 (fz xa) i2][d2:dw R2 i2 L2]:cn Tryz.prog 126 w0 L [.pointer (some ⟨k,0,none⟩), .int .i64 n] (Cp×Sl Int×UInt64×Int×Bool) (fun zz=> .int .i64 ((j8 (⟨⟨cv xc,xa.xs,xg.toNat,xl⟩,xy⟩:WV) n).2)) (fun zz=>ar k (aM (⟨⟨zz.1,zz.2.1,zz.2.2.1,zz.2.2.2.1⟩,zz.2.2.2.2⟩:aR)) 141::fz zz.1::fz zz.2.1::L2) (fun zz=>(⟨⟨cv zz.1,zz.2.1.xs,zz.2.2.1.toNat,zz.2.2.2.1⟩,zz.2.2.2.2⟩:WV)=(j8 (⟨⟨cv xc,xa.xs,xg.toNat,xl⟩,xy⟩:WV) n).1) (cV (⟨⟨cv xc,xa.xs,xg.toNat,xl⟩,xy⟩:WV)):=⟨fun hp w hw=>Ye w0 w L2 k xc xa xg xl xy n (xO q0.h d0.h q1.h d1.h q2.h d2.h hw) hp⟩
open Go.aA Go.Kb
open Go.RowKit
theorem Yf(i:Int)(g:UInt64)(b:Sl UInt8)(w:World):(Instr.build 110 #[(0, .int .i64 1),(1, .int .i64 i),(2, .int .u64 (g.toNat:Int)),(3,b.sv.val)]).run Tryz.prog w= .ok (.agg (cN ⟨1,i,g,b⟩)) w:=by
 obtain⟨⟨e,b,o,l,c,p⟩,xs⟩:=b
 unfold cN
 cases e<;>kernel_rfl
instance (x:It):gm (nV x) 2:=⟨rfl,bD.one x⟩
def Dn(k:Nat)(a:Sl Int)(g:UInt64)(T:TypeId):ai:=⟨fun b=>b=k,fun h=> ∃(c:Cp) (l:Int) (y:Bool),h k=Option.some (.cells (aM ⟨⟨c,a,g,l⟩,y⟩) T (0,0)),fun h h' e s=>by obtain⟨c,l,y,hs⟩:=s;exact⟨c,l,y,by rw[e k rfl];exact hs⟩⟩
theorem Hw{w0 w:World}{L:List ai}{k:Nat}{a:Sl Int}{g:UInt64}{T:TypeId}{c:Cp}{l:Int}{y:Bool}(h:Mem w0 (ar k (aM ⟨⟨c,a,g,l⟩,y⟩) T::L) w):Mem w0 (Dn k a g T::L) w:=by
 have hs:w.heap[k]? =Option.some (.cells (aM ⟨⟨c,a,g,l⟩,y⟩) T (0,0)):=h.block (i:=0) rfl
 refine⟨h.below,fun e he=> ?_,fun e he b hb=> ?_,List.pairwise_cons.2 ⟨fun x hx b hb=>(List.pairwise_cons.1 h.nQ).1 x hx b hb,(List.pairwise_cons.1 h.nQ).2⟩⟩
 ·
  rcases List.mem_cons.1 he with rfl|he
  ·
   exact⟨c,l,y,hs⟩
  ·
   exact h.sat e (List.mem_cons_of_mem _ he)
 ·
  rcases List.mem_cons.1 he with rfl|he
  ·
   exact h.jz _ List.mem_cons_self b hb
  ·
   exact h.jz e (List.mem_cons_of_mem _ he) b hb
section
variable {P:Program} {N:cG} {w0:World} {env:Env} {L:List ai} {d:Option Tmp} {ty:TypeId} {ps:String} {af:Array Edge} {gd:Option (Nat×Bool)}
theorem Yg{t:TypeId}{x:Operand}{k i:Nat}{a:Sl Int}{g:UInt64}{T:TypeId}(hx:ev env x=some (.pointer (some ⟨k,6,none⟩)))[ht:ir P t](q:At L (Dn k a g T) i):Ry P N w0 env L ⟨d, .load t x,ty,ps,af,gd⟩ a.sv.val:=wu ht hx fun w hw=>by
 obtain⟨c,l,y,hs⟩:=hw.get q.h
 simp[World.cell?,show w.heap[k]? =_ from hs,aM]
theorem Yh{t:TypeId}{x:Operand}{k i:Nat}{a:Sl Int}{g:UInt64}{T:TypeId}(hx:ev env x=some (.pointer (some ⟨k,7,none⟩)))[ht:ir P t](q:At L (Dn k a g T) i):Ry P N w0 env L ⟨d, .load t x,ty,ps,af,gd⟩ (.int .u64 g.toNat):=wu ht hx fun w hw=>by
 obtain⟨c,l,y,hs⟩:=hw.get q.h
 simp[World.cell?,show w.heap[k]? =_ from hs,aM]
end
instance:fk Tryz.prog 102 (.agg (nV ⟨0,⟨Sv.none,[]⟩⟩)):=⟨by kernel_rfl⟩
theorem Yi(w0 w:World)(L:List ai)(k:Nat)(xc:Cp)(xa:Sl Int)(xg:UInt64)(xl:Int)(xy:Bool)(it:Sl It)[n0:aW w0 L it](hw:Mem w0 (ar k (aM (⟨⟨xc,xa,xg,xl⟩,xy⟩:aR)) 141::fz xc::fz xa::L) w)(bc:cV (⟨⟨cv xc,xa.xs,xg.toNat,xl⟩,xy⟩:WV)∧it.xs.length≤1000000∧ ∀x∈it.xs,0≤x.id∧x.id<xa.xs.length∧x.id<64):Calls Tryz.prog 88 #[.pointer (some ⟨k,0,none⟩),it.sv.val] w fun e w'=> ∃zz:Cp×Sl Int×UInt64×Int×Bool,e= .returned (.int .i64 ((gJ (⟨⟨cv xc,xa.xs,xg.toNat,xl⟩,xy⟩:WV) (it.xs.map bt)).2))∧((⟨⟨cv zz.1,zz.2.1.xs,zz.2.2.1.toNat,zz.2.2.2.1⟩,zz.2.2.2.2⟩:WV)=(gJ (⟨⟨cv xc,xa.xs,xg.toNat,xl⟩,xy⟩:WV) (it.xs.map bt)).1)∧Mem w0 (ar k (aM (⟨⟨zz.1,zz.2.1,zz.2.2.1,zz.2.2.2.1⟩,zz.2.2.2.2⟩:aR)) 141::fz zz.1::fz zz.2.1::L) w':=by
 obtain⟨gA,lZ,yf⟩:=bc
 have Yj:cV (⟨⟨cv xc,xa.xs,xg.toNat,xl⟩,false⟩:WV):=gA.by false
 have eX:(it.xs.map bt).length=it.xs.length:=List.length_map _
 refine kB (args:=[_,_]) Tryz.func88 rfl Tryz.ntmps88 rfl hw ?_
 change Cw _ _ _ _ _ [(0, .pointer (some ⟨k,0,none⟩)),(1,it.sv.val)] (ar k (aM (⟨⟨xc,xa,xg,xl⟩,xy⟩:aR)) 141::fz xc::fz xa::L)
 refine Gc ?_
 refine Gs ?_
 refine Gc ?_
 refine Gs ?_
 refine Gc ?_
 iterate 3 refine Gs ?_
 refine Gc ?_
 refine cc (X:=Nat) (fun zz=>[(16, .int .i64 (zz:Nat)),(5, .int .i64 ((((it.xs.map bt).take zz).filter fun x=>decide (0<x.2.length)).length:Nat)),(0, .pointer (some ⟨k,0,none⟩)),(1,it.sv.val),(14,it.sv.val),(15, .int .i64 (it.xs.length:Nat))]) (fun zz=>ar k (aM (⟨⟨xc,xa,xg,xl⟩,xy⟩:aR)) 141::fz xc::fz xa::L) (fun zz=>zz≤it.xs.length) (fun zz=>it.xs.length -zz) 0 (Nat.zero_le _) (Sub.cons rfl (Sub.cons rfl (Sub.cons rfl (Sub.cons rfl (Sub.cons rfl (Sub.cons rfl (Sub.nil _))))))) (fun w hw=>ah.mem hw) ?_
 rintro i bj
 refine Gc ?_
 refine Gs ?_
 refine Gc ?_
 refine au rfl (fun h0=> ?_) (fun h0=> ?_)
 ·
  replace h0:=bz h0
  obtain⟨z,hz⟩:=get_some (xs:=it.xs) (i:=i) (by omega)
  have ue:Mb z it:=⟨List.mem_of_getElem? hz⟩
  have ux:(it.xs.map bt)[i]? =Option.some (bt z):=by rw[List.getElem?_map,hz];rfl
  have eS:=Uo ux
  have um:(((it.xs.map bt).take i).filter fun x=>decide (0<x.2.length)).length≤i:=Nat.le_trans (List.length_filter_le _ _) (by rw[List.length_take];omega)
  refine Gc ?_
  refine ag (bk rfl rfl i rfl (by omega)) ?_
  refine ag (gR rfl i hz rfl) ?_
  have ai4:Mb z it:=⟨List.mem_of_getElem? hz⟩
  refine bH fun b7=> ?_
  refine Gs ?_
  refine Gc ?_
  iterate 4 refine Gs ?_
  refine Gc ?_
  refine au rfl (fun h1=> ?_) (fun h1=> ?_)
  ·
   replace h1:=bz h1
   rw[if_pos (show 0<(bt z).2.length from by simp only[bt];omega)]at eS
   refine Gi ?_
   iterate 3 refine Gs ?_
   refine Gc ?_
   iterate 2 refine Gs ?_
   refine Gi ?_
   exact bA (x:=(i)) (i+1) (by first|omega|(simp only[];omega)) (by first|omega|(simp only[];omega)) (Sub.cons rfl (Sub.cons (look_eq rfl (by rw[eS];rfl)) (Sub.cons rfl (Sub.cons rfl (Sub.cons rfl (Sub.cons rfl (Sub.nil _))))))) (fun w hw=>ah.mem hw)
  ·
   replace h1:=bz h1
   rw[if_neg (show ¬0<(bt z).2.length from by simp only[bt];omega)]at eS
   refine Gc ?_
   iterate 2 refine Gs ?_
   refine Gi ?_
   exact bA (x:=(i)) (i+1) (by first|omega|(simp only[];omega)) (by first|omega|(simp only[];omega)) (Sub.cons rfl (Sub.cons (look_eq rfl (by rw[eS,Nat.add_zero])) (Sub.cons rfl (Sub.cons rfl (Sub.cons rfl (Sub.cons rfl (Sub.nil _))))))) (fun w hw=>ah.mem hw)
 ·
  replace h0:=bz h0
  obtain rfl:i=it.xs.length:=by omega
  refine Gc ?_
  iterate 3 refine Gs ?_
  refine eV (cs':=aM (⟨⟨xc,xa,xg,xl⟩,false⟩:aR)) rfl rfl (by show 9<10;decide) (by first|rfl|exact Sv.one _) rfl ?_
  iterate 4 refine Gi ?_
  have Hx:(((it.xs.map bt).take it.xs.length).filter fun x=>decide (0<x.2.length)).length=((it.xs.map bt).filter fun x=>decide (0<x.2.length)).length:=by rw[←eX,List.take_length]
  refine Gi ?_
  iterate 2 refine Gs ?_
  refine bo rfl Yj fun az sX=> ?_
  have hb:=CK (l:=(it.xs.map bt)) gA
  have Ar:(⟨(⟨cv az.1,az.2.1.xs,az.2.2.1.toNat,az.2.2.2.1⟩:VV),az.2.2.2.2⟩:WV)=(cH (⟨⟨cv xc,xa.xs,xg.toNat,xl⟩,xy⟩:WV) (it.xs.map bt)).1:=by rw[sX,cH,lg,←eX,List.take_length]
  rw[←Ar]at hb
  have vW:=hb.ok
  have Yk:aV (cv az.1)=true:=vW.ae
  have yb:4≤(cv az.1).blocks.length:=vW.qE
  have dJ:az.2.1.xs.length≤64:=vW.j6
  have ai5:az.2.1.xs.length=xa.xs.length:=hb.vC
  have Ym:az.2.2.1.toNat<281474976710656:=vW.gen
  have rV:=Hp Ym
  refine Gs ?_
  refine Gc ?_
  iterate 2 refine Gs ?_
  refine Gc ?_
  refine au rfl (fun h2=> ?_) (fun h2=> ?_)
  ·
   replace h2:=bz h2
   have fg:(cH (⟨⟨cv xc,xa.xs,xg.toNat,xl⟩,xy⟩:WV) (it.xs.map bt)).2≠0:=by rw[cH,lg,←Hx];exact h2
   have hE:(gJ (⟨⟨cv xc,xa.xs,xg.toNat,xl⟩,xy⟩:WV) (it.xs.map bt))=(cH (⟨⟨cv xc,xa.xs,xg.toNat,xl⟩,xy⟩:WV) (it.xs.map bt)):=by rw[gJ,if_pos fg]
   refine Gc ?_
   iterate 2 refine Gs ?_
   refine Gc ?_
   refine aq (.inl rfl) (aJ rfl (al rfl)) (fun w1 hw=> ?_)
   exact⟨(az.1,az.2.1,az.2.2.1,az.2.2.2.1,az.2.2.2.2),by rw[hE,cH,lg,←Hx],by rw[hE];exact Ar,ah.mem hw⟩
  ·
   replace h2:=bz h2
   have fg: ¬(cH (⟨⟨cv xc,xa.xs,xg.toNat,xl⟩,xy⟩:WV) (it.xs.map bt)).2≠0:=by rw[cH,lg,←Hx];exact fun h=>h h2
   refine Gc ?_
   iterate 4 refine Gs ?_
   refine ag (Ry.to (v':=az.2.1.sv.val) (bJ rfl) rfl) ?_
   refine bo rfl (by omega) fun kR Xe=> ?_
   refine Gs ?_
   refine Gc ?_
   iterate 3 refine Gs ?_
   refine Gc ?_
   refine cc (X:=Nat×Cp×List Int) (fun zz=>[(44, .int .i64 (zz.1:Nat)),(0, .pointer (some ⟨k,0,none⟩)),(9,kR.val),(42,it.sv.val),(43, .int .i64 (it.xs.length:Nat))]) (fun zz=>ar k (aM (⟨⟨zz.2.1,az.2.1,az.2.2.1,az.2.2.2.1⟩,az.2.2.2.2⟩:aR)) 141::fz zz.2.1::fz az.2.1::own bK 1 kR zz.2.2::L) (fun zz=>zz.1≤it.xs.length∧(fM (⟨⟨cv xc,xa.xs,xg.toNat,xl⟩,xy⟩:WV) (it.xs.map bt))=(gk (⟨cv az.1,az.2.1.xs,az.2.2.1.toNat,az.2.2.2.1⟩:VV) az.2.2.2.2 ((it.xs.map bt).drop zz.1) (cv zz.2.1) zz.2.2)∧aV (cv zz.2.1)=true∧dx (cv az.1) (cv zz.2.1)∧hU (cv zz.2.1) zz.2.2∧zz.2.2.length=az.2.1.xs.length) (fun zz=>it.xs.length -zz.1) (0,az.1,az.2.1.xs) ⟨Nat.zero_le _,by rw[fM,←Ar];rfl,Yk, .cZ _,vW.sK,rfl⟩ (Sub.cons rfl (Sub.cons rfl (Sub.cons rfl (Sub.cons rfl (Sub.cons rfl (Sub.nil _)))))) (fun w hw=>ah.mem hw) ?_
   rintro⟨j,d,zs⟩ ⟨iG,dF,jk,lL,yg,Hy⟩
   dsimp only
   simp only at iG dF jk lL yg Hy
   refine Gc ?_
   refine Gs ?_
   refine Gc ?_
   refine au rfl (fun h3=> ?_) (fun h3=> ?_)
   ·
    replace h3:=bz h3
    obtain⟨z,hz⟩:=get_some (xs:=it.xs) (i:=j) (by omega)
    have ue:Mb z it:=⟨List.mem_of_getElem? hz⟩
    have ai6:=yf z (List.mem_of_getElem? hz)
    obtain⟨zi,od⟩:=get_some (xs:=zs) (i:=z.id.toNat) (by omega)
    have ux:(it.xs.map bt)[j]? =Option.some (bt z):=by rw[List.getElem?_map,hz];rfl
    have bB:(gk (⟨cv az.1,az.2.1.xs,az.2.2.1.toNat,az.2.2.2.1⟩:VV) az.2.2.2.2 ((it.xs.map bt).drop j) (cv d) zs)=(if(bt z).2.length=0 then(gk (⟨cv az.1,az.2.1.xs,az.2.2.1.toNat,az.2.2.2.1⟩:VV) az.2.2.2.2 ((it.xs.map bt).drop (j+1)) (cv d) (zs.set z.id.toNat 0))else if(c0 (cv d) (az.2.1.xs++zs) az.2.2.2.2 (hY (⟨cv az.1,az.2.1.xs,az.2.2.1.toNat,az.2.2.2.1⟩:VV) (bt z))).2.2≠0 then((c0 (cv d) (az.2.1.xs++zs) az.2.2.2.2 (hY (⟨cv az.1,az.2.1.xs,az.2.2.1.toNat,az.2.2.2.1⟩:VV) (bt z))).1,zs,(c0 (cv d) (az.2.1.xs++zs) az.2.2.2.2 (hY (⟨cv az.1,az.2.1.xs,az.2.2.1.toNat,az.2.2.2.1⟩:VV) (bt z))).2.2)else(gk (⟨cv az.1,az.2.1.xs,az.2.2.1.toNat,az.2.2.2.1⟩:VV) az.2.2.2.2 ((it.xs.map bt).drop (j+1)) (c0 (cv d) (az.2.1.xs++zs) az.2.2.2.2 (hY (⟨cv az.1,az.2.1.xs,az.2.2.1.toNat,az.2.2.2.1⟩:VV) (bt z))).1 (zs.set z.id.toNat (c0 (cv d) (az.2.1.xs++zs) az.2.2.2.2 (hY (⟨cv az.1,az.2.1.xs,az.2.2.1.toNat,az.2.2.2.1⟩:VV) (bt z))).2.1))):=by
     rw[xr ux,gk];rfl
    have eA:(aw [az.2.1,(⟨kR,zs⟩:Sl Int)])=az.2.1.xs++zs:=Hj _ _
    have Yn:cK (⟨1,z.id,az.2.2.1+1,z.body⟩:eC)=hY (⟨cv az.1,az.2.1.xs,az.2.2.1.toNat,az.2.2.2.1⟩:VV) (bt z):=by simp only[cK,hY,bt,rV]
    have vX:(c0 (cv d) (aw [az.2.1,(⟨kR,zs⟩:Sl Int)]) az.2.2.2.2 (cK (⟨1,z.id,az.2.2.1+1,z.body⟩:eC)))=(c0 (cv d) (az.2.1.xs++zs) az.2.2.2.2 (hY (⟨cv az.1,az.2.1.xs,az.2.2.1.toNat,az.2.2.2.1⟩:VV) (bt z))):=by rw[eA,Yn]
    have Yo:hU (cv d) (aw [az.2.1,(⟨kR,zs⟩:Sl Int)]):=by rw[eA];exact((show hU (cv az.1) az.2.1.xs from vW.sK).bT lL).append yg
    have Yp:(aw [az.2.1,(⟨kR,zs⟩:Sl Int)]).length≤1000:=by rw[eA,List.length_append];omega
    refine Gc ?_
    refine ag (bk rfl rfl j rfl (by omega)) ?_
    refine ag (gR rfl j hz rfl) ?_
    have ai7:Mb z it:=⟨List.mem_of_getElem? hz⟩
    refine bH fun oq=> ?_
    refine Gs ?_
    refine Gc ?_
    iterate 4 refine Gs ?_
    refine Gc ?_
    refine au rfl (fun h4=> ?_) (fun h4=> ?_)
    ·
     replace h4:=bz h4
     have jx:(bt z).2.length=0:=by simp only[bt];omega
     refine Gc ?_
     iterate 3 refine Gs ?_
     refine ag (bk rfl rfl z.id.toNat (by omega) (by omega)) ?_
     refine kX (s:=kR) (n:=1) (k:=z.id.toNat) (j:=0) (a:=zi) (a':=0) (xs:=zs) (enc:=bK) (c:=1) (v:= .int .i64 0) (by kernel_rfl) rfl rfl rfl od (by simp[Value.cells,Value.oneCell']) rfl (by decide) (by rfl) ?_
     refine Gc ?_
     iterate 2 refine Gs ?_
     refine Gi ?_
     exact bA (x:=(j,d,zs)) (j+1,d,zs.set z.id.toNat 0) ⟨by simp only;omega,by rw[dF,bB,if_pos jx],jk,lL,fun y hy=>(List.mem_or_eq_of_mem_set hy).elim (yg y) fun hy=> .inl hy,by rw[List.length_set];exact Hy⟩ (by simp only;omega) (Sub.cons rfl (Sub.cons rfl (Sub.cons rfl (Sub.cons rfl (Sub.cons rfl (Sub.nil _)))))) (fun w hw=>ah.mem hw)
    ·
     replace h4:=bz h4
     have jx: ¬(bt z).2.length=0:=by simp only[bt];omega
     refine Gc ?_
     refine jE [18,19] [[],[],[],[],[],[],[],[],[],[],[],[],[],[],[],[],[],[],[],[18],[18,19],[18,19],[18,19],[18,19],[18,19]] [0,1,2,3,4,5,6,7,8,9,10,11,12,13,14,15,16,17,18,19,20,21,22,23,24] [Dn k az.2.1 az.2.2.1 141,ar oq (nV z) 102] (fun _ hw=>(Hw (ah.mem hw:Mem w0 [ar k (aM (⟨⟨d,az.2.1,az.2.2.1,az.2.2.2.1⟩,az.2.2.2.2⟩:aR)) 141,ar oq (nV z) 102] _))) (by kernel_rfl) (by kernel_rfl) ?_
     refine an rfl (aE rfl) ?_
     refine an rfl (aI (o':=0) rfl rfl) ?_
     refine an rfl (bJ rfl) ?_
     refine an rfl (aE rfl) ?_
     refine an rfl (jU rfl) ?_
     refine an rfl (aI (o':=0) rfl rfl) ?_
     refine an rfl (aI (o':=7) rfl rfl) ?_
     refine an rfl (Yh (a:=az.2.1) (g:=az.2.2.1) (T:=141) rfl inferInstance) ?_
     refine an rfl (Ry.to (v':= .int .u64 ((az.2.2.1+1).toNat:Int)) (yU (p:=az.2.2.1.toNat) (q:=1) rfl rfl rfl rfl (by simp only[nb];omega)) (by rw[rV])) ?_
     refine an rfl (aI (o':=1) rfl rfl) ?_
     refine an rfl (bJ rfl) ?_
     refine an rfl (cS (v:= .agg (cN (⟨1,z.id,az.2.2.1+1,z.body⟩:eC))) rfl (Yf z.id (az.2.2.1+1) z.body)) ?_
     refine an rfl (aE rfl) ?_
     refine an rfl (jU rfl) ?_
     refine an rfl (aI (o':=0) rfl rfl) ?_
     refine an rfl (aI (o':=6) rfl rfl) ?_
     refine an rfl (Yg (a:=az.2.1) (g:=az.2.2.1) (T:=141) rfl inferInstance) ?_
     refine an rfl (aE rfl) ?_
     refine dN rfl (Kf (enc:=ca) (vals:=[az.2.1.sv.val,kR.val]) [az.2.1,(⟨kR,zs⟩:Sl Int)] rfl (by simp only[List.map_cons,List.map_nil,Sv.jm];rfl) rfl (by decide) (by decide) fun Yq=>⟨fun _ hw=>(Hw (ah.mem hw:Mem w0 [ar k (aM (⟨⟨d,az.2.1,az.2.2.1,az.2.2.2.1⟩,az.2.2.2.2⟩:aR)) 141,ar oq (nV z) 102] _)),?_⟩)
     refine dN rfl (nZ (hc:=XN (q:=(⟨1,z.id,az.2.2.1+1,z.body⟩:eC)) (l:=(⟨⟨false,Yq,0,2,2,none⟩,[az.2.1,(⟨kR,zs⟩:Sl Int)]⟩:Sl (Sl Int)))) rfl ⟨jk,by rw[lL.len];omega,Yo,Yp⟩ fun Hz HA=>⟨fun _ hw=>(Hw (ah.mem hw:Mem w0 [ar k (aM (⟨⟨Hz,az.2.1,az.2.2.1,az.2.2.2.1⟩,az.2.2.2.2⟩:aR)) 141,ar oq (nV z) 102] _)),?_⟩)
     refine an rfl (aE rfl) ?_
     refine an rfl (aU (v:= .int .i64 ((c0 (cv d) (aw [az.2.1,(⟨kR,zs⟩:Sl Int)]) az.2.2.2.2 (cK (⟨1,z.id,az.2.2.1+1,z.body⟩:eC))).2.1)) rfl rfl) ?_
     refine an rfl (aU (v:= .int .i64 ((c0 (cv d) (aw [az.2.1,(⟨kR,zs⟩:Sl Int)]) az.2.2.2.2 (cK (⟨1,z.id,az.2.2.1+1,z.body⟩:eC))).2.2)) rfl rfl) ?_
     refine an rfl (bp rfl) ?_
     refine an rfl (bp rfl) ?_
     refine Gc ?_
     iterate 2 refine Gs ?_
     refine Gc ?_
     refine au rfl (fun h5=> ?_) (fun h5=> ?_)
     ·
      replace h5:=bz h5
      have nJ:(c0 (cv d) (az.2.1.xs++zs) az.2.2.2.2 (hY (⟨cv az.1,az.2.1.xs,az.2.2.1.toNat,az.2.2.2.1⟩:VV) (bt z))).2.2≠0:=by rw[←vX];exact h5
      have s8:(fM (⟨⟨cv xc,xa.xs,xg.toNat,xl⟩,xy⟩:WV) (it.xs.map bt))=((c0 (cv d) (az.2.1.xs++zs) az.2.2.2.2 (hY (⟨cv az.1,az.2.1.xs,az.2.2.1.toNat,az.2.2.2.1⟩:VV) (bt z))).1,zs,(c0 (cv d) (az.2.1.xs++zs) az.2.2.2.2 (hY (⟨cv az.1,az.2.1.xs,az.2.2.1.toNat,az.2.2.2.1⟩:VV) (bt z))).2.2):=by rw[dF,bB,if_neg jx,if_pos nJ]
      have hE:(gJ (⟨⟨cv xc,xa.xs,xg.toNat,xl⟩,xy⟩:WV) (it.xs.map bt))=((⟨(⟨cv az.1,az.2.1.xs,az.2.2.1.toNat,az.2.2.2.1⟩:VV),az.2.2.2.2⟩:WV).on (c0 (cv d) (az.2.1.xs++zs) az.2.2.2.2 (hY (⟨cv az.1,az.2.1.xs,az.2.2.1.toNat,az.2.2.2.1⟩:VV) (bt z))).1,(c0 (cv d) (az.2.1.xs++zs) az.2.2.2.2 (hY (⟨cv az.1,az.2.1.xs,az.2.2.1.toNat,az.2.2.2.1⟩:VV) (bt z))).2.2):=by rw[gJ,if_neg fg,s8,←Ar];exact if_pos nJ
      refine Gc ?_
      iterate 2 refine Gs ?_
      refine Gc ?_
      refine aq (.inl rfl) (aJ rfl (al rfl)) (fun w1 hw=> ?_)
      exact⟨(Hz,az.2.1,az.2.2.1,az.2.2.2.1,az.2.2.2.2),by rw[hE,vX],by rw[hE,HA,vX];rfl,ah.mem hw⟩
     ·
      replace h5:=bz h5
      have nJ:(c0 (cv d) (az.2.1.xs++zs) az.2.2.2.2 (hY (⟨cv az.1,az.2.1.xs,az.2.2.1.toNat,az.2.2.2.1⟩:VV) (bt z))).2.2=0:=by rw[←vX];exact h5
      obtain⟨p1,p2,p3,p4⟩:=LO (fl:=az.2.1.xs++zs) (aF:=az.2.2.2.2) (p:=hY (⟨cv az.1,az.2.1.xs,az.2.2.1.toNat,az.2.2.2.1⟩:VV) (bt z)) jk (by rw[lL.len];omega)
      have p5:=p4 nJ
      rw[←vX,←HA]at p1 p2
      refine Gc ?_
      iterate 4 refine Gs ?_
      refine ag (bk rfl rfl z.id.toNat (by omega) (by omega)) ?_
      refine kX (s:=kR) (n:=1) (k:=z.id.toNat) (j:=0) (a:=zi) (a':=(c0 (cv d) (aw [az.2.1,(⟨kR,zs⟩:Sl Int)]) az.2.2.2.2 (cK (⟨1,z.id,az.2.2.1+1,z.body⟩:eC))).2.1) (xs:=zs) (enc:=bK) (c:=1) (v:= .int .i64 (c0 (cv d) (aw [az.2.1,(⟨kR,zs⟩:Sl Int)]) az.2.2.2.2 (cK (⟨1,z.id,az.2.2.1+1,z.body⟩:eC))).2.1) (by kernel_rfl) rfl rfl rfl od (by simp[Value.cells,Value.oneCell']) rfl (by decide) (by rfl) ?_
      refine Gc ?_
      iterate 2 refine Gs ?_
      refine Gi ?_
      exact bA (x:=(j,d,zs)) (j+1,Hz,zs.set z.id.toNat (c0 (cv d) (aw [az.2.1,(⟨kR,zs⟩:Sl Int)]) az.2.2.2.2 (cK (⟨1,z.id,az.2.2.1+1,z.body⟩:eC))).2.1) ⟨by simp only;omega,by rw[dF,bB,if_neg jx,if_neg (fun h=>h nJ),HA,vX],p1,lL.trans p2,fun y hy=>by
                 rw[p2.pages,p2.len]
                 exact(List.mem_or_eq_of_mem_set hy).elim (yg y) fun hy=>hy▸ .inr (by rw[vX];exact p5),by rw[List.length_set];exact Hy⟩ (by simp only;omega) (Sub.cons rfl (Sub.cons rfl (Sub.cons rfl (Sub.cons rfl (Sub.cons rfl (Sub.nil _)))))) (fun w hw=>ah.mem hw)
   ·
    replace h3:=bz h3
    obtain rfl:j=it.xs.length:=by omega
    have s8:(fM (⟨⟨cv xc,xa.xs,xg.toNat,xl⟩,xy⟩:WV) (it.xs.map bt))=(cv d,zs,0):=by rw[dF,←eX,List.drop_length];rfl
    have hE:(gJ (⟨⟨cv xc,xa.xs,xg.toNat,xl⟩,xy⟩:WV) (it.xs.map bt))=dP ((⟨(⟨cv az.1,az.2.1.xs,az.2.2.1.toNat,az.2.2.2.1⟩:VV),az.2.2.2.2⟩:WV).on (cv d)) zs:=by rw[gJ,if_neg fg,s8,←Ar];simp only[ne_eq,not_true_eq_false,if_false]
    have Hs:cV ((⟨(⟨cv az.1,az.2.1.xs,az.2.2.1.toNat,az.2.2.2.1⟩:VV),az.2.2.2.2⟩:WV).on (cv d)):=vW.on jk lL
    refine Gc ?_
    iterate 2 refine Gs ?_
    refine bo rfl Hs fun Dp Yr=> ?_
    refine Gs ?_
    refine Gc ?_
    refine aq (.inl rfl) (aJ rfl (al rfl)) (fun w1 hw=> ?_)
    exact⟨(Dp.1,Dp.2.1,Dp.2.2.1,Dp.2.2.2,az.2.2.2.2),by rw[hE];rfl,by rw[hE];exact Yr,ah.mem hw⟩
instance ai8{w0:World}{L R1 R2 L2:List ai}{i0 i1 i2:Nat}{k:Nat}{xc:Cp}{xa:Sl Int}{xg:UInt64}{xl:Int}{xy:Bool}{it:Sl It}[q0:Has L k (aM (⟨⟨xc,xa,xg,xl⟩,xy⟩:aR)) 141 i0][d0:dw L i0 R1][q1:At R1 (fz xc) i1][d1:dw R1 i1 R2][q2:At R2 (fz xa) i2][d2:dw R2 i2 L2][n0:aW w0 L2 it]:cn Tryz.prog 88 w0 L [.pointer (some ⟨k,0,none⟩),it.sv.val] (Cp×Sl Int×UInt64×Int×Bool) (fun zz=> .int .i64 ((gJ (⟨⟨cv xc,xa.xs,xg.toNat,xl⟩,xy⟩:WV) (it.xs.map bt)).2)) (fun zz=>ar k (aM (⟨⟨zz.1,zz.2.1,zz.2.2.1,zz.2.2.2.1⟩,zz.2.2.2.2⟩:aR)) 141::fz zz.1::fz zz.2.1::L2) (fun zz=>(⟨⟨cv zz.1,zz.2.1.xs,zz.2.2.1.toNat,zz.2.2.2.1⟩,zz.2.2.2.2⟩:WV)=(gJ (⟨⟨cv xc,xa.xs,xg.toNat,xl⟩,xy⟩:WV) (it.xs.map bt)).1) (cV (⟨⟨cv xc,xa.xs,xg.toNat,xl⟩,xy⟩:WV)∧it.xs.length≤1000000∧ ∀x∈it.xs,0≤x.id∧x.id<xa.xs.length∧x.id<64):=⟨fun hp w hw=>Yi w0 w L2 k xc xa xg xl xy it (xO q0.h d0.h q1.h d1.h q2.h d2.h hw) hp⟩
open Go.aA Go.Kb
open Go.RowKit
theorem Ys(w0 w:World)(L:List ai)(k:Nat)(xc:Cp)(xa:Sl Int)(xg:UInt64)(xl:Int)(xy:Bool)(n:Int)(hw:Mem w0 (ar k (aM (⟨⟨xc,xa,xg,xl⟩,xy⟩:aR)) 141::fz xc::fz xa::L) w)(bc:cV (⟨⟨cv xc,xa.xs,xg.toNat,xl⟩,xy⟩:WV)∧0≤n∧n≤64):Calls Tryz.prog 85 #[.pointer (some ⟨k,0,none⟩), .int .i64 n] w fun e w'=> ∃zz:Cp×Sl Int×UInt64×Int,e= .returned (.int .i64 ((oP (⟨⟨cv xc,xa.xs,xg.toNat,xl⟩,xy⟩:WV) n.toNat).2))∧((⟨⟨cv zz.1,zz.2.1.xs,zz.2.2.1.toNat,zz.2.2.2⟩,xy⟩:WV)=(oP (⟨⟨cv xc,xa.xs,xg.toNat,xl⟩,xy⟩:WV) n.toNat).1)∧Mem w0 (ar k (aM (⟨⟨zz.1,zz.2.1,zz.2.2.1,zz.2.2.2⟩,xy⟩:aR)) 141::fz zz.1::fz zz.2.1::L) w':=by
 obtain⟨gA,uo,xK⟩:=bc
 have hk:aV (cv xc)=true:=gA.ae
 have yb:4≤(cv xc).blocks.length:=gA.qE
 have hd:=eE hk
 have dz:(cv xc).blocks.length=xc.blocks.xs.length:=fB _
 refine kB (args:=[_,_]) Tryz.func85 rfl Tryz.ntmps85 rfl hw ?_
 change Cw _ _ _ _ _ [(0, .pointer (some ⟨k,0,none⟩)),(1, .int .i64 n)] (ar k (aM (⟨⟨xc,xa,xg,xl⟩,xy⟩:aR)) 141::fz xc::fz xa::L)
 refine Gc ?_
 refine Gs ?_
 refine Gc ?_
 iterate 5 refine Gs ?_
 refine ag (Ry.to (v':=xc.blocks.sv.val) (bJ rfl) rfl) ?_
 iterate 2 refine Gs ?_
 refine Gc ?_
 refine cc (X:=Nat×Cp) (fun zz=>[(18, .int .i64 (zz.1:Nat)),(0, .pointer (some ⟨k,0,none⟩)),(1, .int .i64 n),(17, .int .i64 (xc.blocks.xs.length:Nat))]) (fun zz=>ar k (aM (⟨⟨zz.2,xa,xg,xl⟩,xy⟩:aR)) 141::fz zz.2::fz xa::L) (fun zz=>zz.1≤(cv xc).blocks.length∧(fx (cv xc).blocks.length 0 (cv xc))=fx ((cv xc).blocks.length -zz.1) (zz.1:Int) (cv zz.2)∧aV (cv zz.2)=true∧dx (cv xc) (cv zz.2)) (fun zz=>(cv xc).blocks.length -zz.1) (0,xc) ⟨Nat.zero_le _,rfl,hk, .cZ _⟩ (Sub.cons rfl (Sub.cons rfl (Sub.cons rfl (Sub.cons rfl (Sub.nil _))))) (fun w hw=>ah.mem hw) ?_
 rintro⟨i,d⟩ ⟨bj,aH,bG,di⟩
 dsimp only
 simp only at bj aH bG di
 have Di:=di.len
 have iB:(⟨i,d⟩:Nat×Cp)=(i,d):=rfl
 refine Gc ?_
 refine Gs ?_
 refine Gc ?_
 refine au rfl (fun h0=> ?_) (fun h0=> ?_)
 ·
  replace h0:=bz h0
  have bB:fx ((cv xc).blocks.length -i) (i:Int) (cv d)=(if pK (cv d) i=false then fx ((cv xc).blocks.length -(i+1)) ((i:Int)+1) (cv d)else if dG (cv d) i≠0∧dG (cv d) i≠9 then(cY (cv d) i,dG (cv d) i)else fx ((cv xc).blocks.length -(i+1)) ((i:Int)+1) (cY (cv d) i)):=by
   rw[show(cv xc).blocks.length -i=((cv xc).blocks.length -(i+1))+1 by omega,fx]
  refine Gc ?_
  iterate 2 refine Gs ?_
  refine Gc ?_
  iterate 2 refine Gs ?_
  refine fH (cE rfl ⟨bG,by omega,by omega⟩) ?_
  refine Gs ?_
  refine Gc ?_
  refine au rfl (fun h1=> ?_) (fun h1=> ?_)
  ·
   replace h1:=bz h1
   refine Gc ?_
   iterate 2 refine Gs ?_
   refine Gi ?_
   exact bA (x:=(i,d)) (i+1,d) ⟨by simp only;omega,by rw[aH,bB,if_pos h1];rfl,bG,di⟩ (by simp only;omega) (Sub.cons rfl (Sub.cons rfl (Sub.cons rfl (Sub.cons rfl (Sub.nil _))))) (fun w hw=>ah.mem hw)
  ·
   replace h1:=bz h1
   have eH: ¬pK (cv d) i=false:=by rw[h1];simp
   refine Gc ?_
   iterate 2 refine Gs ?_
   refine bo rfl ⟨bG,by omega,by omega⟩ fun pY rS=> ?_
   refine Gs ?_
   refine Gc ?_
   iterate 3 refine Gs ?_
   iterate 2 refine Gg ?_
   refine Gs ?_
   refine Gc ?_
   refine au rfl (fun h2=> ?_) (fun h2=> ?_)
   ·
    replace h2:=bz h2
    have hE:(oP (⟨⟨cv xc,xa.xs,xg.toNat,xl⟩,xy⟩:WV) n.toNat)=((⟨⟨cv xc,xa.xs,xg.toNat,xl⟩,xy⟩:WV).on (cY (cv d) i),dG (cv d) i):=by
     have hz:(fx (cv xc).blocks.length 0 (cv xc))=(cY (cv d) i,dG (cv d) i):=by rw[aH,bB,if_neg eH,if_pos h2]
     rw[oP,if_pos (show(fx (cv xc).blocks.length 0 (cv xc)).2≠0 by rw[hz];exact h2.1),hz]
    refine Gc ?_
    iterate 2 refine Gs ?_
    refine Gc ?_
    refine aq (.inl rfl) (aJ rfl (al rfl)) (fun w1 hw=> ?_)
    exact⟨(pY,xa,xg,xl),by rw[hE],by rw[hE,rS];rfl,ah.mem hw⟩
   ·
    replace h2:=bz h2
    have fg:dG (cv d) i≠0→dG (cv d) i≠9→False:=fun ga gb=>by omega
    refine Gc ?_
    iterate 2 refine Gs ?_
    refine Gi ?_
    exact bA (x:=(i,d)) (i+1,pY) ⟨by simp only;omega,by rw[aH,bB,if_neg eH,if_neg (fun h=>fg h.1 h.2),rS];rfl,by rw[rS];exact zK bG _,by rw[rS];exact di.trans (sJ _ _)⟩ (by simp only;omega) (Sub.cons rfl (Sub.cons rfl (Sub.cons rfl (Sub.cons rfl (Sub.nil _))))) (fun w hw=>ah.mem hw)
 ·
  replace h0:=bz h0
  obtain rfl:i=(cv xc).blocks.length:=by omega
  have hz:(fx (cv xc).blocks.length 0 (cv xc))=(cv d,0):=by rw[aH,Nat.sub_self];rfl
  refine Gc ?_
  refine Gs ?_
  refine Gc ?_
  refine cc (X:=Nat×Cp) (fun zz=>[(36, .int .i64 (zz.1:Nat)),(0, .pointer (some ⟨k,0,none⟩)),(1, .int .i64 n)]) (fun zz=>ar k (aM (⟨⟨zz.2,xa,xg,xl⟩,xy⟩:aR)) 141::fz zz.2::fz xa::L) (fun zz=>zz.1≤2∧(oP (⟨⟨cv xc,xa.xs,xg.toNat,xl⟩,xy⟩:WV) n.toNat)=pN (2 -zz.1) (zz.1:Int) ((⟨⟨cv xc,xa.xs,xg.toNat,xl⟩,xy⟩:WV).on (cv zz.2)) n.toNat∧aV (cv zz.2)=true∧dx (cv xc) (cv zz.2)) (fun zz=>2 -zz.1) (0,d) ⟨Nat.zero_le _,by rw[oP,if_neg (show ¬(fx (cv xc).blocks.length 0 (cv xc)).2≠0 by rw[hz];simp),show(fx (cv xc).blocks.length 0 (cv xc)).1=cv d by rw[hz]];rfl,bG,di⟩ (Sub.cons rfl (Sub.cons rfl (Sub.cons rfl (Sub.nil _)))) (fun w hw=>ah.mem hw) ?_
  rintro⟨j,e⟩ ⟨iG,dF,jk,lL⟩
  dsimp only
  simp only at iG dF jk lL
  have Di:=lL.len
  have vM:=FW (aj (cv e) (1 -(j:Int))).pages
  change gW (cv e) (1 -(j:Int))<_ at vM
  have eA:fG (cv e) j<281474976710656+2∨ ¬j<2:=by
   by_cases Yt:j<2
   ·
    left;rw[fG];omega
   ·
    exact .inr Yt
  refine Gc ?_
  refine Gs ?_
  refine Gc ?_
  refine au rfl (fun h3=> ?_) (fun h3=> ?_)
  ·
   replace h3:=bz h3
   have ai9:fG (cv e) j<281474976710656+2:=eA.resolve_right (fun h=>h (by omega))
   have yh:(UInt64.ofNat (fG (cv e) j)).toNat=fG (cv e) j:=by rw[UInt64.toNat_ofNat'];omega
   refine Gc ?_
   iterate 2 refine Gs ?_
   refine Gc ?_
   refine rv [4,6,7,2004,2006] [[],[],[],[],[],[4],[],[4,6]] [0,1,2,3,4,5,6,7] [ar k (aM (⟨⟨e,xa,xg,xl⟩,xy⟩:aR)) 141,fz e] [(4,ru bK 1 n.toNat (List.replicate n.toNat 0)),(6,lW Tryz.prog 147)] (by kernel_rfl) (fun _ hw=>ah.mem hw) (by kernel_rfl) (by kernel_rfl) ?_
   refine an rfl (aE rfl) ?_
   refine an rfl (aE rfl) ?_
   refine vm rfl (cE rfl ⟨jk,by omega,by omega⟩) ?_
   refine an rfl (aE rfl) ?_
   refine pA (m:=ru bK 1 n.toNat (List.replicate n.toNat 0)) rfl rfl (Wq (enc:=bK) (c:=1) (n:=n.toNat) 0 rfl rfl rfl (by omega) (by omega) (by omega) (by omega)) (Cert.one (i:=6) rfl rfl rfl kZ (Cert.none rfl)) fun jR=> ?_
   change Ln _ _ _ _ _ _ _ _ (cD _ _ (Sv.val ⟨false,jR,0,n.toNat,n.toNat,none⟩)) (own bK 1 ⟨false,jR,0,n.toNat,n.toNat,none⟩ (List.replicate n.toNat 0)::_) _
   refine an rfl (cS (v:= .agg (dH (⟨UInt64.ofNat (fG (cv e) j),⟨⟨false,jR,0,n.toNat,n.toNat,none⟩,(List.replicate n.toNat 0)⟩⟩:dk))) rfl (by rw[show(.int .u64 ((fG (cv e) j:Nat):Int):Value)= .int .u64 ((UInt64.ofNat (fG (cv e) j)).toNat:Int) by rw[yh]];exact Nx _ _ _)) ?_
   refine pA (m:=lW Tryz.prog 147) rfl rfl kZ (Cert.none rfl) fun b8=> ?_
   change Ln _ _ _ _ _ _ _ _ (cD _ _ (.pointer (some ⟨b8,0,none⟩))) (ar b8 (dH k8) 147::_) _
   refine dN rfl (pz rfl rfl ⟨fun _ hw=>ah.mem hw,?_⟩)
   iterate 3 refine Gi ?_
   have yc:dm (⟨UInt64.ofNat (fG (cv e) j),⟨⟨false,jR,0,n.toNat,n.toNat,none⟩,(List.replicate n.toNat 0)⟩⟩:dk)=⟨fG (cv e) j,(List.replicate n.toNat 0)⟩:=by simp only[dm,yh]
   have HB:lF (cv e) j n.toNat=(cO (dm (⟨UInt64.ofNat (fG (cv e) j),⟨⟨false,jR,0,n.toNat,n.toNat,none⟩,(List.replicate n.toNat 0)⟩⟩:dk)) e.size):=by rw[yc];rfl
   have Yu:2 -j=(2 -(j+1))+1:=by omega
   have bB:(pN (2 -j) (j:Int) ((⟨⟨cv xc,xa.xs,xg.toNat,xl⟩,xy⟩:WV).on (cv e)) n.toNat)=(if(lF (cv e) j n.toNat).2≠0∨dD (cv e) j=0 then pN (2 -(j+1)) ((j:Int)+1) ((⟨⟨cv xc,xa.xs,xg.toNat,xl⟩,xy⟩:WV).on (cv e)) n.toNat else if(bC (cv e) j (lF (cv e) j n.toNat).1)=0 then((⟨CE (bn (cv e) j (lF (cv e) j n.toNat).1) j n.toNat (fG (cv e) j),xy⟩:WV),(0:Int))else if(bC (cv e) j (lF (cv e) j n.toNat).1)≠9 then((⟨⟨cv xc,xa.xs,xg.toNat,xl⟩,xy⟩:WV).on (bn (cv e) j (lF (cv e) j n.toNat).1),(bC (cv e) j (lF (cv e) j n.toNat).1))else pN (2 -(j+1)) ((j:Int)+1) ((⟨⟨cv xc,xa.xs,xg.toNat,xl⟩,xy⟩:WV).on (bn (cv e) j (lF (cv e) j n.toNat).1)) n.toNat):=by
    rw[Yu,pN]
    rfl
   rw[HB]at bB
   refine jE [7] [[],[],[],[],[],[],[],[],[7],[7],[7],[7],[7]] [0,1,2,3,4,5,6,7,8,9,10,11,12] [ar k (aM (⟨⟨e,xa,xg,xl⟩,xy⟩:aR)) 141,fz e,ar b8 (dH (⟨UInt64.ofNat (fG (cv e) j),⟨⟨false,jR,0,n.toNat,n.toNat,none⟩,(List.replicate n.toNat 0)⟩⟩:dk)) 147] (fun _ hw=>ah.mem hw) (by kernel_rfl) (by kernel_rfl) ?_
   refine an rfl (eJ rfl) ?_
   refine an rfl (aE rfl) ?_
   refine an rfl (jU rfl) ?_
   refine an rfl (aI (o':=0) rfl rfl) ?_
   refine an rfl (aI (o':=0) rfl rfl) ?_
   refine an rfl (aI (o':=1) rfl rfl) ?_
   refine an rfl (Ry.to (v':= .int .i64 e.size) (bJ rfl) rfl) ?_
   refine dN rfl (nZ rfl trivial fun Yv aja=>⟨fun _ hw=>ah.mem hw,?_⟩)
   refine an rfl (aE rfl) ?_
   refine an rfl (aU (v:=Yv.val) rfl rfl) ?_
   refine an rfl (aU (v:= .int .i64 ((cO (dm (⟨UInt64.ofNat (fG (cv e) j),⟨⟨false,jR,0,n.toNat,n.toNat,none⟩,(List.replicate n.toNat 0)⟩⟩:dk)) e.size).2)) rfl rfl) ?_
   refine an rfl (bp rfl) ?_
   refine an rfl (bp rfl) ?_
   refine Gc ?_
   iterate 3 refine Gs ?_
   iterate 2 refine Gg ?_
   refine bM rfl rfl rfl (fun hg=>cE (dy (aG hg rfl) (dy (aG hg rfl) gB)) ⟨jk,by omega,by omega⟩) ?_
   refine Gg ?_
   refine Gs ?_
   refine Gc ?_
   refine au rfl (fun h4=> ?_) (fun h4=> ?_)
   ·
    replace h4:=bz h4
    have jx:(cO (dm (⟨UInt64.ofNat (fG (cv e) j),⟨⟨false,jR,0,n.toNat,n.toNat,none⟩,(List.replicate n.toNat 0)⟩⟩:dk)) e.size).2≠0∨dD (cv e) j=0:=h4
    refine Gc ?_
    iterate 2 refine Gs ?_
    refine Gi ?_
    exact bA (x:=(j,e)) (j+1,e) ⟨by simp only;omega,by rw[dF,bB,if_pos jx];rfl,jk,lL⟩ (by simp only;omega) (Sub.cons rfl (Sub.cons rfl (Sub.cons rfl (Sub.nil _)))) (fun w hw=>ah.mem hw)
   ·
    replace h4:=bz h4
    have jx: ¬((cO (dm (⟨UInt64.ofNat (fG (cv e) j),⟨⟨false,jR,0,n.toNat,n.toNat,none⟩,(List.replicate n.toNat 0)⟩⟩:dk)) e.size).2≠0∨dD (cv e) j=0):=fun h=>h.elim (fun g=>g h4.1) h4.2
    refine Gc ?_
    iterate 3 refine Gs ?_
    refine bo rfl ⟨jk,by omega,by omega⟩ fun uy As=> ?_
    refine Gs ?_
    refine Gc ?_
    iterate 2 refine Gs ?_
    refine Gc ?_
    refine au rfl (fun h5=> ?_) (fun h5=> ?_)
    ·
     replace h5:=bz h5
     have nJ:(bC (cv e) j (cO (dm (⟨UInt64.ofNat (fG (cv e) j),⟨⟨false,jR,0,n.toNat,n.toNat,none⟩,(List.replicate n.toNat 0)⟩⟩:dk)) e.size).1)=0:=h5
     have hE:(oP (⟨⟨cv xc,xa.xs,xg.toNat,xl⟩,xy⟩:WV) n.toNat)=((⟨CE (bn (cv e) j (cO (dm (⟨UInt64.ofNat (fG (cv e) j),⟨⟨false,jR,0,n.toNat,n.toNat,none⟩,(List.replicate n.toNat 0)⟩⟩:dk)) e.size).1) j n.toNat (fG (cv e) j),xy⟩:WV),0):=by rw[dF,bB,if_neg jx,if_pos nJ]
     refine Gi ?_
     refine jE [11,15,19,1003,1004,1009,1010,1013,1014,1017,1018] [[],[],[],[],[3],[],[],[],[3,4],[3,4],[3,4,9],[3,4,9,10],[3,4,9,10,11],[3,4,9,10,11],[3,4,9,10,11,13],[3,4,9,10,11,13,14],[3,4,9,10,11,13,14,15],[3,4,9,10,11,13,14,15],[3,4,9,10,11,13,14,15,17],[3,4,9,10,11,13,14,15,17,18]] [0,1,2,3,4,5,6,7,8,9,10,11,12,13,14,15,16,17,18,19] [ar b8 (dH (⟨UInt64.ofNat (fG (cv e) j),⟨⟨false,jR,0,n.toNat,n.toNat,none⟩,(List.replicate n.toNat 0)⟩⟩:dk)) 147] (fun _ hw=>ah.mem hw) (by kernel_rfl) (by kernel_rfl) ?_
     refine an rfl (aE rfl) ?_
     refine an rfl (aE rfl) ?_
     refine an rfl (aE rfl) ?_
     refine kE rfl (aI (o':=1) rfl rfl) ?_
     refine kE rfl (bJ rfl) ?_
     refine an rfl (aI (o':=0) rfl rfl) ?_
     refine an rfl (bJ rfl) ?_
     refine an rfl (aE rfl) ?_
     refine an rfl (jU rfl) ?_
     refine kE rfl (aI (o':=0) rfl rfl) ?_
     refine kE rfl (aI (o':=6) rfl rfl) ?_
     refine dN rfl (wU (cs':=aM (⟨⟨uy,⟨⟨false,jR,0,n.toNat,n.toNat,none⟩,(List.replicate n.toNat 0)⟩,xg,xl⟩,xy⟩:aR)) rfl rfl (by show 6<10;decide) (by first|rfl|exact Sv.one _) rfl ⟨fun _ hw=>ah.mem hw,?_⟩)
     refine an rfl (jU rfl) ?_
     refine kE rfl (aI (o':=0) rfl rfl) ?_
     refine kE rfl (aI (o':=7) rfl rfl) ?_
     refine dN rfl (wU (cs':=aM (⟨⟨uy,⟨⟨false,jR,0,n.toNat,n.toNat,none⟩,(List.replicate n.toNat 0)⟩,(UInt64.ofNat (fG (cv e) j)),xl⟩,xy⟩:aR)) rfl rfl (by show 7<10;decide) (by first|rfl|exact Sv.one _) rfl ⟨fun _ hw=>ah.mem hw,?_⟩)
     refine an rfl (jU rfl) ?_
     refine kE rfl (aI (o':=0) rfl rfl) ?_
     refine kE rfl (aI (o':=8) rfl rfl) ?_
     refine dN rfl (wU (cs':=aM (⟨⟨uy,⟨⟨false,jR,0,n.toNat,n.toNat,none⟩,(List.replicate n.toNat 0)⟩,(UInt64.ofNat (fG (cv e) j)),((j:Nat):Int)⟩,xy⟩:aR)) rfl rfl (by show 8<10;decide) (by first|rfl|exact Sv.one _) rfl ⟨fun _ hw=>ah.mem hw,?_⟩)
     refine Gc ?_
     refine Gs ?_
     refine Gc ?_
     refine aq (.inl rfl) (aJ rfl (al rfl)) (fun w1 hw=> ?_)
     exact⟨(uy,⟨⟨false,jR,0,n.toNat,n.toNat,none⟩,(List.replicate n.toNat 0)⟩,UInt64.ofNat (fG (cv e) j),(j:Int)),by rw[hE],by rw[hE,As,CE];simp only[yh],ah.mem (vp (a:=⟨⟨false,jR,0,n.toNat,n.toNat,none⟩,(List.replicate n.toNat 0)⟩) (ah.mem hw:Mem w0 (own bK 1 ⟨false,jR,0,n.toNat,n.toNat,none⟩ (List.replicate n.toNat 0)::ar k (aM (⟨⟨uy,⟨⟨false,jR,0,n.toNat,n.toNat,none⟩,(List.replicate n.toNat 0)⟩,(UInt64.ofNat (fG (cv e) j)),(j:Int)⟩,xy⟩:aR)) 141::fz uy::L) _))⟩
    ·
     replace h5:=bz h5
     have nJ: ¬(bC (cv e) j (cO (dm (⟨UInt64.ofNat (fG (cv e) j),⟨⟨false,jR,0,n.toNat,n.toNat,none⟩,(List.replicate n.toNat 0)⟩⟩:dk)) e.size).1)=0:=h5
     refine Gc ?_
     iterate 2 refine Gs ?_
     refine Gc ?_
     refine au rfl (fun h6=> ?_) (fun h6=> ?_)
     ·
      replace h6:=bz h6
      have hE:(oP (⟨⟨cv xc,xa.xs,xg.toNat,xl⟩,xy⟩:WV) n.toNat)=((⟨⟨cv xc,xa.xs,xg.toNat,xl⟩,xy⟩:WV).on (bn (cv e) j (cO (dm (⟨UInt64.ofNat (fG (cv e) j),⟨⟨false,jR,0,n.toNat,n.toNat,none⟩,(List.replicate n.toNat 0)⟩⟩:dk)) e.size).1),(bC (cv e) j (cO (dm (⟨UInt64.ofNat (fG (cv e) j),⟨⟨false,jR,0,n.toNat,n.toNat,none⟩,(List.replicate n.toNat 0)⟩⟩:dk)) e.size).1)):=by rw[dF,bB,if_neg jx,if_neg nJ,if_pos (show(bC (cv e) j (cO (dm (⟨UInt64.ofNat (fG (cv e) j),⟨⟨false,jR,0,n.toNat,n.toNat,none⟩,(List.replicate n.toNat 0)⟩⟩:dk)) e.size).1)≠9 from h6)]
      refine Gc ?_
      iterate 2 refine Gs ?_
      refine Gc ?_
      refine aq (.inl rfl) (aJ rfl (al rfl)) (fun w1 hw=> ?_)
      exact⟨(uy,xa,xg,xl),by rw[hE],by rw[hE,As];rfl,ah.mem hw⟩
     ·
      replace h6:=bz h6
      refine Gc ?_
      iterate 2 refine Gs ?_
      refine Gi ?_
      exact bA (x:=(j,e)) (j+1,uy) ⟨by simp only;omega,by rw[dF,bB,if_neg jx,if_neg nJ,if_neg (fun h=>h h6),As];rfl,by rw[As];exact kK jk _ _,by rw[As];exact lL.trans (gU _ _ _)⟩ (by simp only;omega) (Sub.cons rfl (Sub.cons rfl (Sub.cons rfl (Sub.nil _)))) (fun w hw=>ah.mem hw)
  ·
   replace h3:=bz h3
   obtain rfl:j=2:=by omega
   have hE:(oP (⟨⟨cv xc,xa.xs,xg.toNat,xl⟩,xy⟩:WV) n.toNat)=((⟨⟨cv xc,xa.xs,xg.toNat,xl⟩,xy⟩:WV).on (cv e),9):=by rw[dF];rfl
   refine Gc ?_
   refine Gs ?_
   refine Gc ?_
   refine aq (.inl rfl) (aJ rfl (al rfl)) (fun w1 hw=> ?_)
   exact⟨(e,xa,xg,xl),by rw[hE],by rw[hE];rfl,ah.mem hw⟩
instance ajb{w0:World}{L R1 R2 L2:List ai}{i0 i1 i2:Nat}{k:Nat}{xc:Cp}{xa:Sl Int}{xg:UInt64}{xl:Int}{xy:Bool}{n:Int}[q0:Has L k (aM (⟨⟨xc,xa,xg,xl⟩,xy⟩:aR)) 141 i0][d0:dw L i0 R1][q1:At R1 (fz xc) i1][d1:dw R1 i1 R2][q2:At R2 (fz xa) i2][d2:dw R2 i2 L2]:cn Tryz.prog 85 w0 L [.pointer (some ⟨k,0,none⟩), .int .i64 n] (Cp×Sl Int×UInt64×Int) (fun zz=> .int .i64 ((oP (⟨⟨cv xc,xa.xs,xg.toNat,xl⟩,xy⟩:WV) n.toNat).2)) (fun zz=>ar k (aM (⟨⟨zz.1,zz.2.1,zz.2.2.1,zz.2.2.2⟩,xy⟩:aR)) 141::fz zz.1::fz zz.2.1::L2) (fun zz=>(⟨⟨cv zz.1,zz.2.1.xs,zz.2.2.1.toNat,zz.2.2.2⟩,xy⟩:WV)=(oP (⟨⟨cv xc,xa.xs,xg.toNat,xl⟩,xy⟩:WV) n.toNat).1) (cV (⟨⟨cv xc,xa.xs,xg.toNat,xl⟩,xy⟩:WV)∧0≤n∧n≤64):=⟨fun hp w hw=>Ys w0 w L2 k xc xa xg xl xy n (xO q0.h d0.h q1.h d1.h q2.h d2.h hw) hp⟩
open Go.aA Go.Kb
open Go.RowKit
theorem Yw(w:World)(b:Int)(p:Int):Calls Tryz.prog 42 #[.int .i64 b, .int .i64 p] w fun e w'=>e= .returned (.int .i64 (qI b p))∧Mem w [] w':=by
 refine ba (args:=[_,_]) Tryz.func42 rfl Tryz.ntmps42 rfl ?_
 change Cw _ _ _ _ _ [(0, .int .i64 b),(1, .int .i64 p)] []
 refine Gc ?_
 refine Gs ?_
 refine Gc ?_
 iterate 3 refine Gs ?_
 iterate 2 refine Gg ?_
 iterate 2 refine Gs ?_
 iterate 2 refine Gg ?_
 iterate 2 refine Gs ?_
 iterate 2 refine Gg ?_
 refine Gs ?_
 refine Gc ?_
 refine au rfl (fun h0=> ?_) (fun h0=> ?_)
 ·
  replace h0:=bz h0
  have hE:qI b p=0:=if_pos (by omega)
  refine Gc ?_
  refine Gs ?_
  refine Gc ?_
  refine aq (.inl rfl) (aJ rfl (al rfl)) (fun w1 hw=> ?_)
  exact⟨congrArg (fun b=>Ending.returned (Value.int .i64 b)) (hE.symm),ah.mem hw⟩
 ·
  replace h0:=bz h0
  have hE:qI b p=(b -4)*p:=if_neg (by omega)
  have mg:0≤(b -4)*p:=Int.mul_nonneg (by omega) (by omega)
  have nE:(b -4)*p≤28*16:=Int.mul_le_mul (by omega) (by omega) (by omega) (by omega)
  refine Gc ?_
  iterate 3 refine Gs ?_
  refine ag (uQ rfl rfl (by omega)) ?_
  refine Gs ?_
  refine Gc ?_
  refine aq (.inl rfl) (aJ rfl (al rfl)) (fun w1 hw=> ?_)
  exact⟨congrArg (fun b=>Ending.returned (Value.int .i64 b)) (hE.symm),ah.mem hw⟩
instance ajc{w0:World}{L:List ai}{b:Int}{p:Int}:cI Tryz.prog 42 w0 L [.int .i64 b, .int .i64 p] (.int .i64 (qI b p)) (True):=⟨fun hp w hw=>Yw w b p⟩
theorem Yx(w:World)(v:bO)(it:Sl It)(hv:Deep.bb (hp w) v)(n0:Deep.bb (hp w) it):Calls Tryz.prog 86 #[.agg (bI v),it.sv.val] w fun e w'=>e= .returned (.bool (pP (vv v) (it.xs.map bt)))∧Mem w [] w':=by
 have z8:cm w v:=⟨hv⟩
 have Yy:cm w it:=⟨n0⟩
 have jc:=n0.1.bd
 have Dq:=hv.2.1.bd
 have eX:(it.xs.map bt).length=it.xs.length:=List.length_map _
 refine ba (args:=[_,_]) Tryz.func86 rfl Tryz.ntmps86 rfl ?_
 change Cw _ _ _ _ _ [(0, .agg (bI v)),(1,it.sv.val)] []
 refine Gc ?_
 refine bY rfl fun b2=> ?_
 refine Gs ?_
 refine Gc ?_
 refine MZ mS oW fun xU=> ?_
 refine Gs ?_
 refine Gc ?_
 iterate 3 refine Gs ?_
 refine Gc ?_
 refine cc (X:=Nat) (fun zz=>[(13, .int .i64 (zz:Nat)),(5, .map (some xU)),(2, .pointer (some ⟨b2,0,none⟩)),(11,it.sv.val),(12, .int .i64 (it.xs.length:Nat))]) (fun zz=>[omap Tryz.prog 3 mS oW xU (rJ ((it.xs.map bt).map Prod.fst) zz),ar b2 (bI v) 29]) (fun zz=>zz≤it.xs.length∧ ∀j,j<zz→rI (vv v) (it.xs.map bt) j=true) (fun zz=>it.xs.length -zz) 0 ⟨Nat.zero_le _,fun j hj=>by first|omega|(simp only[];omega)⟩ (Sub.cons rfl (Sub.cons rfl (Sub.cons rfl (Sub.cons rfl (Sub.cons rfl (Sub.nil _)))))) (fun w hw=>by
  rw[←Up];exact ah.mem hw) ?_
 rintro i ⟨bj,aH⟩
 refine Gc ?_
 refine Gs ?_
 refine Gc ?_
 refine au rfl (fun h0=> ?_) (fun h0=> ?_)
 ·
  replace h0:=bz h0
  obtain⟨z,hz⟩:=get_some (xs:=it.xs) (i:=i) (by omega)
  have ue:Mb z it:=⟨List.mem_of_getElem? hz⟩
  have ux:(it.xs.map bt)[i]? =Option.some (bt z):=by rw[List.getElem?_map,hz];rfl
  have vV:(it.xs.map bt).getD i (0,[])=bt z:=by simp[List.getD,ux]
  have Yz:((it.xs.map bt).map Prod.fst)[i]? =Option.some z.id:=by rw[List.getElem?_map,ux];rfl
  have zo:(rI (vv v) (it.xs.map bt) i)=(rH (vv v) (bt z)&& !(((it.xs.map bt).map Prod.fst).take i).contains z.id):=by rw[rI,vV,List.map_take];rfl
  have iF:(rI (vv v) (it.xs.map bt) i)=false→pP (vv v) (it.xs.map bt)=false:=fun h=>by
   cases rQ:pP (vv v) (it.xs.map bt)with
   |false=>rfl
   |true=>have:=zQ.1 rQ i (by omega);rw[h]at this;cases this
  have jC:rH (vv v) (bt z)=true↔0≤z.id∧z.id<v.at_.xs.length∧(z.body.xs.length:Int)≤dC v.ae.size:=by
   rw[rH,Bool.and_eq_true,Bool.and_eq_true,decide_eq_true_eq,decide_eq_true_eq,decide_eq_true_eq,and_assoc];rfl
  refine Gc ?_
  refine ag (bk rfl rfl i rfl (by omega)) ?_
  refine ag (gR rfl i hz rfl) ?_
  have Xg:Mb z it:=⟨List.mem_of_getElem? hz⟩
  refine bH fun b7=> ?_
  refine Gs ?_
  refine Gc ?_
  refine hG (by kernel_rfl) (by kernel_rfl) ?_
  iterate 4 refine Gq ?_
  iterate 6 refine Gh ?_
  iterate 2 refine Gq ?_
  iterate 4 refine Gh ?_
  refine ja rfl rfl rfl (fun hg=>(Ry.yl (aI (o':=1) (aG hg rfl) rfl))) ?_
  refine Gh ?_
  refine ja rfl rfl rfl (fun hg=>cE (dy (aG hg rfl) gB) trivial) ?_
  refine Gh ?_
  refine Gq ?_
  refine Gc ?_
  refine au rfl (fun h1=> ?_) (fun h1=> ?_)
  ·
   replace h1:=bz h1
   have hE:pP (vv v) (it.xs.map bt)=false:=iF (by
    have: ¬rH (vv v) (bt z)=true:=fun h=>by have:=jC.1 h;omega
    rw[zo,show rH (vv v) (bt z)=false by simpa using this];rfl)
   refine Gc ?_
   refine Gs ?_
   refine Gc ?_
   refine aq (.inl rfl) (aJ rfl (al rfl)) (fun w1 hw=> ?_)
   exact⟨congrArg (fun b=>Ending.returned (Value.bool b)) (hE.symm),ah.mem hw⟩
  ·
   replace h1:=bz h1
   have lT:rH (vv v) (bt z)=true:=jC.2 ⟨by omega,by omega,by omega⟩
   have uk:=G2 (n:=z.id) (by omega)
   refine Gc ?_
   iterate 3 refine Gs ?_
   refine ag (GM (db:=mS) (et:=oW) (f:=rJ ((it.xs.map bt).map Prod.fst) i) (v:=z.id) (z:=()) rfl rfl uk) ?_
   refine Gs ?_
   refine ag (aU (v:= .agg #[]) rfl rfl) ?_
   refine ag (aU (v:= .bool ((rJ ((it.xs.map bt).map Prod.fst) i z.id).isSome)) rfl rfl) ?_
   refine bH fun b8=> ?_
   iterate 2 refine Gs ?_
   refine Gc ?_
   refine Gs ?_
   refine Gc ?_
   refine au rfl (fun h2=> ?_) (fun h2=> ?_)
   ·
    replace h2:=bz h2
    have hE:pP (vv v) (it.xs.map bt)=false:=iF (by
     rw[L5]at h2
     rw[zo,lT,List.contains_eq_mem,h2];rfl)
    refine Gc ?_
    refine Gs ?_
    refine Gc ?_
    refine aq (.inl rfl) (aJ rfl (al rfl)) (fun w1 hw=> ?_)
    exact⟨congrArg (fun b=>Ending.returned (Value.bool b)) (hE.symm),ah.mem hw⟩
   ·
    replace h2:=bz h2
    have bR:(rI (vv v) (it.xs.map bt) i)=true:=by
     rw[L5]at h2
     rw[zo,lT,List.contains_eq_mem,h2];rfl
    have eS:=Uq Yz
    refine Gc ?_
    iterate 3 refine Gs ?_
    refine ag (cS (v:= .agg #[]) rfl (fun w=>by kernel_rfl)) ?_
    refine GN (db:=mS) (et:=oW) (v:=z.id) (u:=()) rfl rfl rfl uk ?_
    refine Gc ?_
    iterate 2 refine Gs ?_
    refine Gi ?_
    exact bA (x:=(i)) (i+1) ⟨by first|omega|(simp only[];omega),fun j hj=>if e:j=i then e▸bR else aH j (by first|omega|(simp only[];omega))⟩ (by first|omega|(simp only[];omega)) (Sub.cons rfl (Sub.cons rfl (Sub.cons rfl (Sub.cons rfl (Sub.cons rfl (Sub.nil _)))))) (fun w hw=>by
     rw[←eS];exact ah.mem hw)
 ·
  replace h0:=bz h0
  obtain rfl:i=it.xs.length:=by omega
  have hE:pP (vv v) (it.xs.map bt)=true:=zQ.2 fun j hj=>aH j (by omega)
  refine Gc ?_
  refine Gs ?_
  refine Gc ?_
  refine aq (.inl rfl) (aJ rfl (al rfl)) (fun w1 hw=> ?_)
  exact⟨congrArg (fun b=>Ending.returned (Value.bool b)) (hE.symm),ah.mem hw⟩
instance ajd{w0:World}{L:List ai}{v:bO}{it:Sl It}[hv:aW w0 L v][n0:aW w0 L it]:cI Tryz.prog 86 w0 L [.agg (bI v),it.sv.val] (.bool (pP (vv v) (it.xs.map bt))) (True):=⟨fun hp w hw=>Yx w v it (hv.h w hw) (n0.h w hw)⟩
theorem NC(v:bO)(w:World):(Instr.build 141 #[(0, .agg (bI v))]).run Tryz.prog w= .ok (.agg (aM ⟨v,false⟩)) w:=by
 obtain⟨⟨a1,a2,⟨a3,a4⟩,a5,a6,⟨a7,a8⟩⟩,⟨s,xs⟩,g,l⟩:=v
 unfold bI aM
 obtain⟨e,b,o,l,c,p⟩:=s
 obtain⟨e3,b3,o3,l3,c3,p3⟩:=a3
 obtain⟨e7,b7,o7,l7,c7,p7⟩:=a7
 cases e<;>cases e3<;>cases e7<;>kernel_rfl
theorem Au(c:Cp)(w:World):(Instr.build 29 #[(0, .agg (aD c))]).run Tryz.prog w= .ok (.agg (bI ⟨c,⟨Sv.none,[]⟩,0,0⟩)) w:=by
 obtain⟨a1,a2,⟨a3,a4⟩,a5,a6,⟨a7,a8⟩⟩:=c
 unfold bI aD
 obtain⟨e3,b3,o3,l3,c3,p3⟩:=a3
 obtain⟨e7,b7,o7,l7,c7,p7⟩:=a7
 cases e3<;>cases e7<;>kernel_rfl
theorem Av{w0 w:World}{L:List ai}(h:Mem w0 L w):Mem w0 (fz (⟨Sv.none,[]⟩:Sl Int)::L) w:=vp (a:=⟨Sv.none,[]⟩) (Mem.dZ bK 1 h)
theorem ND{w0 w:World}{c:Cp}{a:Sl Int}(h:Mem w0 [fz c,own bK 1 a.sv a.xs] w):Mem w0 [fz c,fz a] w:=ah.mem (vp (ah.mem h:Mem w0 [own bK 1 a.sv a.xs,fz c] w))
theorem YA(w:World)(v:bO)(it:Sl It)(hv:Deep.bb (hp w) v)(n0:Deep.bb (hp w) it)(bc:dW v.ae∧v.at_.xs.length≤1000000∧it.xs.length≤1000000):Calls Tryz.prog 41 #[.agg (bI v),it.sv.val] w fun e w'=> ∃zz:Cp×Sl Int×UInt64×Int,e= .returned (.tuple #[.agg (bI (⟨zz.1,zz.2.1,zz.2.2.1,zz.2.2.2⟩:bO)), .int .i64 ((fy (vv v) (it.xs.map bt)).2)])∧((⟨cv zz.1,zz.2.1.xs,zz.2.2.1.toNat,zz.2.2.2⟩:VV)=(fy (vv v) (it.xs.map bt)).1)∧Mem w [fz zz.1,fz zz.2.1] w':=by
 have z8:cm w v:=⟨hv⟩
 have Yy:cm w it:=⟨n0⟩
 obtain⟨lH,dJ,eX⟩:=bc
 refine ba (args:=[_,_]) Tryz.func41 rfl Tryz.ntmps41 rfl ?_
 change Cw _ _ _ _ _ [(0, .agg (bI v)),(1,it.sv.val)] []
 refine Gc ?_
 refine bY rfl fun b2=> ?_
 refine bH fun b4=> ?_
 refine Gs ?_
 refine Gc ?_
 iterate 4 refine Gs ?_
 iterate 3 refine Gg ?_
 iterate 2 refine Gs ?_
 refine bM rfl rfl rfl (fun hg=>(Ry.yl (eJ rfl))) ?_
 refine Gg ?_
 refine bM rfl rfl rfl (fun hg=>cE (dy (aG hg rfl) (dy (aG hg rfl) gB)) trivial) ?_
 refine bM rfl rfl rfl (fun hg=>(Ry.yl (iq (aG hg rfl)))) ?_
 refine Gs ?_
 refine Gc ?_
 refine au rfl (fun h0=> ?_) (fun h0=> ?_)
 ·
  replace h0:=bz h0
  have hE:(fy (vv v) (it.xs.map bt))=(vv v,1):=by
   rw[fy,if_pos]
   rintro⟨g1,g2,g3⟩
   rcases h0 with(h|h)|h
   ·
    rw[g1]at h;cases h
   ·
    change v.gen.toNat<_ at g2;omega
   ·
    rw[g3]at h;cases h
  refine Gc ?_
  refine Gs ?_
  refine bo rfl ⟨lH,dJ⟩ fun ug GV=> ?_
  iterate 2 refine Gs ?_
  refine Gc ?_
  refine aq (.inl rfl) (bq rfl (cf rfl) (al rfl)) (fun w1 hw=> ?_)
  exact⟨(ug.1,⟨ug.2,v.at_.xs⟩,v.gen,v.last),by rw[hE],by rw[hE,GV];rfl,ND (ah.mem hw)⟩
 ·
  replace h0:=bz h0
  have hq:kI (vv v)=true∧(vv v).gen<281474976710655∧pP (vv v) (it.xs.map bt)=true:=⟨h0.1.1,by show v.gen.toNat<_;omega,h0.2⟩
  have HC:cV (⟨vv v,false⟩:WV):=CL hq.1
  have yf: ∀x∈it.xs,0≤x.id∧x.id<v.at_.xs.length:=fun x hx=>by
   obtain⟨j,hj⟩:=List.getElem?_of_mem hx
   have ux:(it.xs.map bt)[j]? =Option.some (bt x):=by rw[List.getElem?_map,hj];rfl
   have hg:=zQ.1 hq.2.2 j (by rw[List.length_map];exact(List.getElem?_eq_some_iff.1 hj).1)
   rw[rI,show(it.xs.map bt).getD j (0,[])=bt x by simp[List.getD,ux],Bool.and_eq_true,rH,Bool.and_eq_true,Bool.and_eq_true,decide_eq_true_eq,decide_eq_true_eq]at hg
   exact⟨hg.1.1.1,hg.1.1.2⟩
  have dz:(cv v.ae).blocks.length=v.ae.blocks.xs.length:=fB _
  refine Gc ?_
  iterate 3 refine Gs ?_
  refine Gc ?_
  refine au rfl (fun h1=> ?_) (fun h1=> ?_)
  ·
   replace h1:=bz h1
   have hE:(fy (vv v) (it.xs.map bt))=(vv v,7):=by rw[fy,if_neg (fun h=>h hq),if_pos (show(vv v).ae.off=true from h1)]
   refine Gc ?_
   refine Gs ?_
   refine bo rfl ⟨lH,dJ⟩ fun xH GQ=> ?_
   iterate 2 refine Gs ?_
   refine Gc ?_
   refine aq (.inl rfl) (bq rfl (cf rfl) (al rfl)) (fun w1 hw=> ?_)
   exact⟨(xH.1,⟨xH.2,v.at_.xs⟩,v.gen,v.last),by rw[hE],by rw[hE,GQ];rfl,ND (ah.mem hw)⟩
  ·
   replace h1:=bz h1
   have hE:(fy (vv v) (it.xs.map bt))=((nA (v.ae.blocks.xs.length+1) (⟨vv v,false⟩:WV) (it.xs.map bt)).1.v,(nA (v.ae.blocks.xs.length+1) (⟨vv v,false⟩:WV) (it.xs.map bt)).2):=by rw[fy,if_neg (fun h=>h hq),if_neg (show ¬(vv v).ae.off=true by rw[show(vv v).ae.off=v.ae.off from rfl,h1];simp)];rw[show(vv v).ae.blocks.length=v.ae.blocks.xs.length from dz]
   refine Gc ?_
   refine Gs ?_
   refine bo rfl ⟨lH,dJ⟩ fun lj s9=> ?_
   refine ag (cS (v:= .agg (aM (⟨⟨lj.1,⟨lj.2,v.at_.xs⟩,v.gen,v.last⟩,false⟩:aR))) rfl (NC _)) ?_
   refine bY rfl fun jS=> ?_
   refine Gs ?_
   refine Gc ?_
   refine cc (X:=Nat×Cp×Sl Int×UInt64×Int×Bool) (fun zz=>[(6, .pointer (some ⟨jS,0,none⟩)),(1,it.sv.val),(4, .pointer (some ⟨b4,0,none⟩))]) (fun zz=>[ar jS (aM (⟨⟨zz.2.1,zz.2.2.1,zz.2.2.2.1,zz.2.2.2.2.1⟩,zz.2.2.2.2.2⟩:aR)) 141,fz zz.2.1,fz zz.2.2.1,ar b4 (bI k9) 29]) (fun zz=>(nA (v.ae.blocks.xs.length+1) (⟨vv v,false⟩:WV) (it.xs.map bt))=nA zz.1 (⟨⟨cv zz.2.1,zz.2.2.1.xs,zz.2.2.2.1.toNat,zz.2.2.2.2.1⟩,zz.2.2.2.2.2⟩:WV) (it.xs.map bt)∧cV (⟨⟨cv zz.2.1,zz.2.2.1.xs,zz.2.2.2.1.toNat,zz.2.2.2.2.1⟩,zz.2.2.2.2.2⟩:WV)∧zz.2.2.1.xs.length=v.at_.xs.length∧dx (cv v.ae) (cv zz.2.1)∧v.ae.blocks.xs.length<zz.1+lC (cv zz.2.1)) (fun zz=>zz.1) (v.ae.blocks.xs.length+1,lj.1,⟨lj.2,v.at_.xs⟩,v.gen,v.last,false) ⟨by rw[s9];rfl,by rw[s9];exact HC,rfl,by rw[s9];exact .cZ _,by simp only;omega⟩ (Sub.cons rfl (Sub.cons rfl (Sub.cons rfl (Sub.nil _)))) (fun w hw=>ah.mem (vp (a:=(⟨lj.2,v.at_.xs⟩:Sl Int)) (ah.mem hw:Mem _ [own bK 1 lj.2 v.at_.xs,ar jS (aM (⟨⟨lj.1,⟨lj.2,v.at_.xs⟩,v.gen,v.last⟩,false⟩:aR)) 141,fz lj.1,ar b4 (bI k9) 29] _))) ?_
   rintro⟨n,c,a,g,q,y⟩ ⟨bj,aH,bG,di,Al⟩
   dsimp only
   simp only at bj aH bG di Al
   have NF:=L4 (cv c)
   have hlc:(cv c).blocks.length=(cv v.ae).blocks.length:=di.len
   have xB:a.xs.length≤64:=aH.j6
   have YB: ∀x∈it.xs,0≤x.id∧x.id<a.xs.length∧x.id<64:=fun x hx=>by have:=yf x hx;omega
   obtain⟨r,rfl⟩: ∃r,n=r+1:=⟨n -1,by omega⟩
   refine Gc ?_
   iterate 3 refine Gs ?_
   refine Gc ?_
   iterate 2 refine Gs ?_
   refine bo rfl ⟨aH,eX,YB⟩ fun lK ur=> ?_
   have hb:=Gk (l:=(it.xs.map bt)) aH
   rw[←ur]at hb
   refine Gs ?_
   refine Gc ?_
   iterate 3 refine Gs ?_
   refine Gg ?_
   refine g9 rfl rfl rfl (fun hg=>cE (dy (aG hg rfl) gB) trivial) ?_
   iterate 2 refine Gg ?_
   refine Gs ?_
   refine Gc ?_
   refine au rfl (fun h2=> ?_) (fun h2=> ?_)
   ·
    replace h2:=bz h2
    have fg:(gJ (⟨⟨cv c,a.xs,g.toNat,q⟩,y⟩:WV) (it.xs.map bt)).2=5∧lC (cv c)<lC (gJ (⟨⟨cv c,a.xs,g.toNat,q⟩,y⟩:WV) (it.xs.map bt)).1.v.ae:=⟨h2.1,by rw[←ur];show lC (cv c)<lC (cv lK.1);omega⟩
    iterate 3 refine Gi ?_
    exact bA (x:=(r+1,c,a,g,q,y)) (r,lK.1,lK.2.1,lK.2.2.1,lK.2.2.2.1,lK.2.2.2.2) ⟨by rw[bj,nA,if_pos fg,←ur],hb.ok,hb.vC.trans bG,di.trans hb.bT,by have:=fg.2;rw[←ur]at this;change lC (cv c)<lC (cv lK.1)at this;simp only;omega⟩ (by simp only;omega) (Sub.cons rfl (Sub.cons rfl (Sub.cons rfl (Sub.nil _)))) (fun w hw=>ah.mem hw)
   ·
    replace h2:=bz h2
    have fg: ¬((gJ (⟨⟨cv c,a.xs,g.toNat,q⟩,y⟩:WV) (it.xs.map bt)).2=5∧lC (cv c)<lC (gJ (⟨⟨cv c,a.xs,g.toNat,q⟩,y⟩:WV) (it.xs.map bt)).1.v.ae):=by
     rw[←ur]
     rintro⟨ga,gb⟩
     change lC (cv c)<lC (cv lK.1)at gb
     rcases h2 with h|h
     ·
      exact h ga
     ·
      omega
    have Dr:(nA (v.ae.blocks.xs.length+1) (⟨vv v,false⟩:WV) (it.xs.map bt))=gJ (⟨⟨cv c,a.xs,g.toNat,q⟩,y⟩:WV) (it.xs.map bt):=by rw[bj,nA,if_neg fg]
    refine Gc ?_
    iterate 3 refine Gs ?_
    refine ag (Ry.to (v':= .agg (bI (⟨lK.1,lK.2.1,lK.2.2.1,lK.2.2.2.1⟩:bO))) (gD rfl) rfl) ?_
    iterate 3 refine Gs ?_
    refine Gc ?_
    refine aq (.inl rfl) (bq rfl (cf rfl) (al rfl)) (fun w1 hw=> ?_)
    exact⟨(lK.1,lK.2.1,lK.2.2.1,lK.2.2.2.1),by rw[hE,Dr],by rw[hE,Dr,←ur],ah.mem hw⟩
instance aje{w0:World}{L:List ai}{v:bO}{it:Sl It}[hv:aW w0 L v][n0:aW w0 L it]:cn Tryz.prog 41 w0 L [.agg (bI v),it.sv.val] (Cp×Sl Int×UInt64×Int) (fun zz=> .tuple #[.agg (bI (⟨zz.1,zz.2.1,zz.2.2.1,zz.2.2.2⟩:bO)), .int .i64 ((fy (vv v) (it.xs.map bt)).2)]) (fun zz=>fz zz.1::fz zz.2.1::L) (fun zz=>(⟨cv zz.1,zz.2.1.xs,zz.2.2.1.toNat,zz.2.2.2⟩:VV)=(fy (vv v) (it.xs.map bt)).1) (dW v.ae∧v.at_.xs.length≤1000000∧it.xs.length≤1000000):=⟨fun hp w hw=>(YA w v it (hv.h w hw) (n0.h w hw) hp).mono fun e w' ⟨x,h1,h2,h3⟩=>⟨x,h1,h2,hw.call h3⟩⟩
theorem YC(w:World)(c:Cp)(n:Int)(hc:Deep.bb (hp w) c)(bc:dW c):Calls Tryz.prog 40 #[.agg (aD c), .int .i64 n] w fun e w'=> ∃zz:Cp×Sl Int×UInt64×Int,e= .returned (.tuple #[.agg (bI (⟨zz.1,zz.2.1,zz.2.2.1,zz.2.2.2⟩:bO)), .int .i64 ((gX (cv c) n).2)])∧((⟨cv zz.1,zz.2.1.xs,zz.2.2.1.toNat,zz.2.2.2⟩:VV)=(gX (cv c) n).1)∧Mem w [fz zz.1,fz zz.2.1] w':=by
 have ke:cm w c:=⟨hc⟩
 have lH:dW c:=bc
 refine ba (args:=[_,_]) Tryz.func40 rfl Tryz.ntmps40 rfl ?_
 change Cw _ _ _ _ _ [(0, .agg (aD c)),(1, .int .i64 n)] []
 refine Gc ?_
 refine bY rfl fun b2=> ?_
 refine bH fun b4=> ?_
 refine Gs ?_
 refine Gc ?_
 iterate 4 refine Gs ?_
 iterate 2 refine Gg ?_
 iterate 2 refine Gs ?_
 iterate 3 refine Gg ?_
 refine bM rfl rfl rfl (fun hg=>cE (dy (aG hg rfl) gB) trivial) ?_
 refine Gg ?_
 refine Gs ?_
 refine Gc ?_
 refine au rfl (fun h0=> ?_) (fun h0=> ?_)
 ·
  replace h0:=bz h0
  have hE:(gX (cv c) n)=(⟨cv c,[],0,0⟩,1):=by
   rw[gX,if_pos]
   rintro⟨g1,g2,g3⟩
   rcases h0 with(h|h)|h
   ·
    rw[g1]at h;cases h
   ·
    omega
   ·
    change _≤jd c.size at g3;omega
  refine Gc ?_
  refine Gs ?_
  refine bo rfl (by assumption) fun mP C7=> ?_
  refine ag (cS (v:= .agg (bI (⟨mP,⟨Sv.none,[]⟩,0,0⟩:bO))) rfl (Au mP)) ?_
  iterate 2 refine Gs ?_
  refine Gc ?_
  refine aq (.inl rfl) (bq rfl (cf rfl) (al rfl)) (fun w1 hw=> ?_)
  exact⟨(mP,⟨Sv.none,[]⟩,0,0),by rw[hE],by rw[hE,C7];rfl,ah.mem (Av (ah.mem hw:Mem w [fz mP] _))⟩
 ·
  replace h0:=bz h0
  have hq:fF (cv c)=true∧1≤n∧n≤jd (cv c).size:=⟨h0.1.1,by omega,by show n≤jd c.size;omega⟩
  obtain⟨e1,e2,e3,e4⟩:=ft.1 hq.1
  have sB:=Ui (cv c).size
  have HC:cV (⟨⟨cv c,[],0,0⟩,false⟩:WV):=⟨e1,e2,e3,e4, .inl rfl,(by show(0:Nat)<_;omega),(fun n hn=>by cases hn),(by show(0:Nat)≤64;omega)⟩
  refine Gc ?_
  iterate 2 refine Gs ?_
  refine Gc ?_
  refine au rfl (fun h1=> ?_) (fun h1=> ?_)
  ·
   replace h1:=bz h1
   have hE:(gX (cv c) n)=(⟨cv c,[],0,0⟩,7):=by rw[gX,if_neg (fun h=>h hq),if_pos (show(cv c).off=true from h1)]
   refine Gc ?_
   refine Gs ?_
   refine bo rfl (by assumption) fun dB mU=> ?_
   refine ag (cS (v:= .agg (bI (⟨dB,⟨Sv.none,[]⟩,0,0⟩:bO))) rfl (Au dB)) ?_
   iterate 2 refine Gs ?_
   refine Gc ?_
   refine aq (.inl rfl) (bq rfl (cf rfl) (al rfl)) (fun w1 hw=> ?_)
   exact⟨(dB,⟨Sv.none,[]⟩,0,0),by rw[hE],by rw[hE,mU];rfl,ah.mem (Av (ah.mem hw:Mem w [fz dB] _))⟩
  ·
   replace h1:=bz h1
   have BX:(gX (cv c) n)=(if(jN (cv c) n).2≠0 then(⟨(jN (cv c) n).1.v.ae,[],0,0⟩,(jN (cv c) n).2)else((jN (cv c) n).1.v,0)):=by rw[gX,if_neg (fun h=>h hq),if_neg (show ¬(cv c).off=true by rw[show(cv c).off=c.off from rfl,h1];simp)]
   refine Gc ?_
   refine Gs ?_
   refine bo rfl (by assumption) fun lj s9=> ?_
   refine ag (cS (v:= .agg (bI (⟨lj,⟨Sv.none,[]⟩,0,0⟩:bO))) rfl (Au lj)) ?_
   refine ag (cS (v:= .agg (aM (⟨(⟨lj,⟨Sv.none,[]⟩,0,0⟩:bO),false⟩:aR))) rfl (NC _)) ?_
   refine bY rfl fun Aw=> ?_
   refine Gs ?_
   iterate 4 refine Gi ?_
   refine rl [ar Aw (aM (⟨⟨lj,⟨Sv.none,[]⟩,0,0⟩,false⟩:aR)) 141,fz lj,fz (⟨Sv.none,[]⟩:Sl Int),ar b4 (bI k9) 29] (fun w hw=>ah.mem (Av (ah.mem hw:Mem _ [ar Aw (aM (⟨⟨lj,⟨Sv.none,[]⟩,0,0⟩,false⟩:aR)) 141,fz lj,ar b4 (bI k9) 29] _))) ?_
   refine Gi ?_
   iterate 2 refine Gs ?_
   refine bo rfl ⟨by rw[s9];exact HC,by omega,by omega⟩ fun ll NG=> ?_
   have xB:(⟨⟨cv ll.1,ll.2.1.xs,ll.2.2.1.toNat,ll.2.2.2⟩,false⟩:WV)=(jN (cv c) n).1:=by rw[NG,jN,←s9];rfl
   refine Gs ?_
   refine Gc ?_
   iterate 2 refine Gs ?_
   refine Gc ?_
   refine au rfl (fun h2=> ?_) (fun h2=> ?_)
   ·
    replace h2:=bz h2
    have hE:(gX (cv c) n)=(⟨(jN (cv c) n).1.v.ae,[],0,0⟩,(jN (cv c) n).2):=by rw[BX,if_pos (by rw[jN,←s9];exact h2)]
    refine Gc ?_
    iterate 4 refine Gs ?_
    refine ag (Ry.to (v':= .agg (aD ll.1)) (gD rfl) rfl) ?_
    refine ag (cS (v:= .agg (bI (⟨ll.1,⟨Sv.none,[]⟩,0,0⟩:bO))) rfl (Au ll.1)) ?_
    iterate 3 refine Gs ?_
    refine Gc ?_
    refine aq (.inl rfl) (bq rfl (cf rfl) (al rfl)) (fun w1 hw=> ?_)
    exact⟨(ll.1,⟨Sv.none,[]⟩,0,0),by rw[hE,jN,←s9];rfl,by rw[hE,←xB];rfl,ah.mem (Av (ah.mem hw:Mem w [fz ll.1] _))⟩
   ·
    replace h2:=bz h2
    have hE:(gX (cv c) n)=((jN (cv c) n).1.v,0):=by rw[BX,if_neg (by rw[jN,←s9];exact fun h=>h h2)]
    refine Gc ?_
    iterate 3 refine Gs ?_
    refine ag (Ry.to (v':= .agg (bI (⟨ll.1,ll.2.1,ll.2.2.1,ll.2.2.2⟩:bO))) (gD rfl) rfl) ?_
    iterate 2 refine Gs ?_
    refine Gc ?_
    refine aq (.inl rfl) (bq rfl (cf rfl) (al rfl)) (fun w1 hw=> ?_)
    exact⟨(ll.1,ll.2.1,ll.2.2.1,ll.2.2.2),by rw[hE],by rw[hE,←xB],ah.mem hw⟩
instance ajf{w0:World}{L:List ai}{c:Cp}{n:Int}[hc:aW w0 L c]:cn Tryz.prog 40 w0 L [.agg (aD c), .int .i64 n] (Cp×Sl Int×UInt64×Int) (fun zz=> .tuple #[.agg (bI (⟨zz.1,zz.2.1,zz.2.2.1,zz.2.2.2⟩:bO)), .int .i64 ((gX (cv c) n).2)]) (fun zz=>fz zz.1::fz zz.2.1::L) (fun zz=>(⟨cv zz.1,zz.2.1.xs,zz.2.2.1.toNat,zz.2.2.2⟩:VV)=(gX (cv c) n).1) (dW c):=⟨fun hp w hw=>(YC w c n (hc.h w hw) hp).mono fun e w' ⟨x,h1,h2,h3⟩=>⟨x,h1,h2,hw.call h3⟩⟩
open Go.aA Go.Kb
theorem ajg(w:World)(n many:Nat)(hn:n<2^64)(hm:1≤many∧many≤8):Calls Tryz.prog 156 #[.int .u64 (n:Nat), .int .i64 (many:Nat)] w fun e w'=> ∃s:Sv,e= .returned s.val∧s.Ok∧s.len=many∧Mem w [own aN 1 s (be n many)] w':=by
 refine ba (args:=[_,_]) Tryz.func156 rfl Tryz.ntmps156 rfl ?_
 change Cw _ _ _ _ _ [(0, .int .u64 (n:Nat)),(1, .int .i64 (many:Nat))] []
 refine aP ?_
 refine aZ ?_
 refine ag (bp rfl) ?_
 refine aY ?_
 refine aO ?_
 refine aP ?_
 refine aZ ?_
 refine ag (bp rfl) ?_
 refine aY ?_
 refine aO ?_
 refine aP ?_
 refine aP ?_
 refine aZ ?_
 refine ag (aE rfl) ?_
 refine ag (ck rfl rfl rfl) ?_
 refine ag (aE rfl) ?_
 refine bM rfl rfl rfl (fun hg=>(aE rfl).yl) ?_
 refine bM rfl rfl rfl (fun hg=>(ck (aG hg rfl) rfl rfl).yl) ?_
 refine ag (mY rfl rfl rfl) ?_
 refine aY ?_
 refine aO ?_
 refine au rfl (fun h0=> ?_) (fun h0=> ?_)
 ·
  exfalso;simp at h0;omega
 ·
  refine gf ?_
  refine aO ?_
  refine aP ?_
  refine aP ?_
  refine aZ ?_
  refine ag (bp rfl) ?_
  refine aY ?_
  refine aO ?_
  refine lR ?_
  refine cc (X:=Nat×Sv) (fun x=>[(0, .int .u64 (n/256^x.1:Nat)),(1, .int .i64 (many:Nat)),(6, .int .i64 (x.1:Nat)),(5,x.2.val)]) (fun x=>[own aN 1 x.2 (be n x.1)]) (fun x=>x.1≤many∧x.2.Ok∧x.2.len=x.1) (fun x=>many -x.1) (0,Sv.none) ⟨by omega,Sv.wE,rfl⟩ (Sub.cons (look_eq rfl (by simp)) (Sub.cons rfl (Sub.cons rfl (Sub.cons rfl (Sub.nil _))))) (fun w hw=>hw.dZ aN 1) ?_
  rintro⟨i,s⟩ ⟨bj,aH,bG⟩
  refine aP ?_
  refine aP ?_
  refine aZ ?_
  refine ag (aE rfl) ?_
  refine ag (aE rfl) ?_
  refine ag (ck rfl rfl rfl) ?_
  refine aY ?_
  refine aO ?_
  refine au rfl (fun h1=> ?_) (fun h1=> ?_)
  ·
   simp only[decide_eq_true_eq]at h1
   refine gf ?_
   refine aO ?_
   refine aP ?_
   refine lR ?_
   refine aP ?_
   refine aZ ?_
   refine ag (aE rfl) ?_
   refine ag (y5 rfl rfl rfl rfl (by decide)) ?_
   refine ag (wK rfl rfl) ?_
   refine pv (enc:=aN) [b8 (n/256^i)] (vals:=[_]) rfl (by rw[Jv];rfl) rfl (by decide) (by decide) fun uf=> ?_
   refine ag (aE rfl) ?_
   refine my (ys:=be n i) rfl rfl (by decide) (fun w hw=>kW Tryz.underlying38 (by decide) ((inferInstance:fJ _ s _ _ _ _).holds w hw)) (by simp[iv];omega) (by simp[iv];omega) fun YD YE YF=> ?_
   refine ag (bp rfl) ?_
   refine aY ?_
   refine aO ?_
   refine aZ ?_
   refine ag (aE rfl) ?_
   refine ag (Ro rfl rfl rfl rfl (Nat.lt_of_le_of_lt (Nat.div_le_self _ _) hn) (by decide)) ?_
   refine ag (bp rfl) ?_
   refine aY ?_
   refine pq ?_
   refine aO ?_
   refine aZ ?_
   refine ag (aE rfl) ?_
   refine ag (qf rfl rfl (by omega)) ?_
   refine ag (bp rfl) ?_
   refine aY ?_
   exact bA (i+1,YD) ⟨by omega,YE,YF.trans (by simp[iv])⟩ (by omega) (Sub.cons (look_eq rfl (by rw[Nat.div_div_eq_div_mul,Nat.pow_succ])) (Sub.cons rfl (Sub.cons rfl (Sub.cons rfl (Sub.nil _))))) (fun w hw=>hw.sub (List.Sublist.cons_cons _ (List.nil_sublist _)))
  ·
   simp only[decide_eq_false_iff_not]at h1
   refine sj ?_
   refine mr ?_
   refine mr ?_
   refine sk ?_
   refine aO ?_
   refine aP ?_
   refine aZ ?_
   refine ag (aE rfl) ?_
   refine ag (bp rfl) ?_
   refine aY ?_
   refine aO ?_
   refine eK ?_
   refine aq (.inl rfl) (kA rfl rfl) (fun w hw=> ?_)
   exact⟨s,rfl,aH,(show s.len=i from bG).trans (by omega),by rwa [show i=many by omega]at hw⟩
theorem YG(a b:Int):pj Tryz.prog 57 [.int .i64 a, .int .i64 b] (.int .i64 (iC a b)):=⟨fun w=>by
 refine ba (args:=[_,_]) Tryz.func57 rfl Tryz.ntmps57 rfl ?_
 change Cw _ _ _ _ _ [(0, .int .i64 a),(1, .int .i64 b)] []
 refine aP ?_
 refine aZ ?_
 refine ag (bp rfl) ?_
 refine aY ?_
 refine aO ?_
 refine aP ?_
 refine aP ?_
 refine aZ ?_
 refine ag (aE rfl) ?_
 refine ag (ck rfl rfl rfl) ?_
 refine ag (aE rfl) ?_
 refine bM rfl rfl rfl (fun hg=>(aE rfl).yl) ?_
 refine bM rfl rfl rfl (fun hg=>(ck (aG hg rfl) rfl rfl).yl) ?_
 refine ag (mY rfl rfl rfl) ?_
 refine ag (aE rfl) ?_
 refine bM rfl rfl rfl (fun hg=>(aE rfl).yl) ?_
 refine bM rfl rfl rfl (fun hg=>(ck (aG hg rfl) rfl rfl).yl) ?_
 refine ag (mY rfl rfl rfl) ?_
 refine ag (aE rfl) ?_
 refine bM rfl rfl rfl (fun hg=>(aE rfl).yl) ?_
 refine bM rfl rfl rfl (fun hg=>(ck (aG hg rfl) rfl rfl).yl) ?_
 refine ag (mY rfl rfl rfl) ?_
 refine aY ?_
 refine aO ?_
 refine au rfl (fun h0=> ?_) (fun h0=> ?_)
 ·
  simp only[Bool.or_eq_true,decide_eq_true_eq]at h0
  refine aP ?_
  refine aZ ?_
  refine ag (bp rfl) ?_
  refine aY ?_
  refine aO ?_
  refine eK ?_
  refine fm ?_
  refine aq (.inl rfl) (kA rfl rfl) (fun w hw=> ?_)
  exact⟨congrArg (fun b=>Ending.returned (Value.int .i64 b)) ((if_pos (by omega)).symm),hw.sub (List.nil_sublist _)⟩
 ·
  simp only[Bool.or_eq_false_iff,decide_eq_false_iff_not]at h0
  have hq:b/20≤12:=by omega
  have Aa:0≤b/20:=by omega
  have hm:a*(b/20)≤64*12:=Int.mul_le_mul (by omega) hq Aa (by decide)
  have mg:0≤a*(b/20):=Int.mul_nonneg (by omega) Aa
  refine gf ?_
  refine aO ?_
  refine aP ?_
  refine aZ ?_
  refine ag (aE rfl) ?_
  refine ag (aE rfl) ?_
  refine ag (oB rfl rfl (by omega) (by omega)) ?_
  refine ag (uQ rfl rfl (by omega)) ?_
  refine ag (Er rfl rfl) ?_
  refine ag (bp rfl) ?_
  refine aY ?_
  refine aO ?_
  refine eK ?_
  refine aq (.inl rfl) (kA rfl rfl) (fun w hw=> ?_)
  exact⟨congrArg (fun b=>Ending.returned (Value.int .i64 b)) ((if_neg (by omega)).symm),hw.sub (List.nil_sublist _)⟩⟩
instance ajh(a b:Int):pj Tryz.prog 57 [.int .i64 a, .int .i64 b] (.int .i64 (iC a b)):=YG a b
open Go.aA Go.Kb
def Ax:Array Value:=Array.replicate 20 (.int .u8 0)
theorem qR:Ax.size=20:=by simp[Ax]
instance:fk Tryz.prog 197 (.agg Ax):=⟨by kernel_rfl⟩
theorem NH(k:Key):(cT k).all (·.oneCell')=true:=(inferInstance:gm (cT k) 16).one
theorem YH(w0 w:World)(L:List ai)(s:Sv)(xs:List UInt8)(r:Rt)(hw:Mem w0 (own aN 1 s xs::L) w)(hl:xs.length≤1000000):Calls Tryz.prog 113 #[s.val, .agg (ax r)] w fun e w'=> ∃s':Sv,e= .returned s'.val∧s'.Ok∧s'.len=xs.length+20∧Mem w0 (own aN 1 s' (xs++eP r)::L) w':=by
 refine kB (args:=[_,_]) Tryz.func113 rfl Tryz.ntmps113 rfl hw ?_
 change Cw _ _ _ _ _ [(0,s.val),(1, .agg (ax r))] (own aN 1 s xs::L)
 refine aP ?_
 refine aZ ?_
 refine bY rfl fun b3=> ?_
 refine ag (bp rfl) ?_
 refine aY ?_
 refine aO ?_
 refine aP ?_
 refine aZ ?_
 refine bH fun b5=> ?_
 refine aY ?_
 refine aO ?_
 refine aP ?_
 refine aP ?_
 refine aZ ?_
 refine ag (aI (o':=0) rfl rfl) ?_
 refine ag (aI (o':=0) rfl rfl) ?_
 refine ag (bJ rfl) ?_
 refine ag (ck rfl rfl rfl) ?_
 refine aY ?_
 refine aO ?_
 refine au rfl (fun h0=> ?_) (fun h0=> ?_)
 ·
  simp only[decide_eq_true_eq]at h0
  refine aZ ?_
  refine ag (sf rfl rfl (by omega) (by omega)) ?_
  refine eV rfl rfl (by simp[qR]) rfl rfl ?_
  refine aY ?_
  refine aO ?_
  refine aP ?_
  refine aZ ?_
  refine ag (aI (o':=0) rfl rfl) ?_
  refine ag (aI (o':=1) rfl rfl) ?_
  refine ag (bJ rfl) ?_
  refine ag (sg rfl (xi _)) ?_
  refine ag (sf rfl rfl (by omega) (by omega)) ?_
  refine eV rfl rfl (by simp[qR]) rfl rfl ?_
  refine aY ?_
  refine aO ?_
  refine aP ?_
  refine uV 4 [] (by kernel_rfl) (by kernel_rfl) ?_
  simp only[List.take_succ_cons,List.take_zero]
  refine bf (Jk rfl rfl (by decide) (by decide)) ?_
  refine bf (aI (o':=0) rfl rfl) ?_
  refine bf (aI (o':=2) rfl rfl) ?_
  refine bf (uR rfl) ?_
  refine tm ?_
  refine tn ?_
  simp only[List.drop_succ_cons,List.drop_zero]
  refine Ev (vs:=cT r.p.key) rfl rfl (by rw[gS];rfl) (fun w hw j hj=>by rw[Addr.gC,hw.cell (i:=1) rfl];exact(oH r (2+j) (by rw[gS]at hj;omega)).trans (ql r.p j)) (NH _) (by simp[gS,qR]) rfl ?_
  refine aY ?_
  refine aO ?_
  refine aP ?_
  refine aZ ?_
  refine ag (aI (o':=18) rfl rfl) ?_
  refine ag (bJ rfl) ?_
  refine ag (uT (p:=r.dK.toNat) rfl rfl (Nat.lt_of_lt_of_le r.dK.toNat_lt (by decide)) (by decide)) ?_
  refine ag (wK (n:=r.dK.toNat/256) rfl rfl) ?_
  refine ag (sf rfl rfl (by omega) (by omega)) ?_
  refine eV rfl rfl (by simp[m9,gS,qR]) rfl rfl ?_
  refine aY ?_
  refine aO ?_
  refine aP ?_
  refine aZ ?_
  refine ag (aI (o':=18) rfl rfl) ?_
  refine ag (bJ rfl) ?_
  refine ag (wK (n:=r.dK.toNat) rfl rfl) ?_
  refine ag (sf rfl rfl (by omega) (by omega)) ?_
  refine eV rfl rfl (by simp[m9,gS,qR]) rfl rfl ?_
  refine aY ?_
  refine aO ?_
  refine aP ?_
  refine aZ ?_
  refine ag (aE rfl) ?_
  refine ag (uR rfl) ?_
  refine my (ys:=eP r) rfl rfl (by decide) (fun w hw=>kW (s:=⟨false,b5,0,20,20,none⟩) Tryz.underlying38 (by decide) (BA (K2 r (by simp[qR]) (by simp[Ax,h0])) (oN r) (by decide) w hw)) (by rw[oN];omega) (by rw[oN];omega) fun HD HE HF=> ?_
  refine ag (bp rfl) ?_
  refine aY ?_
  refine aO ?_
  refine eK ?_
  refine aq (.inl rfl) (kA rfl rfl) (fun w hw=> ?_)
  exact⟨HD,rfl,HE,HF.trans (by rw[List.length_append,oN]),hw.sub (List.Sublist.cons _ (List.Sublist.cons _ (List.Sublist.refl _)))⟩
 ·
  simp only[decide_eq_false_iff_not]at h0
  refine gf ?_
  refine aO ?_
  refine aP ?_
  refine aZ ?_
  refine ag (aI (o':=0) rfl rfl) ?_
  refine ag (aI (o':=1) rfl rfl) ?_
  refine ag (bJ rfl) ?_
  refine ag (sg rfl (xi _)) ?_
  refine ag (sf rfl rfl (by omega) (by omega)) ?_
  refine eV rfl rfl (by simp[qR]) rfl rfl ?_
  refine aY ?_
  refine aO ?_
  refine aP ?_
  refine uV 4 [] (by kernel_rfl) (by kernel_rfl) ?_
  simp only[List.take_succ_cons,List.take_zero]
  refine bf (Jk rfl rfl (by decide) (by decide)) ?_
  refine bf (aI (o':=0) rfl rfl) ?_
  refine bf (aI (o':=2) rfl rfl) ?_
  refine bf (uR rfl) ?_
  refine tm ?_
  refine tn ?_
  simp only[List.drop_succ_cons,List.drop_zero]
  refine Ev (vs:=cT r.p.key) rfl rfl (by rw[gS];rfl) (fun w hw j hj=>by rw[Addr.gC,hw.cell (i:=1) rfl];exact(oH r (2+j) (by rw[gS]at hj;omega)).trans (ql r.p j)) (NH _) (by simp[gS,qR]) rfl ?_
  refine aY ?_
  refine aO ?_
  refine aP ?_
  refine aZ ?_
  refine ag (aI (o':=18) rfl rfl) ?_
  refine ag (bJ rfl) ?_
  refine ag (uT (p:=r.dK.toNat) rfl rfl (Nat.lt_of_lt_of_le r.dK.toNat_lt (by decide)) (by decide)) ?_
  refine ag (wK (n:=r.dK.toNat/256) rfl rfl) ?_
  refine ag (sf rfl rfl (by omega) (by omega)) ?_
  refine eV rfl rfl (by simp[m9,gS,qR]) rfl rfl ?_
  refine aY ?_
  refine aO ?_
  refine aP ?_
  refine aZ ?_
  refine ag (aI (o':=18) rfl rfl) ?_
  refine ag (bJ rfl) ?_
  refine ag (wK (n:=r.dK.toNat) rfl rfl) ?_
  refine ag (sf rfl rfl (by omega) (by omega)) ?_
  refine eV rfl rfl (by simp[m9,gS,qR]) rfl rfl ?_
  refine aY ?_
  refine aO ?_
  refine aP ?_
  refine aZ ?_
  refine ag (aE rfl) ?_
  refine ag (uR rfl) ?_
  refine my (ys:=eP r) rfl rfl (by decide) (fun w hw=>kW (s:=⟨false,b5,0,20,20,none⟩) Tryz.underlying38 (by decide) (BA (K2 r (by simp[qR]) (by simp[Ax,h0])) (oN r) (by decide) w hw)) (by rw[oN];omega) (by rw[oN];omega) fun HD HE HF=> ?_
  refine ag (bp rfl) ?_
  refine aY ?_
  refine aO ?_
  refine eK ?_
  refine aq (.inl rfl) (kA rfl rfl) (fun w hw=> ?_)
  exact⟨HD,rfl,HE,HF.trans (by rw[List.length_append,oN]),hw.sub (List.Sublist.cons _ (List.Sublist.cons _ (List.Sublist.refl _)))⟩
open Go.aA Go.Kb
theorem YI(w:World)(s:Sv)(xs:List Rt)(hs:bQ ax 19 (hp w) s xs):Calls Tryz.prog 39 #[s.val] w fun e w'=>e= .returned (.bool (cr xs))∧Mem w [] w':=by
 refine ba (args:=[_]) Tryz.func39 rfl Tryz.ntmps39 rfl ?_
 change Cw _ _ _ _ _ [(0,s.val)] []
 refine aP ?_
 refine aZ ?_
 refine ag (bp rfl) ?_
 refine aY ?_
 refine aO ?_
 refine aP ?_
 refine aP ?_
 refine aZ ?_
 refine ag (aE rfl) ?_
 refine ag (tt rfl hs.ok hs.len) ?_
 refine ag (ck rfl rfl rfl) ?_
 refine aY ?_
 refine aO ?_
 refine au rfl (fun h0=> ?_) (fun h0=> ?_)
 ·
  simp only[decide_eq_true_eq]at h0
  refine aP ?_
  refine aZ ?_
  refine ag (bp rfl) ?_
  refine aY ?_
  refine aO ?_
  refine eK ?_
  refine fm ?_
  refine aq (.inl rfl) (kA rfl rfl) (fun w hw=> ?_)
  exact⟨congrArg (fun b=>Ending.returned (Value.bool b)) ((JT (by omega)).symm),hw.sub (List.nil_sublist _)⟩
 ·
  simp only[decide_eq_false_iff_not]at h0
  refine gf ?_
  refine aO ?_
  refine aP ?_
  refine aP ?_
  refine aZ ?_
  refine ag (aE rfl) ?_
  refine ag (tt rfl hs.ok hs.len) ?_
  refine ag (aE rfl) ?_
  refine aY ?_
  refine aO ?_
  refine lR ?_
  refine cc (X:=Nat) (fun i=>[(10, .int .i64 (i:Nat)),(9, .int .i64 (xs.length:Nat)),(8,s.val),(0,s.val)]) (fun i=>[]) (fun i=>i≤xs.length∧qn xs i=true) (fun i=>xs.length -i) 0 ⟨by omega,JS xs⟩ (Sub.cons rfl (Sub.cons rfl (Sub.cons rfl (Sub.cons rfl (Sub.nil _))))) (fun w hw=>hw) ?_
  rintro i ⟨bj,aH⟩
  refine aP ?_
  refine aZ ?_
  refine ag (ck rfl rfl rfl) ?_
  refine aY ?_
  refine aO ?_
  refine aP ?_
  refine au rfl (fun h1=> ?_) (fun h1=> ?_)
  ·
   simp only[decide_eq_true_eq]at h1
   have bu:i<xs.length:=by omega
   obtain⟨r,hr⟩:=get_some bu
   obtain⟨q,hq⟩:=get_some (xs:=xs) (i:=i -1) (by omega)
   refine gf ?_
   refine aO ?_
   refine aP ?_
   refine lR ?_
   refine aP ?_
   refine aZ ?_
   refine ag (aE rfl) ?_
   refine ag (lS rfl rfl rfl hs.ok (by rw[hs.len];omega)) ?_
   refine ag (Bw rfl (yY hs) hr rfl) ?_
   refine bH fun b4=> ?_
   refine ag (bp rfl) ?_
   refine rb rfl rfl ?_
   refine aY ?_
   refine aO ?_
   refine aP ?_
   refine aP ?_
   refine aZ ?_
   refine ag (aI (o':=0) rfl rfl) ?_
   refine ag (gD rfl) ?_
   refine fH (wy rfl) ?_
   refine ag (iq rfl) ?_
   refine aY ?_
   refine aO ?_
   refine au rfl (fun h2=> ?_) (fun h2=> ?_)
   ·
    refine aP ?_
    refine aZ ?_
    refine ag (bp rfl) ?_
    refine aY ?_
    refine aO ?_
    refine eK ?_
    refine fm ?_
    refine m0 ?_
    refine fm ?_
    refine fm ?_
    refine m0 ?_
    refine fm ?_
    refine aq (.inl rfl) (kA rfl rfl) (fun w hw=> ?_)
    exact⟨congrArg (fun b=>Ending.returned (Value.bool b)) ((BK bu (JV hr (by simpa using h2))).symm),hw.sub (List.nil_sublist _)⟩
   ·
    refine gf ?_
    refine aO ?_
    refine aP ?_
    refine hG (by kernel_rfl) (by kernel_rfl) ?_
    refine bf (aE rfl) ?_
    refine bf (ck rfl rfl rfl) ?_
    refine bf (aE rfl) ?_
    refine fI rfl rfl rfl (fun hg=>(aE rfl).yl) ?_
    refine fI rfl rfl rfl (fun hg=>(aE rfl).yl) ?_
    refine fI rfl rfl rfl (fun hg=>(yQ (aG hg rfl) rfl (by omega)).yl) ?_
    refine fI rfl rfl rfl (fun hg=>(lS (i:=i -1) (aG hg rfl) (aG hg rfl) (by have:=of_decide_eq_true hg;omega) hs.ok (by rw[hs.len];omega)).yl) ?_
    refine fI rfl rfl rfl (fun hg=>(aI (aG hg rfl) rfl).yl) ?_
    refine fI rfl rfl rfl (fun hg=>(Jq (j:=0) (aG hg rfl) (yY hs) hq rfl (by decide)).yl) ?_
    refine fI rfl rfl rfl (fun hg=>(aI (o':=0) rfl rfl).yl) ?_
    refine fI rfl rfl rfl (fun hg=>(gD (aG hg rfl)).yl) ?_
    refine fI rfl rfl rfl (fun hg=>wy (dy (aG hg rfl) (dy (aG hg rfl) gB))) ?_
    refine fI rfl rfl rfl (fun hg=>(iq (aG hg rfl)).yl) ?_
    refine bf (yO rfl rfl rfl) ?_
    refine wA ?_
    refine aO ?_
    refine au rfl (fun h3=> ?_) (fun h3=> ?_)
    ·
     refine aP ?_
     refine aZ ?_
     refine ag (bp rfl) ?_
     refine aY ?_
     refine aO ?_
     refine eK ?_
     refine m0 ?_
     refine fm ?_
     refine fm ?_
     refine m0 ?_
     refine fm ?_
     refine aq (.inl rfl) (kA rfl rfl) (fun w hw=> ?_)
     exact⟨congrArg (fun b=>Ending.returned (Value.bool b)) ((BK bu (by rw[JW hr hq,h3];simp)).symm),hw.sub (List.nil_sublist _)⟩
    ·
     refine gf ?_
     refine pq ?_
     refine aO ?_
     refine aZ ?_
     refine ag (qf rfl rfl (by omega)) ?_
     refine ag (aE rfl) ?_
     refine aY ?_
     exact bA (i+1) ⟨by omega,by rw[EP,aH,JW hr hq,h3];simpa using h2⟩ (by omega) (Sub.cons rfl (Sub.cons rfl (Sub.cons rfl (Sub.cons rfl (Sub.nil _))))) (fun w hw=>hw.sub (List.nil_sublist _))
  ·
   simp only[decide_eq_false_iff_not]at h1
   refine sj ?_
   refine mr ?_
   refine mr ?_
   refine sk ?_
   refine aO ?_
   refine aP ?_
   refine aZ ?_
   refine ag (bp rfl) ?_
   refine aY ?_
   refine aO ?_
   refine eK ?_
   refine aq (.inl rfl) (kA rfl rfl) (fun w hw=> ?_)
   exact⟨congrArg (fun b=>Ending.returned (Value.bool b)) ((JU (by omega) (by rwa [show i=xs.length by omega]at aH)).symm),hw.sub (List.nil_sublist _)⟩
theorem YJ(w:World)(s t:Sv)(xs ys:List Rt)(hs:bQ ax 19 (hp w) s xs)(ht:bQ ax 19 (hp w) t ys)(hb:xs.length<9223372036854775807):Calls Tryz.prog 36 #[s.val,t.val] w fun e w'=>e= .returned (.bool (decide (xs=ys)))∧Mem w [] w':=by
 refine ba (args:=[_,_]) Tryz.func36 rfl Tryz.ntmps36 rfl ?_
 change Cw _ _ _ _ _ [(0,s.val),(1,t.val)] []
 refine aP ?_
 refine aZ ?_
 refine ag (bp rfl) ?_
 refine aY ?_
 refine aO ?_
 refine aP ?_
 refine aP ?_
 refine aZ ?_
 refine ag (aE rfl) ?_
 refine ag (tt rfl hs.ok hs.len) ?_
 refine ag (aE rfl) ?_
 refine ag (tt rfl ht.ok ht.len) ?_
 refine ag (ck rfl rfl rfl) ?_
 refine aY ?_
 refine aO ?_
 refine au rfl (fun h0=> ?_) (fun h0=> ?_)
 ·
  simp only[Bool.not_eq_true',decide_eq_false_iff_not]at h0
  refine aP ?_
  refine aZ ?_
  refine ag (bp rfl) ?_
  refine aY ?_
  refine aO ?_
  refine eK ?_
  refine fm ?_
  refine aq (.inl rfl) (kA rfl rfl) (fun w hw=> ?_)
  exact⟨congrArg (fun b=>Ending.returned (Value.bool b)) ((decide_eq_false (fun e=>h0 (by rw[e]))).symm),hw.sub (List.nil_sublist _)⟩
 ·
  simp only[Bool.not_eq_false',decide_eq_true_eq]at h0
  refine gf ?_
  refine aO ?_
  refine aP ?_
  refine aP ?_
  refine aZ ?_
  refine ag (bp rfl) ?_
  refine aY ?_
  refine aO ?_
  refine lR ?_
  refine cc (X:=Nat) (fun i=>[(5, .int .i64 (i:Nat)),(0,s.val),(1,t.val)]) (fun i=>[]) (fun i=>i≤xs.length∧ ∀j,j<i→xs[j]? =ys[j]?) (fun i=>xs.length -i) 0 ⟨by omega,fun j h=>by omega⟩ (Sub.cons rfl (Sub.cons rfl (Sub.cons rfl (Sub.nil _)))) (fun w hw=>hw) ?_
  rintro i ⟨bj,aH⟩
  refine aP ?_
  refine aP ?_
  refine aZ ?_
  refine ag (aE rfl) ?_
  refine ag (aE rfl) ?_
  refine ag (tt rfl hs.ok hs.len) ?_
  refine ag (ck rfl rfl rfl) ?_
  refine aY ?_
  refine aO ?_
  refine au rfl (fun h1=> ?_) (fun h1=> ?_)
  ·
   simp only[decide_eq_true_eq]at h1
   obtain⟨r,hr⟩:=get_some (xs:=xs) (i:=i) (by omega)
   obtain⟨q,hq⟩:=get_some (xs:=ys) (i:=i) (by omega)
   refine gf ?_
   refine aO ?_
   refine aP ?_
   refine lR ?_
   refine aP ?_
   refine hG (by kernel_rfl) (by kernel_rfl) ?_
   refine bf (aE rfl) ?_
   refine bf (aE rfl) ?_
   refine bf (lS rfl rfl rfl hs.ok (by rw[hs.len];omega)) ?_
   refine bf (Bw rfl (yY hs) hr rfl) ?_
   refine bf (aE rfl) ?_
   refine bf (aE rfl) ?_
   refine bf (lS rfl rfl rfl ht.ok (by rw[ht.len];omega)) ?_
   refine bf (Bw rfl (yY ht) hq rfl) ?_
   refine bf (Ep rfl rfl) ?_
   refine wA ?_
   refine aO ?_
   refine au rfl (fun h2=> ?_) (fun h2=> ?_)
   ·
    refine aP ?_
    refine aZ ?_
    refine ag (bp rfl) ?_
    refine aY ?_
    refine aO ?_
    refine eK ?_
    refine m0 ?_
    refine fm ?_
    refine fm ?_
    refine m0 ?_
    refine fm ?_
    refine aq (.inl rfl) (kA rfl rfl) (fun w hw=> ?_)
    exact⟨congrArg (fun b=>Ending.returned (Value.bool b)) ((decide_eq_false (RY hr hq (by simpa using h2))).symm),hw.sub (List.nil_sublist _)⟩
   ·
    refine gf ?_
    refine pq ?_
    refine aO ?_
    refine aZ ?_
    refine ag (aE rfl) ?_
    refine ag (qf rfl rfl (by omega)) ?_
    refine ag (bp rfl) ?_
    refine aY ?_
    exact bA (i+1) ⟨by omega,fun j hj=>if e:j=i then(by subst e;rw[hr,hq];simpa using h2)else aH j (by omega)⟩ (by omega) (Sub.cons rfl (Sub.cons rfl (Sub.cons rfl (Sub.nil _)))) (fun w hw=>hw)
  ·
   simp only[decide_eq_false_iff_not]at h1
   refine sj ?_
   refine mr ?_
   refine mr ?_
   refine sk ?_
   refine aO ?_
   refine aP ?_
   refine aZ ?_
   refine ag (bp rfl) ?_
   refine aY ?_
   refine aO ?_
   refine eK ?_
   refine aq (.inl rfl) (kA rfl rfl) (fun w hw=> ?_)
   exact⟨congrArg (fun b=>Ending.returned (Value.bool b)) ((decide_eq_true (RZ (by omega) (fun j hj=>aH j (by omega)))).symm),hw.sub (List.nil_sublist _)⟩
open Go.aA Go.Kb
instance aji{w0:World}{L:List ai}{s:Sv}{ss:List Rt}[h:df w0 L ax 19 s ss]:cI Tryz.prog 39 w0 L [s.val] (.bool (cr ss)) True:=⟨fun _ w hw=>YI w s ss (h.h w hw)⟩
instance ajj{w0:World}{L:List ai}{s t:Sv}{ss ts:List Rt}[h:df w0 L ax 19 s ss][h2:df w0 L ax 19 t ts]:cI Tryz.prog 36 w0 L [s.val,t.val] (.bool (decide (ss=ts))) (ss.length<9223372036854775807):=⟨fun hp w hw=>YJ w s t ss ts (h.h w hw) (h2.h w hw) hp⟩
open Go.aA Go.Kb
instance:bD da 18:=⟨oG,fun p=>(inferInstance:gm (da p) 18).one⟩
theorem YK(w:World)(b2 b3:Nat)(s:Sv)(ss:List Rt)(q:cJ)(j:Nat)(h2:bQ rj 1 (hp w) ⟨false,b2,0,1,1,none⟩ [s])(h3:bQ da 18 (hp w) ⟨false,b3,0,1,1,none⟩ [q])(hs:bQ ax 19 (hp w) s ss)(hj:j<ss.length):Calls Tryz.prog 118 #[.int .i64 (j:Nat), .pointer (some ⟨b2,0,none⟩), .pointer (some ⟨b3,0,none⟩)] w fun e w'=>e= .returned (.bool (behind ss q j))∧Mem w [] w':=by
 have g2:Gv w ⟨false,b2,0,1,1,none⟩ rj 1 [s]:=⟨h2⟩
 have g3:Gv w ⟨false,b3,0,1,1,none⟩ da 18 [q]:=⟨h3⟩
 have gs:Gv w s ax 19 ss:=⟨hs⟩
 refine ba (args:=[_,_,_]) Tryz.func118 rfl Tryz.ntmps118 rfl ?_
 change Cw _ _ _ _ _ [(0, .int .i64 (j:Nat)),(1, .pointer (some ⟨b2,0,none⟩)),(2, .pointer (some ⟨b3,0,none⟩))] []
 refine Gc ?_
 refine Gs ?_
 refine Gc ?_
 refine hG (by kernel_rfl) (by kernel_rfl) ?_
 refine bf (bP (s:=⟨false,b2,0,1,1,none⟩) (enc:=rj) (c:=1) (xs:=[s]) (a:=s) (j:=0) (v:=s.val) rfl 0 rfl rfl (by decide)) ?_
 refine Gq ?_
 obtain⟨r,hr⟩:=get_some (xs:=ss) (i:=j) (by omega)
 refine bf (bk rfl rfl j rfl (by omega)) ?_
 refine bf (aI rfl rfl) ?_
 refine bf (JA (j:=0) rfl j hr rfl (by decide)) ?_
 refine bf (gR (s:=⟨false,b3,0,1,1,none⟩) (enc:=da) (c:=18) (xs:=[q]) (a:=q) rfl 0 rfl rfl) ?_
 refine tp (cE rfl trivial) ?_
 iterate 2 refine Gq ?_
 refine Gc ?_
 refine aq (.inl rfl) (aJ rfl (al rfl)) (fun w1 hw=> ?_)
 exact⟨congrArg (fun b=>Ending.returned (Value.bool b)) ((by simp only[behind,hr])),ah.mem hw⟩
theorem YL(w:World)(n:Nat)(p:Nat→Bool)(f:FuncId)[hf:aS Tryz.prog f](kb:Array Value)(hF: ∀w',Mem w [] w'→ ∀j:Nat,j<n→Calls Tryz.prog f ([Value.int .i64 (j:Nat)]++kb.toList).toArray w' fun e oy=>e= .returned (.bool (p j))∧Mem w' [] oy)(hn:n≤1000000000):Calls Tryz.prog 117 #[.int .i64 (n:Nat), .func (.func f) #[] kb] w fun e w'=>e= .returned (.int .i64 (bs p n:Nat))∧Mem w [] w':=by
 refine ba (args:=[_,_]) Tryz.func117 rfl Tryz.ntmps117 rfl ?_
 change Cw _ _ _ _ _ [(0, .int .i64 (n:Nat)),(1, .func (.func f) #[] kb)] []
 refine Gc ?_
 refine Gs ?_
 refine Gc ?_
 iterate 3 refine Gs ?_
 refine Gc ?_
 refine cc (X:=Nat×Nat) (fun zz=>[(5, .int .i64 (zz.1:Nat)),(6, .int .i64 (zz.2:Nat)),(1, .func (.func f) #[] kb)]) (fun zz=>[]) (fun zz=>zz.1≤zz.2∧zz.2≤n∧kO p (n+1) zz.1 zz.2=bs p n) (fun zz=>zz.2 -zz.1) (0,n) ⟨Nat.zero_le _,Nat.le_refl _,rfl⟩ (Sub.cons rfl (Sub.cons rfl (Sub.cons rfl (Sub.nil _)))) (fun w hw=>ah.mem hw) ?_
 rintro⟨i,j⟩ ⟨bj,aH,bG⟩
 dsimp only
 simp only at bj aH bG
 refine Gc ?_
 iterate 3 refine Gs ?_
 refine Gc ?_
 refine au rfl (fun h0=> ?_) (fun h0=> ?_)
 ·
  replace h0:=bz h0
  refine Gc ?_
  iterate 3 refine Gs ?_
  refine ag (qg (n:=i+j) rfl (by simp only[nb];omega)) ?_
  refine ag (uT (p:=i+j) rfl rfl (by simp only[nb];omega) (by omega)) ?_
  refine ag (qg (n:=(i+j)/2^1) rfl (by simp only[nb];omega)) ?_
  refine Gs ?_
  refine Gc ?_
  iterate 2 refine Gs ?_
  refine fH (C5 rfl rfl (fun w1 mq=>hF w1 mq ((i+j)/2) (by omega))) ?_
  refine Gs ?_
  refine Gc ?_
  refine au rfl (fun h1=> ?_) (fun h1=> ?_)
  ·
   replace h1:=bz h1
   refine Gi ?_
   iterate 3 refine Gs ?_
   iterate 2 refine Gi ?_
   exact bA (x:=(i,j)) ((i+j)/2+1,j) ⟨by first|omega|(simp only[];omega),aH,by rw[←bG,Mj (show i<j by first|omega|(simp only[];omega)) (by first|omega|(simp only[];omega)),if_neg (by rw[h1];simp)]⟩ (by simp only;omega) (Sub.cons rfl (Sub.cons rfl (Sub.cons rfl (Sub.nil _)))) (fun w hw=>ah.mem hw)
  ·
   replace h1:=bz h1
   refine Gi ?_
   iterate 2 refine Gs ?_
   iterate 2 refine Gi ?_
   exact bA (x:=(i,j)) (i,(i+j)/2) ⟨by first|omega|(simp only[];omega),by first|omega|(simp only[];omega),by rw[←bG,Mj (show i<j by first|omega|(simp only[];omega)) (by first|omega|(simp only[];omega)),if_pos h1]⟩ (by simp only;omega) (Sub.cons rfl (Sub.cons rfl (Sub.cons rfl (Sub.nil _)))) (fun w hw=>ah.mem hw)
 ·
  replace h0:=bz h0
  refine Gc ?_
  iterate 2 refine Gs ?_
  refine Gc ?_
  refine aq (.inl rfl) (aJ rfl (al rfl)) (fun w1 hw=> ?_)
  exact⟨congrArg (fun b=>Ending.returned (Value.int .i64 b)) ((by rw[←bG,UK (by omega) (by omega)])),ah.mem hw⟩
theorem YM(w:World)(t:Sv)(ts:List Rt)(p:cJ)(ht:bQ ax 19 (hp w) t ts)(bc:ts.length≤1000000):Calls Tryz.prog 80 #[t.val, .agg (da p)] w fun e w'=>e= .returned (.tuple #[.int .i64 ((cF ts p:Nat):Int), .bool (jw ts p)])∧Mem w [] w':=by
 have Db:Gv w t ax 19 ts:=⟨ht⟩
 refine ba (args:=[_,_]) Tryz.func80 rfl Tryz.ntmps80 rfl ?_
 change Cw _ _ _ _ _ [(0,t.val),(1, .agg (da p))] []
 refine Gc ?_
 refine Eu rfl fun b2=> ?_
 refine bY rfl fun b3=> ?_
 iterate 2 refine Gs ?_
 refine Gc ?_
 iterate 2 refine Gs ?_
 refine ag (GP (vs:=[.pointer (some ⟨b2,0,none⟩), .pointer (some ⟨b3,0,none⟩)]) rfl) ?_
 refine fH (Bn (v:= .int .i64 (cF ts p:Nat)) rfl (fun w1 mq=>YL (f:=118) w1 ts.length (behind ts p) #[.pointer (some ⟨b2,0,none⟩), .pointer (some ⟨b3,0,none⟩)] (fun w2 eR j hj=>YK w2 b2 b3 t ts p j ((BA (b:=b2) (cs:=t.val.cells) (enc:=rj) (xs:=[t]) (n:=1) (by rw[Sv.jm];rfl) rfl (by decide) w1 mq).mono eR.below) ((BA (b:=b3) (cs:=da p) (enc:=da) (c:=18) (xs:=[p]) (n:=1) (by simp[aL]) rfl (by decide) w1 mq).mono eR.below) (((inferInstance:Hd w _ t ax 19 ts).h w1 mq).mono eR.below) hj) (by omega))) ?_
 refine Gs ?_
 refine Gc ?_
 refine hG (by kernel_rfl) (by kernel_rfl) ?_
 iterate 6 refine Gq ?_
 refine fI rfl rfl rfl (fun hg=>(Ry.yl (bJ rfl))) ?_
 refine Gh ?_
 refine fI rfl rfl rfl (fun hg=>(Ry.yl (bk (aG hg rfl) (aG hg rfl) (cF ts p) rfl (by simp only[Z0,Z1,Z2,Z3,Z4,Z5,Z6,Z7,Z8,Z9]at hg;omega)))) ?_
 refine fI rfl rfl rfl (fun hg=>(Ry.yl (aI (aG hg rfl) rfl))) ?_
 refine fI rfl rfl rfl (fun hg=>(Ry.yl (JA (j:=0) (aG hg rfl) (cF ts p) (oD (xs:=ts) (i:=(cF ts p)) (d:=fQ) (by simp only[Z0,Z1,Z2,Z3,Z4,Z5,Z6,Z7,Z8,Z9]at hg;omega)) rfl (by decide)))) ?_
 refine fI rfl rfl rfl (fun hg=>(Ry.yl (eJ rfl))) ?_
 refine fI rfl rfl rfl (fun hg=>(Ry.yl (Bp (aG hg rfl) (aG hg rfl)))) ?_
 iterate 3 refine Gq ?_
 refine Gc ?_
 refine aq (.inl rfl) (bq rfl (al rfl) (al rfl)) (fun w1 hw=> ?_)
 exact⟨(by rw[UM]),ah.mem hw⟩
instance ajk{w0:World}{L:List ai}{t:Sv}{ts:List Rt}{p:cJ}[ht:df w0 L ax 19 t ts]:cI Tryz.prog 80 w0 L [t.val, .agg (da p)] (.tuple #[.int .i64 ((cF ts p:Nat):Int), .bool (jw ts p)]) (ts.length≤1000000):=⟨fun hp w hw=>YM w t ts p (ht.h w hw) hp⟩
theorem YN(w:World)(t:Sv)(ts:List Rt)(k:Key)(bits:Int)(ht:bQ ax 19 (hp w) t ts):Calls Tryz.prog 37 #[t.val, .agg (cT k), .int .i64 bits] w fun e w'=>e= .returned (.tuple #[.agg (ax (lh ts k bits)), .int .i64 (mO ts k bits)])∧Mem w [] w':=by
 have Db:Gv w t ax 19 ts:=⟨ht⟩
 refine ba (args:=[_,_,_]) Tryz.func37 rfl Tryz.ntmps37 rfl ?_
 change Cw _ _ _ _ _ [(0,t.val),(1, .agg (cT k)),(2, .int .i64 bits)] []
 refine Gc ?_
 refine bY rfl fun b4=> ?_
 refine bH fun b6=> ?_
 refine Gs ?_
 refine Gc ?_
 iterate 4 refine Gs ?_
 iterate 2 refine Gg ?_
 refine bM rfl rfl rfl (fun hg=>(Ry.yl (eJ rfl))) ?_
 refine bM rfl rfl rfl (fun hg=>(Ry.yl (tl (yS (aG hg rfl) (yS (aG hg rfl) (yS (aG hg rfl) Jh)))))) ?_
 refine bM rfl rfl rfl (fun hg=>cE (dy (aG hg rfl) gB) trivial) ?_
 refine bM rfl rfl rfl (fun hg=>(Ry.yl (iq (aG hg rfl)))) ?_
 refine Gs ?_
 refine Gc ?_
 refine au rfl (fun h0=> ?_) (fun h0=> ?_)
 ·
  replace h0:=bz h0
  have hk:rL ts k bits=false:=by rw[rL];rcases h0 with h|h;rw[h];rfl;rw[h];simp
  refine Gc ?_
  refine ag (tl rfl) ?_
  iterate 2 refine Gs ?_
  refine Gc ?_
  refine aq (.inl rfl) (bq rfl (cf rfl) (al rfl)) (fun w1 hw=> ?_)
  exact⟨(by rw[lh,if_neg (by rw[hk];simp),mO,if_neg (by rw[hk];simp)]),ah.mem hw⟩
 ·
  replace h0:=bz h0
  have hr:cr ts=true:=by simpa using h0.1
  have hk:rL ts k bits=true:=by rw[rL,hr];simpa using h0.2
  have hlen:=B9 hr
  have hb:bits=32∨bits=128:=((pw _).1 (by simpa using h0.2:cq ⟨bits,bits,k⟩=true)).1
  refine Gc ?_
  iterate 2 refine Gs ?_
  refine Gc ?_
  refine cc (X:=Int) (fun zz=>[(8, .int .i64 zz),(0,t.val),(2, .int .i64 bits),(4, .pointer (some ⟨b4,0,none⟩)),(6, .pointer (some ⟨b6,0,none⟩))]) (fun zz=>[ar b6 (ax fQ) 68,ar b4 (cT k) 56]) (fun zz=> -1≤zz∧zz≤bits∧(zz<0→mN ts k bits bits.toNat=none)∧(∀m:Nat,zz=m→mN ts k bits bits.toNat=mN ts k bits m)) (fun zz=>(zz+1).toNat) bits ⟨by first|omega|(simp only[];omega),Int.le_refl _,fun h=>by first|omega|(simp only[];omega),fun m h=>by rw[h];rfl⟩ (Sub.cons rfl (Sub.cons rfl (Sub.cons rfl (Sub.cons rfl (Sub.cons rfl (Sub.nil _)))))) (fun w hw=>ah.mem hw) ?_
  rintro n ⟨uo,xK,ui,HG⟩
  refine Gc ?_
  iterate 2 refine Gs ?_
  refine Gc ?_
  refine au rfl (fun h1=> ?_) (fun h1=> ?_)
  ·
   replace h1:=bz h1
   obtain⟨m,rfl⟩: ∃m:Nat,n=(m:Int):=⟨n.toNat,by omega⟩
   refine Gc ?_
   iterate 5 refine Gs ?_
   refine ag (tl rfl) ?_
   refine bH fun b9=> ?_
   refine Gs ?_
   refine Gc ?_
   iterate 2 refine Gs ?_
   refine fH (cE rfl (by omega)) ?_
   refine Gs ?_
   refine ag (aU (v:= .int .i64 ((cF ts (⟨bits,((m:Nat):Int),(eu k ((m:Nat):Int))⟩:cJ):Nat):Int)) rfl rfl) ?_
   refine ag (aU (v:= .bool (jw ts (⟨bits,((m:Nat):Int),(eu k ((m:Nat):Int))⟩:cJ))) rfl rfl) ?_
   iterate 2 refine Gs ?_
   refine Gc ?_
   refine Gs ?_
   refine Gc ?_
   refine au rfl (fun h2=> ?_) (fun h2=> ?_)
   ·
    replace h2:=bz h2
    have Ds: ∃r,ts[cF ts ⟨bits,m,eu k m⟩]? =some r∧qK ts k bits m=some r:=by obtain⟨r,_,h8,_⟩:=tY h2;exact⟨r,h8,by rw[qK,if_pos h2,h8]⟩
    obtain⟨r,gL,Ac⟩:=Ds
    have ta:mN ts k bits bits.toNat=some r:=by rw[HG m rfl];cases m with|zero=>exact Ac|succ m=>rw[mN,Ac]
    refine Gc ?_
    iterate 2 refine Gs ?_
    refine ag (bk rfl rfl (cF ts ⟨bits,m,eu k m⟩) (by omega) (List.getElem?_eq_some_iff.1 gL).1) ?_
    refine ag (gR rfl (cF ts ⟨bits,m,eu k m⟩) gL rfl) ?_
    iterate 2 refine Gs ?_
    refine Gc ?_
    refine aq (.inl rfl) (bq rfl (cf rfl) (al rfl)) (fun w1 hw=> ?_)
    exact⟨(by rw[lh,if_pos hk,mO,if_pos hk,ta];rfl),ah.mem hw⟩
   ·
    replace h2:=bz h2
    have Ds:qK ts k bits m=none:=by rw[qK,if_neg (by rw[h2];simp)]
    refine Gc ?_
    iterate 3 refine Gs ?_
    refine Gi ?_
    exact bA (x:=((m:Nat):Int)) ((m:Int) -1) ⟨by first|omega|(simp only[];omega),by first|omega|(simp only[];omega),fun h=>by obtain rfl:m=0:=(by first|omega|(simp only[];omega));rw[HG 0 rfl];exact Ds,fun m2 h=>by obtain rfl:m=m2+1:=(by first|omega|(simp only[];omega));rw[HG _ rfl,mN,Ds]⟩ (by first|omega|(simp only[];omega)) (Sub.cons rfl (Sub.cons rfl (Sub.cons rfl (Sub.cons rfl (Sub.cons rfl (Sub.nil _)))))) (fun w hw=>ah.mem hw)
  ·
   replace h1:=bz h1
   have rU:mN ts k bits bits.toNat=none:=ui (by omega)
   refine Gc ?_
   refine ag (tl rfl) ?_
   iterate 2 refine Gs ?_
   refine Gc ?_
   refine aq (.inl rfl) (bq rfl (cf rfl) (al rfl)) (fun w1 hw=> ?_)
   exact⟨(by rw[lh,if_pos hk,mO,if_pos hk,rU];rfl),ah.mem hw⟩
instance ajl{w0:World}{L:List ai}{t:Sv}{ts:List Rt}{k:Key}{bits:Int}[ht:df w0 L ax 19 t ts]:cI Tryz.prog 37 w0 L [t.val, .agg (cT k), .int .i64 bits] (.tuple #[.agg (ax (lh ts k bits)), .int .i64 (mO ts k bits)]) (True):=⟨fun hp w hw=>YN w t ts k bits (ht.h w hw)⟩
open Go.aA Go.Kb
theorem YO(w:World)(s:Sv)(ss:List Rt)(hs:bQ ax 19 (hp w) s ss)(bc:ss.length≤1000000):Calls Tryz.prog 73 #[s.val] w fun e w'=> ∃zz:Sv,e= .returned (zz.val)∧(True)∧Mem w [own ax 19 zz ss] w':=by
 have vH:Gv w s ax 19 ss:=⟨hs⟩
 refine ba (args:=[_]) Tryz.func73 rfl Tryz.ntmps73 rfl ?_
 change Cw _ _ _ _ _ [(0,s.val)] []
 refine Gc ?_
 refine Gs ?_
 refine Gc ?_
 refine Gs ?_
 refine ag (sq Tryz.underlying52 rfl) ?_
 refine Gc ?_
 refine au rfl (fun h0=> ?_) (fun h0=> ?_)
 ·
  replace h0:=bz h0
  have e0:ss=[]:=List.length_eq_zero_iff.1 (by have:=hs.ok.nil h0;have:=hs.len;omega)
  refine Gc ?_
  refine Gs ?_
  refine Gc ?_
  refine aq (.inl rfl) (aJ rfl (al rfl)) (fun w1 hw=> ?_)
  exact⟨Sv.none,rfl,trivial,by rw[e0];exact(ah.mem hw:Mem w [] _).dZ ax 19⟩
 ·
  replace h0:=bz h0
  refine Gc ?_
  refine tC ax fun b5=> ?_
  refine Gs ?_
  refine my (s:=⟨false,b5,0,0,0,none⟩) (ys:=ss) rfl rfl (by decide) (fun w hw=>kW (s:=s) Tryz.underlying52 (by decide) ((inferInstance:Hd _ _ s ax 19 ss).h w hw)) (by simp only[List.length_append,List.length_cons,List.length_nil];omega) (by simp only[List.length_append,List.length_cons,List.length_nil];omega) fun s7 vI ub=> ?_
  refine Gs ?_
  refine Gc ?_
  refine aq (.inl rfl) (aJ rfl (al rfl)) (fun w1 hw=> ?_)
  exact⟨s7,rfl,trivial,by simpa using hw⟩
instance ajm{w0:World}{L:List ai}{s:Sv}{ss:List Rt}[hs:df w0 L ax 19 s ss]:cn Tryz.prog 73 w0 L [s.val] (Sv) (fun zz=>zz.val) (fun zz=>own ax 19 zz ss::L) (fun zz=>True) (ss.length≤1000000):=⟨fun hp w hw=>(YO w s ss (hs.h w hw) hp).mono fun e w' ⟨x,h1,h2,h3⟩=>⟨x,h1,h2,hw.call h3⟩⟩
open Go.aA Go.Kb
instance:Ks Tryz.prog 141 52 4:=⟨⟨Tryz.f141,Tryz.func141,by kernel_rfl,by kernel_rfl,by kernel_rfl,by kernel_rfl⟩⟩
theorem YP(w0 w:World)(L:List ai)(s:Sv)(ss:List Rt)(n:Nat)(m:Nat)(hw:Mem w0 (own ax 19 s ss::L) w)(bc:n≤m∧m≤ss.length):Calls Tryz.prog 111 #[s.val, .int .i64 (n:Nat), .int .i64 (m:Nat)] w fun e w'=> ∃zz:Sv,e= .returned (zz.val)∧(True)∧Mem w0 (own ax 19 zz (ss.take n++ss.drop m)::L) w':=by
 obtain⟨kP,je⟩:=bc
 refine kB (args:=[_,_,_]) Tryz.func111 rfl Tryz.ntmps111 rfl hw ?_
 change Cw _ _ _ _ _ [(0,s.val),(1, .int .i64 (n:Nat)),(2, .int .i64 (m:Nat))] (own ax 19 s ss::L)
 refine Gc ?_
 refine Gs ?_
 refine Gc ?_
 iterate 5 refine Gs ?_
 refine ag (Kq (l:=n) (h:=m) (m:=ss.length) rfl rfl rfl rfl rfl rfl rfl (by omega) (by omega) (by omega)) ?_
 refine Gc ?_
 iterate 3 refine Gs ?_
 refine Gc ?_
 refine au rfl (fun h0=> ?_) (fun h0=> ?_)
 ·
  replace h0:=bz h0
  obtain rfl:n=m:=by omega
  refine Gc ?_
  iterate 2 refine Gs ?_
  refine Gc ?_
  refine aq (.inl rfl) (aJ rfl (al rfl)) (fun w1 hw=> ?_)
  exact⟨s,rfl,trivial,by rw[List.take_append_drop];exact hw⟩
 ·
  replace h0:=bz h0
  iterate 3 refine Gi ?_
  refine Rv s fun ajn=> ?_
  have bu:n<m:=by omega
  refine Kl (s:=s) inferInstance (by decide) (by omega) fun pre mid T bX uY nh gE bR py=> ?_
  have hle:=bR.le
  have jc:=bR.bd
  have yi:(aL ax (ss.drop m)).length=(ss.length -m)*19:=by rw[hK,List.length_drop]
  have NI:(aL ax (ss.take n)).length=n*19:=by rw[hK,List.length_take];congr 1;omega
  have sO:(aL ax ss).length=ss.length*19:=hK ss
  have YQ:aL ax ss=aL ax (ss.take m)++aL ax (ss.drop m):=by rw[←vn,List.take_append_drop]
  have hlm:(aL ax (ss.take m)).length=m*19:=by rw[hK,List.length_take];congr 1;omega
  obtain⟨X,hX⟩: ∃X,aL ax ss=aL ax (ss.take n)++X:=⟨aL ax (ss.drop n),by rw[←vn,List.take_append_drop]⟩
  have hXl:n*19+X.length=ss.length*19:=by rw[←sO,hX,List.length_append,NI]
  obtain⟨r1,gL⟩: ∃r:Sv,r=(⟨false,s.b,s.o,n+(ss.length -m),s.cap,none⟩:Sv):=⟨_,rfl⟩
  refine Gi ?_
  refine Gs ?_
  refine ag (tt rfl bR py) ?_
  refine Gs ?_
  iterate 3 refine Gi ?_
  refine uV 6 [] (by kernel_rfl) (by kernel_rfl) ?_
  simp only[List.take_succ_cons,List.take_zero]
  iterate 2 refine Gq ?_
  have M5:Rg 0 n ss.length:=⟨by omega⟩
  refine bf (tu (h:=n) rfl rfl rfl bR (by omega)) ?_
  iterate 2 refine Gq ?_
  have W8:Rg m ss.length ss.length:=⟨by omega⟩
  refine bf (rh (l:=m) (n:=ss.length) rfl rfl rfl bR py (by omega)) ?_
  refine tm ?_
  refine tn ?_
  simp only[List.drop_succ_cons,List.drop_zero]
  refine SK (D:=s.sub 19 0 n) (S:=s.sub 19 m ss.length) (b:=s.b) (o:=s.o+n*19) (n:=ss.length -m) (vs:=aL ax (ss.drop m)) (R:=r1) (cs':=(pre++(aL ax (ss.take n)++(aL ax (ss.drop m)++(X++mid).drop (aL ax (ss.drop m)).length))).toArray) rfl rfl nh gE rfl (by rw[Sv.zr];rfl) nh gE rfl rfl yi (by show n -0+_≤s.cap -0;omega) (fun w hw j v hj=>by
   have jA:=(List.getElem?_eq_some_iff.1 hj).1
   rw[yi]at jA
   rw[Sv.tI (by omega)]
   show w.cell? ⟨s.b,_,none⟩=_
   rw[hw.cell (inferInstance:Has _ s.b _ _ _).h,List.getElem?_toArray,List.getElem?_append_right (by omega),List.getElem?_append_left (by omega),YQ,List.getElem?_append_right (by omega),←hj]
   congr 1;omega) (tv _) (by simp only[List.size_toArray,List.length_append];omega) (by rw[hX,List.append_assoc,←List.append_assoc pre,wX (by rw[List.length_append];omega),List.append_assoc]) (by rw[gL,Sv.zr];rfl) ?_
  refine Gs ?_
  refine Gc ?_
  iterate 2 refine Gs ?_
  refine ag (tt (n:=n+(ss.length -m)) (s:=r1) rfl (by rw[gL];exact⟨(fun h=>by cases h),by simp only;omega,by simp only;omega,fun _=>rfl⟩) (by rw[gL])) ?_
  refine Gs ?_
  refine ag (Bx (s:=r1) (l:=n+(ss.length -m)) (h:=ss.length) rfl rfl rfl rfl rfl (by rw[gL];exact⟨(fun h=>by cases h),by simp only;omega,by simp only;omega,fun _=>rfl⟩) (by omega) (by rw[gL];simp only;omega)) ?_
  refine SM (D:=r1.sub 19 (n+(ss.length -m)) ss.length) (b:=s.b) (o:=s.o+(n+(ss.length -m))*19) (n:=m -n) (z:= .agg (ax fQ)) rfl (by rw[gL];rfl) (by rw[gL];rfl) (by rw[gL];rfl) (by rw[gL,Sv.tI (by show _<s.cap;omega)]) (by show ss.length -(n+(ss.length -m))=_;omega) (by omega) (show(ax fQ).all (·.oneCell')=true from(inferInstance:bD ax 19).one fQ) (by simp only[List.size_toArray,List.length_append,List.length_drop];omega) fun Z hZ=> ?_
  refine Gc ?_
  iterate 2 refine Gs ?_
  refine Gc ?_
  refine aq (.inl rfl) (aJ rfl (al rfl)) (fun w1 hw=> ?_)
  refine⟨r1,rfl,trivial,?_⟩
  rw[show(pre++(aL ax (ss.take n)++(aL ax (ss.drop m)++(X++mid).drop (aL ax (ss.drop m)).length)))=(pre++(aL ax (ss.take n)++aL ax (ss.drop m)))++(X++mid).drop (aL ax (ss.drop m)).length from by simp only[List.append_assoc],wX (A:=pre++(aL ax (ss.take n)++aL ax (ss.drop m))) (by simp only[List.length_append];omega),←vn,List.append_assoc pre]at hw
  have eR:=Fj (enc:=ax) (i:=0) (xs:=ss.take n++ss.drop m) (pre:=pre) hw rfl r1 (by rw[gL];exact⟨(fun h=>by cases h),by simp only;omega,by simp only;omega,fun _=>rfl⟩) (by rw[gL]) (by rw[gL]) (by rw[gL]) (by rw[gL];exact bX.symm) (by rw[gL];simp only[List.length_append,List.length_take,List.length_drop];omega) (by rw[gL];simp only[List.length_append,List.length_take,List.length_drop];omega)
  exact eR
instance ajo{w0:World}{L R:List ai}{i:Nat}{s:Sv}{ss:List Rt}{n:Nat}{m:Nat}[q:fJ L s ax 19 ss i][d:dw L i R]:cn Tryz.prog 111 w0 L [s.val, .int .i64 (n:Nat), .int .i64 (m:Nat)] (Sv) (fun zz=>zz.val) (fun zz=>own ax 19 zz (ss.take n++ss.drop m)::R) (fun zz=>True) (n≤m∧m≤ss.length):=⟨fun hp w hw=>YP w0 w R s ss n m (GO q.h d.h hw) hp⟩
theorem YR(w0 w:World)(L:List ai)(s:Sv)(ss:List Rt)(v:Sv)(r:Rt)(n:Nat)(hw:Mem w0 (own ax 19 s ss::own ax 19 v [r]::L) w)(bc:n≤ss.length∧ss.length≤1000000):Calls Tryz.prog 112 #[s.val, .int .i64 (n:Nat),v.val] w fun e w'=> ∃zz:Sv,e= .returned (zz.val)∧(True)∧Mem w0 (own ax 19 zz (ss.take n++r::ss.drop n)::L) w':=by
 obtain⟨kP,je⟩:=bc
 refine kB (args:=[_,_,_]) Tryz.func112 rfl Tryz.ntmps112 rfl hw ?_
 change Cw _ _ _ _ _ [(0,s.val),(1, .int .i64 (n:Nat)),(2,v.val)] (own ax 19 s ss::own ax 19 v [r]::L)
 refine Gc ?_
 refine Gs ?_
 refine Gc ?_
 iterate 2 refine Gs ?_
 have YS:Rg n ss.length ss.length:=⟨by omega⟩
 refine ag (BC rfl rfl n rfl YS.h.1) ?_
 refine Gc ?_
 refine Gs ?_
 refine ag (Ry.to (v':= .int .i64 (1:Nat)) (kC rfl) rfl) ?_
 refine Gs ?_
 refine Gc ?_
 iterate 2 refine Gs ?_
 refine Gc ?_
 refine au rfl (fun h0=> ?_) (fun h0=> ?_)
 ·
  replace h0:=bz h0
  exfalso;omega
 ·
  replace h0:=bz h0
  refine Gc ?_
  iterate 3 refine Gs ?_
  refine Gc ?_
  iterate 3 refine Gs ?_
  refine Gc ?_
  refine au rfl (fun h1=> ?_) (fun h1=> ?_)
  ·
   replace h1:=bz h1
   refine Gc ?_
   iterate 2 refine Gs ?_
   refine my (s:=s) (ys:=[r]) rfl rfl (by decide) (fun w hw=>kW (s:=v) Tryz.underlying52 (by decide) ((inferInstance:Hd _ _ v ax 19 [r]).h w hw)) (by simp only[List.length_cons,List.length_nil];omega) (by simp only[List.length_cons,List.length_nil];omega) fun YT ajp ajq=> ?_
   refine Gs ?_
   refine Gc ?_
   refine aq (.inl rfl) (aJ rfl (al rfl)) (fun w1 hw=> ?_)
   exact⟨YT,rfl,trivial,by rw[List.take_of_length_le (by omega),List.drop_of_length_le (by omega)];exact ah.mem hw⟩
  ·
   replace h1:=bz h1
   iterate 4 refine Gi ?_
   have bu:n<ss.length:=by omega
   refine B2 (s:=v) (enc:=ax) inferInstance (by simp) fun NJ wq ajr xS=> ?_
   have NK:v.len=1:=xS
   refine Kl (s:=s) inferInstance (by decide) (by omega) fun pre mid T bX uY nh gE bR py=> ?_
   have hle:=bR.le
   have jc:=bR.bd
   obtain⟨x,hx⟩:=get_some (xs:=ss) (i:=n) (by omega)
   have hA:(aL ax (ss.take n)).length=n*19:=by rw[hK,List.length_take];congr 1;omega
   have hB:(aL ax (ss.drop n)).length=(ss.length -n)*19:=by rw[hK,List.length_drop]
   have ov:(aL ax [r]).length=19:=by rw[hK];rfl
   have YU:(aL ax [x]).length=19:=by rw[hK];rfl
   have vY:aL ax ss=(aL ax (ss.take n))++(aL ax (ss.drop n)):=by rw[←vn,List.take_append_drop]
   have NL:(aL ax (ss.drop n))=(aL ax [x])++(aL ax (ss.drop (n+1))):=by rw[←vn,List.drop_eq_getElem_cons bu,show ss[n]=x from(List.getElem?_eq_some_iff.1 hx).2];rfl
   have sO:(aL ax ss).length=ss.length*19:=hK ss
   have xX:aL ax (ss.take n++r::ss.drop n)=(aL ax (ss.take n))++((aL ax [r])++(aL ax (ss.drop n))):=by rw[vn,←vn [r]];rfl
   have Dt:(ss.take n++r::ss.drop n).length=ss.length+1:=by simp only[List.length_append,List.length_take,List.length_cons,List.length_drop];omega
   have gQ: ∀(w1:World) L',Mem w0 (ar s.b (pre++(aL ax ss++mid)).toArray T::L') w1→ ∀j u,(aL ax ss)[j]? =some u→w1.cell? ⟨s.b,s.o+j,none⟩=some u:=fun w1 L' mq j u hj=>SG mq bX hj
   refine Gi ?_
   iterate 4 refine Gs ?_
   refine ag (SN (n:=s.cap) rfl nh rfl) ?_
   refine Gs ?_
   refine Gc ?_
   refine au rfl (fun h2=> ?_) (fun h2=> ?_)
   ·
    replace h2:=bz h2
    refine Gc ?_
    iterate 2 refine Gs ?_
    refine ag (tu (h:=n) rfl rfl rfl bR (by omega)) ?_
    iterate 5 refine Gs ?_
    refine SL (D:=s.sub 19 0 n) (k:=ss.length+1 -n) (p:=n) (m:=ss.length+1) (olds:=(aL ax (ss.take n))) rfl (by omega) rfl rfl (by omega) (by omega) nh gE (by decide) Tryz.underlying3 hA (fun w hw j u hj=>by
     have jA:=(List.getElem?_eq_some_iff.1 hj).1
     rw[Sv.zr]
     exact gQ w _ hw j u (by rw[vY,List.getElem?_append_left jA];exact hj)) (by show s.cap -0<n -0+_;omega) (by show(n -0+_)*_≤_;omega) (by show n -0+_≤_;omega) fun uz uA Ay ajs ajt=> ?_
    refine Gs ?_
    refine Gc ?_
    iterate 2 refine Gs ?_
    refine ag (rh (s:=(⟨false,uz,0,ss.length+1,uA,none⟩:Sv)) (l:=n) (n:=ss.length+1) rfl rfl rfl ⟨(fun h=>by cases h),by simp only;omega,by simp only;omega,fun _=>rfl⟩ rfl (by omega)) ?_
    refine Gs ?_
    refine B3 (D:=(⟨false,uz,0,ss.length+1,uA,none⟩:Sv).sub 19 n (ss.length+1)) (S:=v) (b:=uz) (o:=n*19) (n:=1) (vs:=(aL ax [r])) (cs':=((aL ax (ss.take n))++((aL ax [r])++Ay.drop 19)).toArray) rfl rfl rfl rfl rfl (by rw[Sv.tI (by show n<uA;omega)];exact Nat.zero_add _) NJ wq (by rw[NK];exact Fi (b:=ss.length+1 -n) (by omega)) (by rw[ov]) (fun w hw j u hj=>Km (enc:=ax) (xs:=[r]) (by decide) inferInstance hw hj) (tv _) (by simp only[List.size_toArray,List.length_append];omega) (by rw[wX (A:=(aL ax (ss.take n))) hA.symm,ov]) ?_
    iterate 3 refine Gi ?_
    refine uV 8 [] (by kernel_rfl) (by kernel_rfl) ?_
    simp only[List.take_succ_cons,List.take_zero]
    iterate 4 refine Gq ?_
    refine bf (rh (s:=(⟨false,uz,0,ss.length+1,uA,none⟩:Sv)) (l:=n+1) (n:=ss.length+1) rfl rfl rfl ⟨(fun h=>by cases h),by simp only;omega,by simp only;omega,fun _=>rfl⟩ rfl (by omega)) ?_
    iterate 2 refine Gq ?_
    refine bf (rh (l:=n) (n:=ss.length) rfl rfl rfl bR py (by omega)) ?_
    refine tm ?_
    refine tn ?_
    simp only[List.drop_succ_cons,List.drop_zero]
    refine B3 (D:=(⟨false,uz,0,ss.length+1,uA,none⟩:Sv).sub 19 (n+1) (ss.length+1)) (S:=s.sub 19 n ss.length) (b:=uz) (o:=(n+1)*19) (n:=ss.length -n) (vs:=(aL ax (ss.drop n))) (cs':=(((aL ax (ss.take n))++(aL ax [r]))++((aL ax (ss.drop n))++(Ay.drop 19).drop (aL ax (ss.drop n)).length)).toArray) rfl rfl rfl rfl rfl (by rw[Sv.tI (by show n+1<uA;omega)];exact Nat.zero_add _) nh gE (Fi (a:=ss.length -n) (b:=ss.length+1 -(n+1)) (by omega)) hB (fun w hw j u hj=>by
     rw[Sv.tI (by omega),Nat.add_assoc]
     exact gQ w _ (hw.sub (by first|exact List.Sublist.refl _|exact List.sublist_cons_self _ _)) (n*19+j) u (by rw[vY,List.getElem?_append_right (by omega),hA,Nat.add_sub_cancel_left];exact hj)) (tv _) (by simp only[List.size_toArray,List.length_append,List.length_drop];omega) (by rw[←List.append_assoc,wX (A:=(aL ax (ss.take n))++(aL ax [r])) (by rw[List.length_append,hA,ov];omega)]) ?_
    refine Gc ?_
    iterate 2 refine Gs ?_
    refine Gc ?_
    refine aq (.inl rfl) (aJ rfl (al rfl)) (fun w1 hw=> ?_)
    refine⟨(⟨false,uz,0,ss.length+1,uA,none⟩:Sv),rfl,trivial,?_⟩
    rw[show((aL ax (ss.take n))++(aL ax [r]))++((aL ax (ss.drop n))++(Ay.drop 19).drop (aL ax (ss.drop n)).length)=[]++(aL ax (ss.take n++r::ss.drop n)++(Ay.drop 19).drop (aL ax (ss.drop n)).length)from by rw[xX];simp only[List.append_assoc,List.nil_append]]at hw
    have eR:=Fj (enc:=ax) (i:=0) (xs:=ss.take n++r::ss.drop n) (pre:=[]) (mid:=(Ay.drop 19).drop (aL ax (ss.drop n)).length) hw rfl (⟨false,uz,0,ss.length+1,uA,none⟩:Sv) ⟨(fun h=>by cases h),by simp only;omega,by simp only;omega,fun _=>rfl⟩ rfl rfl rfl rfl (by rw[Dt]) (by rw[Dt];simp only[List.length_nil,List.length_drop];omega)
    rw[List.set_cons_zero]at eR
    exact ah.mem eR
   ·
    replace h2:=bz h2
    obtain⟨s1,fW⟩: ∃z:Sv,z=⟨false,s.b,s.o,ss.length+1,s.cap,none⟩:=⟨_,rfl⟩
    refine Gc ?_
    iterate 4 refine Gs ?_
    refine ag (Ry.to (v':=s1.val) (tu (h:=ss.length+1) rfl rfl rfl bR (by omega)) (by rw[fW,Sv.sub_eq nh gE])) ?_
    refine Gs ?_
    refine Gc ?_
    iterate 5 refine Gs ?_
    refine ag (rh (s:=s1) (l:=n+1) (n:=ss.length+1) rfl rfl rfl (by rw[fW];exact⟨(fun h=>by cases h),by simp only;omega,by simp only;omega,fun _=>rfl⟩) (by rw[fW]) (by omega)) ?_
    refine ag (SO (V:=v) (D:=s1.sub 19 (n+1) (ss.length+1)) (b:=s.b) (xs:=[r]) rfl rfl (by decide) (by simp) (by rw[fW];rfl) (by rw[fW];rfl) (by rw[fW];rfl) (by simp only[List.size_toArray,List.length_append];omega)) ?_
    refine Gs ?_
    refine Gc ?_
    refine au rfl (fun h3=> ?_) (fun h3=> ?_)
    ·
     replace h3:=bz h3
     refine Gi ?_
     refine uV 8 [] (by kernel_rfl) (by kernel_rfl) ?_
     simp only[List.take_succ_cons,List.take_zero]
     iterate 4 refine Gq ?_
     refine bf (rh (s:=s1) (l:=n+1) (n:=ss.length+1) rfl rfl rfl (by rw[fW];exact⟨(fun h=>by cases h),by simp only;omega,by simp only;omega,fun _=>rfl⟩) (by rw[fW]) (by omega)) ?_
     iterate 2 refine Gq ?_
     refine bf (rh (s:=s1) (l:=n) (n:=ss.length+1) rfl rfl rfl (by rw[fW];exact⟨(fun h=>by cases h),by simp only;omega,by simp only;omega,fun _=>rfl⟩) (by rw[fW]) (by omega)) ?_
     refine tm ?_
     refine tn ?_
     simp only[List.drop_succ_cons,List.drop_zero]
     refine B3 (D:=s1.sub 19 (n+1) (ss.length+1)) (S:=s1.sub 19 n (ss.length+1)) (b:=s.b) (o:=s.o+(n+1)*19) (n:=ss.length -n) (vs:=(aL ax (ss.drop n))) (cs':=(pre++((aL ax (ss.take n))++((aL ax [x])++((aL ax (ss.drop n))++((aL ax (ss.drop (n+1)))++mid).drop (aL ax (ss.drop n)).length)))).toArray) rfl rfl (by rw[fW];rfl) (by rw[fW];rfl) (by rw[fW];rfl) (by rw[fW,Sv.tI (by show _<s.cap;omega)]) (by rw[fW];rfl) (by rw[fW];rfl) (by rw[show ss.length -n=ss.length+1 -(n+1)from by omega];exact SE (a:=ss.length+1 -n) (by omega)) hB (fun w hw j u hj=>by
      rw[fW,Sv.tI (by show _<s.cap;omega),Nat.add_assoc]
      exact gQ w _ hw (n*19+j) u (by rw[vY,List.getElem?_append_right (by omega),hA,Nat.add_sub_cancel_left];exact hj)) (tv _) (by simp only[List.size_toArray,List.length_append];omega) (by
      rw[vY,show pre++(((aL ax (ss.take n))++(aL ax (ss.drop n)))++mid)=(pre++((aL ax (ss.take n))++(aL ax [x])))++((aL ax (ss.drop (n+1)))++mid)from by rw[NL];simp only[List.append_assoc],wX (A:=pre++((aL ax (ss.take n))++(aL ax [x]))) (by simp only[List.length_append];omega)];simp only[List.append_assoc]) ?_
     refine Gc ?_
     iterate 2 refine Gs ?_
     refine ag (rh (s:=s1) (l:=n) (n:=ss.length+1) rfl rfl rfl (by rw[fW];exact⟨(fun h=>by cases h),by simp only;omega,by simp only;omega,fun _=>rfl⟩) (by rw[fW]) (by omega)) ?_
     refine Gs ?_
     refine B3 (D:=s1.sub 19 n (ss.length+1)) (S:=v) (b:=s.b) (o:=s.o+n*19) (n:=1) (vs:=(aL ax [r])) (cs':=(pre++((aL ax (ss.take n))++((aL ax [r])++((aL ax (ss.drop n))++((aL ax (ss.drop (n+1)))++mid).drop (aL ax (ss.drop n)).length)))).toArray) rfl rfl (by rw[fW];rfl) (by rw[fW];rfl) (by rw[fW];rfl) (by rw[fW,Sv.tI (by show _<s.cap;omega)]) NJ wq (by rw[NK];exact Fi (b:=ss.length+1 -n) (by omega)) (by rw[ov]) (fun w hw j u hj=>Km (enc:=ax) (xs:=[r]) (by decide) inferInstance hw hj) (tv _) (by simp only[List.size_toArray,List.length_append];omega) (by
      rw[←List.append_assoc pre,wX (A:=pre++(aL ax (ss.take n))) (by rw[List.length_append];omega),ov,←YU,List.drop_left,List.append_assoc]) ?_
     refine Gc ?_
     iterate 2 refine Gs ?_
     refine Gc ?_
     refine aq (.inl rfl) (aJ rfl (al rfl)) (fun w1 hw=> ?_)
     refine⟨s1,rfl,trivial,?_⟩
     rw[show pre++((aL ax (ss.take n))++((aL ax [r])++((aL ax (ss.drop n))++((aL ax (ss.drop (n+1)))++mid).drop (aL ax (ss.drop n)).length)))=pre++(aL ax (ss.take n++r::ss.drop n)++((aL ax (ss.drop (n+1)))++mid).drop (aL ax (ss.drop n)).length)from by rw[xX];simp only[List.append_assoc]]at hw
     have eR:=Fj (enc:=ax) (i:=0) (xs:=ss.take n++r::ss.drop n) (pre:=pre) (mid:=((aL ax (ss.drop (n+1)))++mid).drop (aL ax (ss.drop n)).length) hw rfl s1 (by rw[fW];exact⟨(fun h=>by cases h),by simp only;omega,by simp only;omega,fun _=>rfl⟩) (by rw[fW]) (by rw[fW]) (by rw[fW]) (by rw[fW];exact bX.symm) (by rw[fW,Dt]) (by rw[fW,Dt];have:=congrArg List.length NL;simp only[List.length_append,List.length_drop]at this⊢;omega)
     rw[List.set_cons_zero]at eR
     exact ah.mem eR
    ·
     exfalso;simp at h3
instance aju{w0:World}{L R1 L2:List ai}{i j:Nat}{s:Sv}{ss:List Rt}{v:Sv}{r:Rt}{n:Nat}[h:fJ L s ax 19 ss i][d1:dw L i R1][q:fJ R1 v ax 19 [r] j][d2:dw R1 j L2]:cn Tryz.prog 112 w0 L [s.val, .int .i64 (n:Nat),v.val] (Sv) (fun zz=>zz.val) (fun zz=>own ax 19 zz (ss.take n++r::ss.drop n)::L2) (fun zz=>True) (n≤ss.length∧ss.length≤1000000):=⟨fun hp w hw=>YR w0 w L2 s ss v r n (sP h.h d1.h q.h d2.h hw) hp⟩
open Go.aA Go.Kb
instance:bD fN 20:=⟨Mu,fun x=>by
 have h:(ax x.r).all (·.oneCell')=true:=bD.one x.r
 rw[fN,Array.all_append,h];simp[Value.oneCell']⟩
instance:Deep Ch:=Deep.flat fN 20
instance (x:Ch):gm (fN x) 20:=⟨Mu x,bD.one x⟩
instance (x:Ch):oA (fN x) 0 19 (ax x.r):=⟨kD _,fun j hj=>by rw[Nat.zero_add];exact Mv x j hj⟩
instance (x:Ch):oA (fN x) 0 18 (da x.r.p):=⟨oG _,fun j hj=>by rw[Nat.zero_add];exact(Mv x j (by omega)).trans (oH x.r j hj)⟩
instance (x:Ch):cw (fN x) 19 (.bool x.gone):=⟨UT x⟩
instance (r:Rt):yT Tryz.prog 91 [(0, .agg (ax r))] (.agg (fN ⟨r,false⟩)):=⟨fun w=>by kernel_rfl⟩
instance:fk Tryz.prog 91 (.agg (fN Mt)):=⟨by unfold fN ax da Mt fQ;rw[vG];kernel_rfl⟩
theorem YV{cs vs:Array Value}(h:cs.size=vs.size):cW cs 0 vs=vs:=by
 unfold cW;apply Array.ext';simp[←h]
theorem YW(w0 w:World)(L:List ai)(t:Sv)(ts:List Rt)(g:Ch)(hw:Mem w0 (own ax 19 t ts::L) w)(bc:ts.length≤1000):Calls Tryz.prog 74 #[t.val, .agg (fN g)] w fun e w'=> ∃zz:Sv,e= .returned (.tuple #[zz.val, .int .i64 (ei ts g)])∧(True)∧Mem w0 (own ax 19 zz (iE ts g)::L) w':=by
 have NM:=Ml ts g.r.p
 refine kB (args:=[_,_]) Tryz.func74 rfl Tryz.ntmps74 rfl hw ?_
 change Cw _ _ _ _ _ [(0,t.val),(1, .agg (fN g))] (own ax 19 t ts::L)
 refine Gc ?_
 refine bY rfl fun b3=> ?_
 iterate 2 refine Gs ?_
 refine Gc ?_
 iterate 2 refine Gs ?_
 refine ag (gD rfl) ?_
 iterate 2 refine Gs ?_
 refine Gc ?_
 refine au rfl (fun h0=> ?_) (fun h0=> ?_)
 ·
  replace h0:=bz h0
  have hm:cq g.r.p=false:=h0
  have he:ei ts g=1:=by rw[ei,if_neg (by rw[hm];simp)]
  refine Gc ?_
  iterate 3 refine Gs ?_
  refine Gc ?_
  refine aq (.inl rfl) (bq rfl (al rfl) (al rfl)) (fun w1 hw=> ?_)
  exact⟨t,by rw[he],trivial,by rw[iE,if_neg (by rw[he];decide)];exact ah.mem hw⟩
 ·
  replace h0:=bz h0
  have hm:cq g.r.p=true:=h0
  refine Gc ?_
  iterate 3 refine Gs ?_
  refine ag (gD rfl) ?_
  refine fH (cE rfl (by omega)) ?_
  refine Gs ?_
  refine ag (aU (v:= .int .i64 ((cF ts g.r.p:Nat):Int)) rfl rfl) ?_
  refine ag (aU (v:= .bool (jw ts g.r.p)) rfl rfl) ?_
  iterate 2 refine Gs ?_
  refine Gc ?_
  iterate 3 refine Gs ?_
  refine Gg ?_
  refine g9 rfl rfl rfl (fun hg=>(Ry.yl (iq (aG hg rfl)))) ?_
  iterate 2 refine Gs ?_
  refine Gc ?_
  refine au rfl (fun h1=> ?_) (fun h1=> ?_)
  ·
   replace h1:=bz h1
   have he:ei ts g=6:=by rw[ei,if_pos hm,if_neg (by rw[h1.2];simp),if_pos h1.1]
   refine Gc ?_
   iterate 3 refine Gs ?_
   refine Gc ?_
   refine aq (.inl rfl) (bq rfl (al rfl) (al rfl)) (fun w1 hw=> ?_)
   exact⟨t,by rw[he],trivial,by rw[iE,if_neg (by rw[he];decide)];exact ah.mem hw⟩
  ·
   replace h1:=bz h1
   refine Gc ?_
   iterate 3 refine Gs ?_
   refine Gc ?_
   refine au rfl (fun h2=> ?_) (fun h2=> ?_)
   ·
    replace h2:=bz h2
    have hb:jw ts g.r.p=true:=by rcases h1 with h|h;(rw[h2]at h;cases h);exact h
    have he:ei ts g=0:=by rw[ei,if_pos hm,if_pos hb]
    have hl:iE ts g=ts.take (cF ts g.r.p)++ts.drop ((cF ts g.r.p)+1):=by rw[iE,if_pos he,if_pos h2]
    obtain⟨r0,_,ov,_⟩:=tY hb
    have bX:=(List.getElem?_eq_some_iff.1 ov).1
    refine Gc ?_
    iterate 3 refine Gs ?_
    refine ag (Ry.to (v':= .int .i64 (((cF ts g.r.p)+1:Nat):Int)) (qf rfl rfl (by omega)) rfl) ?_
    refine bo rfl ⟨by omega,by omega⟩ fun ll NG=> ?_
    iterate 2 refine Gs ?_
    refine Gc ?_
    refine aq (.inl rfl) (bq rfl (al rfl) (al rfl)) (fun w1 hw=> ?_)
    exact⟨ll,by rw[he],trivial,by rw[hl];exact ah.mem hw⟩
   ·
    replace h2:=bz h2
    refine Gc ?_
    iterate 2 refine Gs ?_
    refine Gc ?_
    refine au rfl (fun h3=> ?_) (fun h3=> ?_)
    ·
     replace h3:=bz h3
     have hb:jw ts g.r.p=true:=h3
     have he:ei ts g=0:=by rw[ei,if_pos hm,if_pos hb]
     have hl:iE ts g=ts.set (cF ts g.r.p) g.r:=by rw[iE,if_pos he,if_neg (by rw[h2];simp),if_pos hb]
     obtain⟨r0,_,ov,_⟩:=tY hb
     have bX:=(List.getElem?_eq_some_iff.1 ov).1
     refine Gc ?_
     iterate 3 refine Gs ?_
     refine ag (gD rfl) ?_
     refine ag (bk rfl rfl (cF ts g.r.p) rfl bX) ?_
     refine kX (n:=19) (k:=(cF ts g.r.p)) (j:=0) (a:=r0) (a':=g.r) (xs:=ts) (enc:=ax) (c:=19) (v:= .agg (ax g.r)) (by kernel_rfl) rfl rfl rfl ov (bD.one g.r) (kD g.r) (by decide) (YV (by rw[kD];exact(kD g.r).symm)) ?_
     refine Gc ?_
     iterate 3 refine Gs ?_
     refine Gc ?_
     refine aq (.inl rfl) (bq rfl (al rfl) (al rfl)) (fun w1 hw=> ?_)
     exact⟨t,by rw[he],trivial,by rw[hl];exact ah.mem hw⟩
    ·
     replace h3:=bz h3
     refine Gc ?_
     iterate 4 refine Gs ?_
     refine Gc ?_
     refine au rfl (fun h4=> ?_) (fun h4=> ?_)
     ·
      replace h4:=bz h4
      have he:ei ts g=5:=by rw[ei,if_pos hm,if_neg (by rw[h3];simp),if_neg (by rw[h2];simp),if_pos (by omega)]
      refine Gc ?_
      iterate 3 refine Gs ?_
      refine Gc ?_
      refine aq (.inl rfl) (bq rfl (al rfl) (al rfl)) (fun w1 hw=> ?_)
      exact⟨t,by rw[he],trivial,by rw[iE,if_neg (by rw[he];decide)];exact ah.mem hw⟩
     ·
      replace h4:=bz h4
      have he:ei ts g=0:=by rw[ei,if_pos hm,if_neg (by rw[h3];simp),if_neg (by rw[h2];simp),if_neg (by omega)]
      have hl:iE ts g=ts.take (cF ts g.r.p)++g.r::ts.drop (cF ts g.r.p):=by rw[iE,if_pos he,if_neg (by rw[h2];simp),if_neg (by rw[h3];simp)]
      refine Gc ?_
      iterate 3 refine Gs ?_
      refine ag (gD rfl) ?_
      refine pv (enc:=ax) (vals:=[_]) [g.r] rfl rfl rfl (by decide) (by decide) fun b55=> ?_
      refine bo rfl ⟨by omega,by omega⟩ fun Dm Hv=> ?_
      iterate 2 refine Gs ?_
      refine Gc ?_
      refine aq (.inl rfl) (bq rfl (al rfl) (al rfl)) (fun w1 hw=> ?_)
      exact⟨Dm,by rw[he],trivial,by rw[hl];exact ah.mem hw⟩
instance ajv{w0:World}{L R:List ai}{i:Nat}{t:Sv}{ts:List Rt}{g:Ch}[q:fJ L t ax 19 ts i][d:dw L i R]:cn Tryz.prog 74 w0 L [t.val, .agg (fN g)] (Sv) (fun zz=> .tuple #[zz.val, .int .i64 (ei ts g)]) (fun zz=>own ax 19 zz (iE ts g)::R) (fun zz=>True) (ts.length≤1000):=⟨fun hp w hw=>YW w0 w R t ts g (GO q.h d.h hw) hp⟩
theorem YX(w:World)(t:Sv)(ts:List Rt)(l:Sv)(ls:List Ch)(ht:bQ ax 19 (hp w) t ts)(hl:bQ fN 20 (hp w) l ls)(bc:ts.length≤1000000):Calls Tryz.prog 34 #[t.val,l.val] w fun e w'=> ∃zz:Sv,e= .returned (.tuple #[zz.val, .int .i64 (dA ts ls)])∧(True)∧Mem w [own ax 19 zz (cj ts ls)] w':=by
 have Db:Gv w t ax 19 ts:=⟨ht⟩
 have oX:Gv w l fN 20 ls:=⟨hl⟩
 have HH:=hl.bd
 refine ba (args:=[_,_]) Tryz.func34 rfl Tryz.ntmps34 rfl ?_
 change Cw _ _ _ _ _ [(0,t.val),(1,l.val)] []
 refine Gc ?_
 iterate 2 refine Gs ?_
 refine Gc ?_
 iterate 3 refine Gs ?_
 refine Gc ?_
 refine au rfl (fun h0=> ?_) (fun h0=> ?_)
 ·
  replace h0:=bz h0
  have he:dA ts ls=1:=if_neg (by rw[h0];simp)
  have ha:cj ts ls=ts:=by rw[cj,if_neg (by rw[he];decide)]
  refine Gc ?_
  refine Gs ?_
  refine bo rfl (by omega) fun mi xY=> ?_
  iterate 2 refine Gs ?_
  refine Gc ?_
  refine aq (.inl rfl) (bq rfl (al rfl) (al rfl)) (fun w1 hw=> ?_)
  exact⟨mi,by rw[he],trivial,by rw[ha];exact ah.mem hw⟩
 ·
  replace h0:=bz h0
  have hr:cr ts=true:=h0
  have hlen:=B9 hr
  refine Gc ?_
  refine Gs ?_
  refine bo rfl (by omega) fun aB kv=> ?_
  refine Gs ?_
  refine Gc ?_
  iterate 3 refine Gs ?_
  refine Gc ?_
  refine cc (X:=Nat×Sv×List Rt) (fun zz=>[(19, .int .i64 (zz.1:Nat)),(6,zz.2.1.val),(0,t.val),(17,l.val),(18, .int .i64 (ls.length:Nat))]) (fun zz=>[own ax 19 zz.2.1 zz.2.2]) (fun zz=>zz.1≤ls.length∧gK ts ls=gK zz.2.2 (ls.drop zz.1)∧zz.2.2.length≤256) (fun zz=>ls.length -zz.1) (0,aB,ts) ⟨Nat.zero_le _,rfl,hlen⟩ (Sub.cons rfl (Sub.cons rfl (Sub.cons rfl (Sub.cons rfl (Sub.cons rfl (Sub.nil _)))))) (fun w hw=>ah.mem hw) ?_
  rintro⟨i,s1,q⟩ ⟨bj,aH,bG⟩
  dsimp only
  simp only at bj aH bG
  refine Gc ?_
  refine Gs ?_
  refine Gc ?_
  refine au rfl (fun h1=> ?_) (fun h1=> ?_)
  ·
   replace h1:=bz h1
   iterate 6 refine Gi ?_
   obtain⟨g,hg⟩:=get_some (xs:=ls) (i:=i) (by omega)
   refine ag (bk rfl rfl i rfl (by omega)) ?_
   refine ag (gR rfl i hg rfl) ?_
   refine bH fun b8=> ?_
   refine Gs ?_
   refine Gc ?_
   refine Gs ?_
   refine Gc ?_
   iterate 2 refine Gs ?_
   refine bo rfl (by omega) fun kx qP=> ?_
   refine Gs ?_
   refine ag (aU (v:=kx.val) rfl rfl) ?_
   refine ag (aU (v:= .int .i64 (ei q g)) rfl rfl) ?_
   iterate 2 refine Gs ?_
   refine Gc ?_
   iterate 2 refine Gs ?_
   refine Gc ?_
   refine au rfl (fun h2=> ?_) (fun h2=> ?_)
   ·
    replace h2:=bz h2
    have NN: ¬ei q g=0:=h2
    have ef:gK ts ls=(q,ei q g):=by rw[aH,Mx hg,if_neg NN]
    have he:dA ts ls=ei q g:=by rw[dA,if_pos hr,ef]
    have ha:cj ts ls=ts:=by rw[cj,if_neg (by rw[he];exact NN)]
    refine Gc ?_
    refine Gs ?_
    refine bo rfl (by omega) fun az sX=> ?_
    iterate 3 refine Gs ?_
    refine Gc ?_
    refine aq (.inl rfl) (bq rfl (al rfl) (al rfl)) (fun w1 hw=> ?_)
    exact⟨az,by rw[he],trivial,by rw[ha];exact ah.mem hw⟩
   ·
    replace h2:=bz h2
    refine Gc ?_
    iterate 2 refine Gs ?_
    refine Gi ?_
    exact bA (x:=(i,s1,q)) (i+1,kx,iE q g) ⟨by first|omega|(simp only[];omega),by rw[aH,Mx hg,if_pos h2],Mw bG g⟩ (by simp only;omega) (Sub.cons rfl (Sub.cons rfl (Sub.cons rfl (Sub.cons rfl (Sub.cons rfl (Sub.nil _)))))) (fun w hw=>ah.mem hw)
  ·
   replace h1:=bz h1
   obtain rfl:i=ls.length:=by omega
   have ef:gK ts ls=(q,0):=by rw[aH,List.drop_length];rfl
   have he:dA ts ls=0:=by rw[dA,if_pos hr,ef]
   have ha:cj ts ls=q:=by rw[cj,if_pos he,ef]
   refine Gc ?_
   iterate 3 refine Gs ?_
   refine Gc ?_
   refine aq (.inl rfl) (bq rfl (al rfl) (al rfl)) (fun w1 hw=> ?_)
   exact⟨s1,by rw[he],trivial,by rw[ha];exact ah.mem hw⟩
instance ajw{w0:World}{L:List ai}{t:Sv}{ts:List Rt}{l:Sv}{ls:List Ch}[ht:df w0 L ax 19 t ts][hl:df w0 L fN 20 l ls]:cn Tryz.prog 34 w0 L [t.val,l.val] (Sv) (fun zz=> .tuple #[zz.val, .int .i64 (dA ts ls)]) (fun zz=>own ax 19 zz (cj ts ls)::L) (fun zz=>True) (ts.length≤1000000):=⟨fun hp w hw=>(YX w t ts l ls (ht.h w hw) (hl.h w hw) hp).mono fun e w' ⟨x,h1,h2,h3⟩=>⟨x,h1,h2,hw.call h3⟩⟩
end Go.Proofs.YtaipiecplldinaaGreat
